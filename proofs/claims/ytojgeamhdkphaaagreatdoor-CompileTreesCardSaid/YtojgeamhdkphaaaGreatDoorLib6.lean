/- Lib6: a part of the proof. Conditions: as each theorem says. -/
import Derived.Test.YtojgeamhdkphaaaGreatDoorLib5
set_option linter.unusedSimpArgs false
set_option linter.unusedVariables false
namespace Go.Ai

attribute [simp] ev lk aE BY aH dl xo iY St.v St.put St.puto Og vA cH fE ui AV.cs eP lB rh lT jZ KE KD kY Ar fF Fc I1 Av KG EU AE.sq AE.bl iF xW qp fv AV.ids bR Pl.ids qO ES jn Aq ri byteCells nN xp Ap EQ Pl.lt Id.isUp Id.isIt rx AV.mk AV.mkk MK.av BM KF mT AV.pid
def lE (K:St->Prop) (σ:St):Option (Nat×AV)->Prop
 |some (d,v)=>K (σ.put d v)
 |none=>False
def Mr (A B:St->Prop) (σ:St):AV->Prop
 | .bool t=>if t=true then A σ else B σ
 |_=>False
def Qr (S:Nat->Nat->In->bZ->Prop) (f d:Nat) (K:St->Prop) (σ:St):Option (List AV)->Prop
 |some l=> ∃r,uk S f l r/\K (σ.put d r)
 |none=>False
def Tq (K:St->Prop) (d:Nat) (σ:St):Prop:=K (σ.put d (.tup []))
def Qs (b:Bool) (A U:St->Prop) (σ:St) (v:AV):Prop:=match IW v b with
 |some true=>A σ
 |some false=>U σ
 |none=>False
attribute [simp] cg.eq_1 cg.eq_2 cg.eq_3 cg.eq_4 cg.eq_5 cg.eq_6 cg.eq_7 cg.eq_8 cg.eq_9 cg.eq_10 cg.eq_11 cg.eq_12 cg.eq_13 cg.eq_14 cg.eq_15 cg.eq_16 cg.eq_17 cg.eq_18 cg.eq_19 cg.eq_20 cg.eq_21 cg.eq_22 cg.eq_23 cg.eq_24 cg.eq_25 cg.eq_26 cg.eq_27
def Vh (S:Nat->Nat->In->bZ->Prop) (f d:Nat) (s:Option X) (ps:List X) (K:St->Prop) (σ:St):Prop:= ∃k out,IZ S f σ s ps k out/\K (Au d s (.sl out) k σ)
@[simp] theorem Qt {K:St->Prop} {d:Nat} {σ:St}:Tq K d σ=K (σ.put d (.tup [])):=rfl
section
variable {S:Nat->Nat->In->bZ->Prop} {Q:AE->St->Prop} {σ:St} {B:St->Prop}
@[simp] theorem Qu:em S .sk Q σ=Q .n σ:=rfl
@[simp] theorem Qv {l}:em S (.rg l) Q σ=lQ S l (Q .n) σ:=rfl
@[simp] theorem Qw {us l}:em S (.rd us l) Q σ=j5 S us l 0 [] (Q .n) σ:=rfl
@[simp] theorem Qx {a b}:em S (.sq a b) Q σ=em S a (AE.sq (em S b Q) Q) σ:=rfl
@[simp] theorem Qy {i a}:em S (.bl i a) Q σ=em S a (AE.bl i Q) σ:=rfl
@[simp] theorem Qz {i}:em S (.ex i) Q σ=Q (.x i) σ:=rfl
@[simp] theorem QA:em S .rt Q σ=Q .r σ:=rfl
@[simp] theorem QB {a}:em S (.sc a) Q σ=em S a Q σ:=rfl
@[simp] theorem QC:em S .lb Q σ=Q .n σ:=rfl
@[simp] theorem QD:em S .no Q σ=False:=rfl
def Vi (K:St->Prop) (s:Nat) (σ:St):Prop:= ∃b n sz rows tl,pt σ s b n sz rows tl/\sz<4294967296/\K (pu σ s b sz rows)
@[simp] theorem QE {s l}:em S (.fz s l) Q σ=Vi (lQ S l (Q .n)) s σ:=rfl
@[simp] theorem QG {x a b}:em S (.cd x a b) Q σ=Mr (em S a Q) (em S b Q) σ (σ.v x):=rfl
variable {K A:St->Prop}
@[simp] theorem Ng {d v}:lE K σ (some (d,v))=K (σ.put d v):=rfl
@[simp] theorem Nh:lE K σ none=False:=rfl
@[simp] theorem Ni:Mr A B σ (.bool true)=A σ:=rfl
@[simp] theorem Ms:Mr A B σ (.bool false)=B σ:=rfl
theorem l5 {t:Bool} (h1:t=true->A σ) (h2:t=false->B σ):Mr A B σ (.bool t):=by cases t;exact h2 rfl;exact h1 rfl
@[simp] theorem Om:lQ S [] K σ=K σ:=rfl
@[simp] theorem Nj {o r}:lQ S (o::r) K σ=cg S o (lQ S r K) σ:=rfl
@[simp] theorem Nk {j h}:j5 S [] [] j h K σ=K σ:=rfl
@[simp] theorem Mt {u us o r j h}:j5 S (u::us) (o::r) j h K σ=(I1 h u (fF σ o)/\cg S o (Ac h u (j5 S us r (j+1) (Av h j (fF σ o)) K)) σ):=rfl
@[simp] theorem Oo {u}:Ac [] u K=K:=rfl
@[simp] theorem Oq {i b h u}:Ac ((i,.one b)::h) u K=Ac h u K:=rfl
@[simp] theorem QH {i l h u}:Ac ((i,.fr l)::h) u K=Ac h u K:=rfl
@[simp] theorem Ot {i b off v h u}:Ac ((i,.cel b off v)::h) u K σ=((i∈u->fE σ.bx (.ptr b off)=some v)/\Ac h u K σ):=rfl
@[simp] theorem QI {d f xs}:cg S (.cl d f xs) K σ=Qr S f d K σ (lB (xs.map σ.v)):=rfl
@[simp] theorem QJ {d f s ps}:cg S (.ca d f s ps) K σ=Vh S f d s ps K σ:=rfl
attribute [simp] cg.eq_32 cg.eq_33
def Vm (S:Nat->Nat->In->bZ->Prop) (f d:Nat) (K:St->Prop) (σ:St):List AV->Prop
 | .ptr b o::r=>match aE σ.bx b with
  |some cs=> ∃v,(∀e,b.isNw e=false->S f e ⟨.ptr b o::r,[(b,cs)],[]⟩ ⟨v,[(b,cs)],[]⟩)/\K ⟨(d,v)::σ.e,σ.bx,iY (xp σ.pm b) d⟩
  |none=>False
 |_=>False
def Tr (S:Nat->Nat->In->bZ->Prop) (f d:Nat) (xs:List X) (fr:List Nat) (K:St->Prop) (σ:St):Prop:= ∃I O,S f d I O/\cZ d σ xs I O/\(IV (mT σ fr) I O/\fr.contains d=false)/\K (bH d σ xs I O)
@[simp] theorem QK {d f xs fr}:cg S (.cq d f xs fr) K σ=Tr S f d xs fr K σ:=by rw[cg];rfl
@[simp] theorem QL {s b d o}:cg S (.gd s b d o) K σ=Qs b (cg S o K) (Tq K d) σ (lk σ.e s):=by
 rw[cg];rfl
@[simp] theorem Nl {b t:Bool} {A U:St->Prop}:Qs b A U σ (.bool t)=Mr (if true=b then A else U) (if false=b then A else U) σ (.bool t):=by
 cases t<;>cases b<;>rfl
@[simp] theorem Ou {b:Bool} {A U:St->Prop}:Qs b A U σ (.tup [])=U σ:=rfl
@[simp] theorem QM {d x}:cg S (.mv d x) K σ=lE K σ (ev σ (.mv d x)):=rfl
@[simp] theorem QN {d c a b}:cg S (.pk d c a b) K σ=lE K σ (ev σ (.pk d c a b)):=rfl
@[simp] theorem QO {d op x y}:cg S (.bi d op x y) K σ=lE K σ (ev σ (.bi d op x y)):=rfl
@[simp] theorem QP {d n x y}:cg S (.bb d n x y) K σ=lE K σ (ev σ (.bb d n x y)):=rfl
@[simp] theorem QQ {d n ks x y}:cg S (.ea d n ks x y) K σ=lE K σ (ev σ (.ea d n ks x y)):=rfl
@[simp] theorem QS {d x}:cg S (.bq d x) K σ=lE K σ (ev σ (.bq d x)):=rfl
@[simp] theorem QT {d n x}:cg S (.pn d n x) K σ=lE K σ (ev σ (.pn d n x)):=rfl
@[simp] theorem QU {d op x}:cg S (.un d op x) K σ=lE K σ (ev σ (.un d op x)):=rfl
@[simp] theorem QV {d k x}:cg S (.cv d k x) K σ=lE K σ (ev σ (.cv d k x)):=rfl
@[simp] theorem Ov {d x}:cg S (.lns d x) K σ=lE K σ (ev σ (.lns d x)):=rfl
@[simp] theorem QW {d x}:cg S (.ln d x) K σ=lE K σ (ev σ (.ln d x)):=rfl
@[simp] theorem QX {d x o}:cg S (.fa d x o) K σ=lE K σ (ev σ (.fa d x o)):=rfl
@[simp] theorem QY {d s x i}:cg S (.ia d s x i) K σ=lE K σ (ev σ (.ia d s x i)):=rfl
@[simp] theorem Ow {d s n x i}:cg S (.iaa d s n x i) K σ=lE K σ (ev σ (.iaa d s n x i)):=rfl
@[simp] theorem Ox {d x}:cg S (.lds d x) K σ=lE K σ (ev σ (.lds d x)):=rfl
@[simp] theorem Oy {d x}:cg S (.ldf d x) K σ=lE K σ (ev σ (.ldf d x)):=rfl
@[simp] theorem Oz {d n x}:cg S (.lda d n x) K σ=lE K σ (ev σ (.lda d n x)):=rfl
@[simp] theorem QZ {d z ps}:cg S (.bd d z ps) K σ=lE K σ (ev σ (.bd d z ps)):=rfl
@[simp] theorem OA {d o x}:cg S (.fls d o x) K σ=lE K σ (ev σ (.fls d o x)):=rfl
@[simp] theorem OB {d o n x}:cg S (.fla d o n x) K σ=lE K σ (ev σ (.fla d o n x)):=rfl
@[simp] theorem OC {d x i}:cg S (.ixs d x i) K σ=lE K σ (ev σ (.ixs d x i)):=rfl
@[simp] theorem OD {d x i}:cg S (.exq d x i) K σ=lE K σ (ev σ (.exq d x i)):=rfl
@[simp] theorem Q0 {d f xs}:cg S (.mf d f xs) K σ=lE K σ (ev σ (.mf d f xs)):=rfl
@[simp] theorem OE {d x}:cg S (.b2s d x) K σ=lE K σ (ev σ (.b2s d x)):=rfl
@[simp] theorem OF {d x}:cg S (.i2s d x) K σ=lE K σ (ev σ (.i2s d x)):=rfl
@[simp] theorem OG {d n x}:cg S (.inl d n x) K σ=lE K σ (ev σ (.inl d n x)):=rfl
@[simp] theorem OH {d s n g x i}:cg S (.ixa d s n g x i) K σ=lE K σ (ev σ (.ixa d s n g x i)):=rfl
@[simp] theorem OI {d x}:cg S (.mpl d x) K σ=lE K σ (ev σ (.mpl d x)):=rfl
@[simp] theorem OJ {d q z m k ok}:cg S (.mlk d q z m k ok) K σ=lE K σ (ev σ (.mlk d q z m k ok)):=rfl
@[simp] theorem Q1 {d x y}:cg S (.mn d x y) K σ=lE K σ (ev σ (.mn d x y)):=rfl
@[simp] theorem Q2 {d x y}:cg S (.mx d x y) K σ=lE K σ (ev σ (.mx d x y)):=rfl
@[simp] theorem Q3 {d T x}:cg S (.mi d T x) K σ=lE K σ (ev σ (.mi d T x)):=rfl
@[simp] theorem Q4 {d T z x ok}:cg S (.ta d T z x ok) K σ=lE K σ (ev σ (.ta d T z x ok)):=rfl
@[simp] theorem Q5 {d x}:cg S (.nc d x) K σ=lE K σ (ev σ (.nc d x)):=rfl
end
@[simp] theorem OK (v:AV):wk v v:= .inl rfl
@[simp] theorem Q6:wk .nils (.sl []):= .inr ⟨rfl,rfl⟩
@[simp] theorem Mu (z:List AV) (off:Nat) (vs:List AV):gO z off vs=z.take off++vs++z.drop (off+vs.length):=rfl

@[simp] theorem Ts {a u}:wk (.sl a) u=(AV.sl a=u):=by simp[wk]
@[simp] theorem Q7 {k a u}:wk (.int k a) u=(AV.int k a=u):=by simp[wk]
@[simp] theorem OL {a u}:wk (.bool a) u=(AV.bool a=u):=by simp[wk]
@[simp] theorem Q8 {a u}:wk (.str a) u=(AV.str a=u):=by simp[wk]
@[simp] theorem Q9 {a u}:wk (.agg a) u=(AV.agg a=u):=by simp[wk]
@[simp] theorem Ra {a u}:wk (.pin a) u=(AV.pin a=u):=by simp[wk]
@[simp] theorem Rb {a b u}:wk (.ptr a b) u=(AV.ptr a b=u):=by simp[wk]
@[simp] theorem Nm {a}:wk .nils (.sl a)=(a=[]):=by simp[wk]
theorem aj {σ τ:St} (e: ∀p∈τ.e,wk (lk σ.e p.1) p.2) (b: ∀p∈τ.bx,ES σ.bx p.1 p.2) (p: ∀p∈τ.pm,aH σ.pm p.1=some p.2\/jn σ p.1)
 (ei: ∀p∈τ.e,∀d∈p.2.ids,(aE τ.bx d).isSome\/d.isUp=true) (bi: ∀p∈τ.bx,∀d∈bR p.2,(aE τ.bx d).isSome\/d.isUp=true) (pi: ∀p∈τ.pm,∀d∈p.1.ids,(aE τ.bx d).isSome):fx σ τ:=⟨e,b,p,ei,bi,pi⟩

def Nn {α:Type} (st:α->St) (I:α->Prop) (μ:α->Nat) (x:α) (σ:St):Prop:= ∃y,I y/\μ y<μ x/\um σ (st y)
theorem Fy {α:Type} {st:α->St} {I:α->Prop} {μ:α->Nat} {x:α} {σ:St} (y:α) (h1:I y) (h2:μ y<μ x) (h3:fx σ (st y)):Nn st I μ x σ:=⟨y,h1,h2,.inl h3⟩
theorem ay {n:Int} (h1: -9223372036854775808<=n) (h2:n<9223372036854775808):IntKind.i64.wrap n=n:=by
 have e1:(2:Int)^64=18446744073709551616:=by decide
 have e2:(2:Int)^(64 - 1)=9223372036854775808:=by decide
 have:IntKind.i64.wrap n=if (true&&decide (n%2^64>=2^(64 - 1)))=true then n%2^64 - 2^64 else n%2^64:=rfl
 rw[this];simp only[e1,e2,iX,nL];split<;>omega
theorem eU {n:Int} (h1:0<=n) (h2:n<18446744073709551616):IntKind.u64.wrap n=n:=by
 have e1:(2:Int)^64=18446744073709551616:=by decide
 have e2:(2:Int)^(64 - 1)=9223372036854775808:=by decide
 have:IntKind.u64.wrap n=if (false&&decide (n%2^64>=2^(64 - 1)))=true then n%2^64 - 2^64 else n%2^64:=rfl
 rw[this];simp only[e1,e2,jC];simp;omega
theorem rN {n:Int} (h1:0<=n) (h2:n<4294967296):IntKind.u32.wrap n=n:=by
 have e1:(2:Int)^32=4294967296:=by decide
 have:IntKind.u32.wrap n=if (false&&decide (n%2^32>=2^(32 - 1)))=true then n%2^32 - 2^32 else n%2^32:=rfl
 rw[this];simp only[e1,jC];simp;omega
theorem gV {n:Int}:IntKind.u32.wrap n=n%4294967296:=by
 have e1:(2:Int)^32=4294967296:=by decide
 have:IntKind.u32.wrap n=if (false&&decide (n%2^32>=2^(32 - 1)))=true then n%2^32 - 2^32 else n%2^32:=rfl
 rw[this];simp only[e1,jC];simp
theorem Ch {n:Int} (h1:0<=n) (h2:n<256):IntKind.u8.wrap n=n:=by
 have e1:(2:Int)^8=256:=by decide
 have:IntKind.u8.wrap n=if (false&&decide (n%2^8>=2^(8 - 1)))=true then n%2^8 - 2^8 else n%2^8:=rfl
 rw[this];simp only[e1,jC];simp;omega
theorem DM {n:Int}:IntKind.u64.wrap n=n%18446744073709551616:=by
 have e1:(2:Int)^64=18446744073709551616:=by decide
 have:IntKind.u64.wrap n=if (false&&decide (n%2^64>=2^(64 - 1)))=true then n%2^64 - 2^64 else n%2^64:=rfl
 rw[this];simp only[e1,jC];simp
theorem oi {S:Nat->Nat->In->bZ->Prop} {K K':St->Prop} (hk: ∀σ,K σ->K' σ): ∀ {o:bE} {σ:St},cg S o K σ->cg S o K' σ:=by
 intro o;induction o with
 |gd s b d o ih=>
  intro σ h;simp only[cg] at h ⊢;split at h
  ·exact ih h
  ·exact hk _ h
  ·cases h
 |ce d f xs=>intro σ h;obtain ⟨I,O,h1,h2,h3⟩:=h;exact ⟨I,O,h1,h2,hk _ h3⟩
 |cq d f xs fr=>intro σ h;obtain ⟨I,O,h1,h2,h3,h4⟩:=h;exact ⟨I,O,h1,h2,h3,hk _ h4⟩
 |cd d x xs=>
  intro σ h;simp only[cg] at h ⊢;split at h
  ·split at h
   ·rename_i hb;rw[if_pos hb];obtain ⟨I,O,h1,h2,h3⟩:=h;exact ⟨I,O,h1,h2,hk _ h3⟩
   ·rename_i hb;rw[if_neg hb];obtain ⟨I,O,h1,h2,h3⟩:=h;exact ⟨I,O,h1,h2,hk _ h3⟩
  ·cases h
 |nx d x=>
  intro σ h;simp only[cg] at h ⊢;split at h
  ·split at h
   ·split at h
    ·rename_i e;rw[if_pos e];exact hk _ h
    ·rename_i e;rw[if_neg e];exact hk _ h
   ·cases h
  ·cases h
 |_=>
  intro σ h;simp only[cg] at h ⊢;repeat' (first|(split at h)|contradiction)
  all_goals first
   |exact hk _ h
   |(obtain ⟨g1,g2⟩:=h;exact ⟨g1,hk _ g2⟩)
   |(obtain ⟨g1,g2,g3⟩:=h;exact ⟨g1,g2,hk _ g3⟩)
   |(obtain ⟨g1,g2,g3,g4⟩:=h;exact ⟨g1,g2,g3,hk _ g4⟩)
   |(obtain ⟨g1,g2,g3,g4,g5⟩:=h;exact ⟨g1,g2,g3,g4,hk _ g5⟩)
   |(obtain ⟨g1,g2,g3,g4,g5,g6⟩:=h;exact ⟨g1,g2,g3,g4,g5,hk _ g6⟩)
   |(obtain ⟨g1,g2,g3,g4,g5,g6,g7,g8⟩:=h;exact ⟨g1,g2,g3,g4,g5,g6,g7,hk _ g8⟩)
   |(obtain ⟨g1,g2,g3,g4,g5,g6,g7,g8,g9,g10,g11⟩:=h;exact ⟨g1,g2,g3,g4,g5,g6,g7,g8,g9,g10,hk _ g11⟩)
   |(obtain ⟨g1,g2,g3,g4,g5,g6,g7,g8,g9,g10,g11,g12,g13,g14⟩:=h;exact ⟨g1,g2,g3,g4,g5,g6,g7,g8,g9,g10,g11,g12,g13,hk _ g14⟩)
theorem No {S:Nat->Nat->In->bZ->Prop} {α:Type} {c:AC} {Q:AE->St->Prop} (st:α->St) (I:α->Prop) (μ:α->Nat)
  (step: ∀x,I x->em S c (AE.sq (Nn st I μ x) Q) (st x)) {σ:St} (x:α) (hx:I x) (hw:fx σ (st x)):em S (.lp c) Q σ:=by
 have mono: ∀ {c:AC} {Q Q':AE->St->Prop} {σ:St},(∀e σ,Q e σ->Q' e σ)->em S c Q σ->em S c Q' σ:=by
  intro c;have m1: ∀ {o:bE} {K K':St->Prop} {σ:St},(∀σ,K σ->K' σ)->cg S o K σ->cg S o K' σ:=fun hk h=>oi hk h
  have mL: ∀ {l:List bE} {K K':St->Prop} {σ:St},(∀σ,K σ->K' σ)->lQ S l K σ->lQ S l K' σ:=by
   intro l;induction l with
   |nil=>intro K K' σ hk h;exact hk _ h
   |cons o r ih=>intro K K' σ hk h;exact m1 (fun σ h=>ih hk h) h
  have mD: ∀ {us:List (List Nat)} {l:List bE} {j:Nat} {h:List (Nat×Bx)} {K K':St->Prop} {σ:St},(∀σ,K σ->K' σ)->j5 S us l j h K σ->j5 S us l j h K' σ:=by
   intro us;induction us with
   |nil=>intro l j h K K' σ hk hw;cases l with
    |nil=>exact hk _ hw
    |cons=>exact hw.elim
   |cons u us ih=>intro l j h K K' σ hk hw;cases l with
    |nil=>exact hw.elim
    |cons o r=>exact ⟨hw.1,m1 (fun σ h=>eK.2 ⟨(eK.1 h).1,ih hk (eK.1 h).2⟩) hw.2⟩
  have sqm: ∀ {B B':St->Prop} {Q Q':AE->St->Prop},(∀σ,B σ->B' σ)->(∀e σ,Q e σ->Q' e σ)-> ∀e σ,AE.sq B Q e σ->AE.sq B' Q' e σ:=by
   intro B B' Q Q' hb hq e σ h;cases e
   ·exact hb _ h
   ·exact hq _ _ h
   ·exact hq _ _ h
  induction c with
  |sk=>intro Q Q' σ hq h;exact hq _ _ h
  |rg l=>intro Q Q' σ hq h;exact mL (fun σ h=>hq _ _ h) h
  |rd us l=>intro Q Q' σ hq h;exact mD (fun σ h=>hq _ _ h) h
  |sq a b iha ihb=>intro Q Q' σ hq h;exact iha (sqm (fun σ h=>ihb hq h) hq) h
  |cd x a b iha ihb=>
   intro Q Q' σ hq h;unfold em at h ⊢;split at h
   ·rename_i t ht;split at h
    ·rename_i e;rw[if_pos e];exact iha hq h
    ·rename_i e;rw[if_neg e];exact ihb hq h
   ·cases h
  |bl i a ih=>
   intro Q Q' σ hq h;refine ih (fun e σ h=>?_) h;cases e
   ·exact hq _ _ h
   ·rename_i j;unfold AE.bl at h ⊢;by_cases e:j=i
    ·simp only[if_pos e] at h ⊢;exact hq _ _ h
    ·simp only[if_neg e] at h ⊢;exact hq _ _ h
   ·exact hq _ _ h
  |lp a ih=>
   intro Q Q' σ hq h;obtain ⟨n,hn⟩:=h;refine ⟨n,?_⟩;induction n generalizing σ with
   |zero=>exact hn
   |succ n ihn=>
    obtain ⟨τ,hτ,hb⟩:=hn;exact ⟨τ,hτ,ih (sqm (fun σ h=>ihn h) hq) hb⟩
  |ex i=>intro Q Q' σ hq h;exact hq _ _ h
  |rt=>intro Q Q' σ hq h;exact hq _ _ h
  |sc a ih=>intro Q Q' σ hq h;exact ih hq h
  |lb=>intro Q Q' σ hq h;exact hq _ _ h
  |no=>intro Q Q' σ hq h;exact h
  |fz s l=>intro Q Q' σ hq h;obtain ⟨b,n,sz,rows,tl,q1,q2,q3⟩:=h;exact ⟨b,n,sz,rows,tl,q1,q2,mL (fun σ h=>hq _ _ h) q3⟩
 have key: ∀n x,μ x<n->I x-> ∀σ,um σ (st x)->B3 (em S c) Q n σ:=by
  intro n;induction n with
  |zero=>intro x h;omega
  |succ n ih=>
   intro x hn hx σ hw;refine ⟨st x,hw,mono ?_ (step x hx)⟩;intro e σ' h;cases e
   ·obtain ⟨y,hy,hlt,hwy⟩:=h;exact ih y (by omega) hy σ' hwy
   ·exact h
   ·exact h
 exact ⟨μ x+1,key _ x (by omega) hx σ (.inl hw)⟩

theorem aY {S:Nat->Nat->In->bZ->Prop} {α:Type} {c:AC} {Q:AE->St->Prop} (st:α->St) (I:α->Prop) (μ:α->Nat)
  (step: ∀(K:St->Prop) (x:α),(∀(y:α) (σ':St),I y->μ y<μ x->fx σ' (st y)->K σ')->I x->em S c (AE.sq K Q) (st x)) {σ:St} (x:α) (hx:I x) (hw:fx σ (st x)):em S (.lp c) Q σ:=
 No st I μ (fun x hx=>step (Nn st I μ x) x (fun y σ' h1 h2 h3=>Fy y h1 h2 h3) hx) x hx hw
def AC.tl:Nat->AC->AC
 |0,c=>c
 |n+1,.sq _ b=>b.tl n
 |_,c=>c
@[irreducible] def bh (P:Program) (GL:List (Nat×List Value)) (f d:Nat) (I:In) (O:bZ):Prop:=bM P GL f d I O
theorem gD (P:Program) (GL:List (Nat×List Value)):bh P GL=bM P GL:=by funext f d I O;unfold bh;rfl
@[irreducible] def Sp (P:Program) (GL:List (Nat×List Value)) (f:Nat) (l:List AV) (r:AV):Prop:=uk (bh P GL) f l r
theorem yH (P:Program) (GL:List (Nat×List Value)) {f:Nat} {l:List AV} {r:AV}:Sp P GL f l r↔uk (bM P GL) f l r:=by unfold Sp;rw[gD]
theorem aZ {P:Program} {GL:List (Nat×List Value)} {K:St->Prop} {σ:St} {f d:Nat} {l:List AV} (r:AV) (h:Sp P GL f l r) (hk:K (σ.put d r)):Qr (bh P GL) f d K σ (some l):=by
 unfold Sp at h;exact ⟨r,h,hk⟩
theorem ab {P:Program} {GL:List (Nat×List Value)} {K:St->Prop} {σ:St} {f d:Nat} {l:List AV} {r:AV} (h:Sp P GL f l r) (hk:K (σ.put d r)):Qr (bh P GL) f d K σ (some l):=aZ r h hk
theorem Lp {P:Program} {GL:List (Nat×List Value)} {dr:Array Oper->List (List Nat)->List bE->Bool} {f:Nat} {fn:Func} {af:AF} (hf:P.funcs[f]?=some fn) (hm:mF P GL dr fn af=true) (hd:cJ P GL af.N dr) {l:List AV} {r:AV} (hl:l.length=af.np) (hi:bR l=[])
  (hw:em (bh P GL) af.c (qp af.rs r) ⟨fv 0 l,[],[]⟩):Sp P GL f l r:=by
 rw[gD] at hw;exact (yH P GL).2 (DI hf hm hd hl hi hw)
end Go.Ai
namespace Go.Ai
open Go.RowKit
variable {P:Program} {F:Fr} {S:aS} {gb:Gb} {σ:St} {a:Act} {w:World}

end Go.Ai
namespace Go.Ai
open Go.RowKit
variable {P:Program} {F:Fr} {S:aS} {gb:Gb} {σ:St} {a:Act} {w:World}

mutual
def nz:AV->AV
 | .nils=> .sl []
 | .fn g cs=> .fn g (Fz cs)
 | .agg cs=> .agg (Fz cs)
 | .tup cs=> .tup (Fz cs)
 |v=>v
def Fz:List AV->List AV
 |[]=>[]
 |v::r=>nz v::Fz r
end
def aw (I:In):St:=⟨fv 0 (aO Id.up I.vs),aW Id.up I.bx,aX Id.up I.pm⟩

mutual
theorem ju {f:Id->Id}: ∀ {v:AV},v.ids=[]->v.mp f=v
 | .ptr _ _,h=>by simp[AV.ids] at h
 | .ms _ _ _ _,h=>by simp[AV.ids] at h
 | .itp _,h=>by simp[AV.ids] at h
 | .mref _,h=>by simp[AV.ids] at h
 | .nilT _ _ _,h=>by simp[AV.ids] at h
 | .mpv _,_=>rfl
 | .fn g cs,h=>by simp only[AV.mp];rw[aT (by simpa[AV.ids] using h)]
 | .agg cs,h=>by simp only[AV.mp];rw[aT (by simpa[AV.ids] using h)]
 | .tup cs,h=>by simp only[AV.mp];rw[aT (by simpa[AV.ids] using h)]
 | .undef,_=>rfl
 | .int _ _,_=>rfl
 | .bool _,_=>rfl
 | .str _,_=>rfl
 | .nils,_=>rfl
 | .sl _,_=>rfl
 | .pin _,_=>rfl
 | .itr _ _,_=>rfl
 | .nilp,_=>rfl
 | .ifc _ v,h=>by simp only[AV.mp];rw[ju (v:=v) (by simpa[AV.ids] using h)]
 | .nili,_=>rfl
 | .yv _,_=>rfl
theorem aT {f:Id->Id}: ∀ {l:List AV},bR l=[]->aO f l=l
 |[],_=>rfl
 |v::r,h=>by
  simp only[bR,List.append_eq_nil_iff] at h;simp only[aO];rw[ju h.1,aT h.2]
end
mutual
theorem Ci {S:aS} {gb:Gb}: ∀(v:AV) (u:Value),PR S gb v u->PR S (fG gb) (v.mp Id.up) u
 | .ptr d o,u,h=>by simpa only[AV.mp,PR,fG,Id.isIt] using h
 | .ms d o n sz,u,h=>by simpa only[AV.mp,PR,fG,Id.isIt] using h
 | .itp _,u,_=>by simp[AV.mp,PR]
 | .mref d,u,h=>by simpa only[AV.mp,PR,fG,Id.isIt] using h
 | .nilT d _ _,u,h=>by simpa only[AV.mp,PR,fG] using h
 | .mpv _,_,h=>by simp only[PR] at h
 | .fn g cs,u,h=>by
  simp only[AV.mp,PR] at h ⊢;obtain ⟨us,h1,h2⟩:=h;exact ⟨us,h1,dW _ _ h2⟩
 | .agg cs,u,h=>by
  simp only[AV.mp,PR] at h ⊢;obtain ⟨us,h1,h0,h2⟩:=h;exact ⟨us,h1,h0,dW _ _ h2⟩
 | .tup cs,u,h=>by
  simp only[AV.mp,PR] at h ⊢;obtain ⟨us,h1,h2⟩:=h;exact ⟨us,h1,dW _ _ h2⟩
 | .undef,_,_=>by simp only[AV.mp,PR]
 | .int _ _,_,h=>by simpa only[AV.mp,PR] using h
 | .bool _,_,h=>by simpa only[AV.mp,PR] using h
 | .str _,_,h=>by simpa only[AV.mp,PR] using h
 | .nils,_,h=>by simpa only[AV.mp,PR] using h
 | .sl _,_,h=>by simpa only[AV.mp,PR] using h
 | .pin _,_,h=>by simpa only[AV.mp,PR] using h
 | .itr _ _,_,h=>by simp only[PR] at h
 | .nilp,_,h=>by simpa only[AV.mp,PR] using h
 | .ifc _ v,u,h=>by
  simp only[AV.mp,PR] at h ⊢;obtain ⟨us,h1,h2⟩:=h;exact ⟨us,h1,Ci v _ h2⟩
 | .nili,_,h=>by simpa only[AV.mp,PR] using h
 | .yv _,_,h=>by simpa only[AV.mp,PR] using h
theorem dW {S:aS} {gb:Gb}: ∀(l:List AV) (us:List Value),aa S gb l us->aa S (fG gb) (aO Id.up l) us
 |[],us,h=>by simpa only[aO,aa] using h
 |v::r,us,h=>by
  simp only[aO,aa] at h ⊢;obtain ⟨u,us',h1,h2,h3⟩:=h;exact ⟨u,us',h1,Ci v u h2,dW r us' h3⟩
end
mutual
theorem KL {S:aS} {gb:Gb}: ∀(v:AV) (u:Value),PR S gb v u->PR S gb (nz v) u
 | .nils,u,h=>by simp only[nz,PR] at h ⊢;exact .inl ⟨h,trivial⟩
 | .fn g cs,u,h=>by
  simp only[nz,PR] at h ⊢;obtain ⟨us,h1,h2⟩:=h;exact ⟨us,h1,kD _ _ h2⟩
 | .agg cs,u,h=>by
  simp only[nz,PR] at h ⊢;obtain ⟨us,h1,h0,h2⟩:=h;exact ⟨us,h1,h0,kD _ _ h2⟩
 | .tup cs,u,h=>by
  simp only[nz,PR] at h ⊢;obtain ⟨us,h1,h2⟩:=h;exact ⟨us,h1,kD _ _ h2⟩
 | .ptr _ _,_,h=>h
 | .ms _ _ _ _,_,h=>h
 | .itp _,_,h=>h
 | .mref _,_,h=>h
 | .nilT _ _ _,_,h=>h
 | .mpv _,_,h=>h
 | .undef,_,h=>h
 | .int _ _,_,h=>h
 | .bool _,_,h=>h
 | .str _,_,h=>h
 | .sl _,_,h=>h
 | .pin _,_,h=>h
 | .itr _ _,_,h=>h
 | .nilp,_,h=>h
 | .ifc _ _,_,h=>h
 | .nili,_,h=>h
 | .yv _,_,h=>h
theorem kD {S:aS} {gb:Gb}: ∀(l:List AV) (us:List Value),aa S gb l us->aa S gb (Fz l) us
 |[],us,h=>h
 |v::r,us,h=>by
  simp only[Fz,aa] at h ⊢;obtain ⟨u,us',h1,h2,h3⟩:=h;exact ⟨u,us',h1,KL v u h2,kD r us' h3⟩
end
theorem rO: ∀(l:List AV),(Fz l).length=l.length
 |[]=>rfl
 |v::r=>by simp only[Fz,jG,rO r]
theorem gZ {f:Id->Id}: ∀(l:List AV),(aO f l).length=l.length
 |[]=>rfl
 |v::r=>by simp only[aO,jG,gZ r]

def dG (d:Nat) (gbc:Gb) (ob:List (Id×List AV)):Gb:=fun i=>if i.isNw d=true/\(aE ob i).isSome=false then none else gbc (i.inn d)
def Lq:Id->Bool
 | .it _=>false
 |_=>true
@[simp] theorem Tt {k:Nat}:Lq (.n k)=true:=rfl
@[simp] theorem Rc {i:Id}:Lq (.up i)=true:=rfl
@[simp] theorem Re {d:Nat} {i:Id}:Lq (.nw d i)=true:=rfl
@[simp] theorem Rf {i:Id} {k:Nat}:Lq (.ix i k)=true:=rfl
@[simp] theorem Rg {i:Id} (h:i.isIt=false):Lq i=true:=by
 cases i<;>first|rfl|(simp[Id.isIt] at h)
def yI (d:Nat) (ob:List (Id×List AV)) (i:Id):Prop:=Lq i=true/\(i.isNw d=true->(aE ob i).isSome=true)
theorem eV {d:Nat} {gbc:Gb} {ob:List (Id×List AV)} {i:Id} (h:i.isNw d=true->(aE ob i).isSome=true):dG d gbc ob i=gbc (i.inn d):=by
 unfold dG;rw[if_neg];rintro ⟨h1,h2⟩;rw[h h1] at h2;cases h2
theorem jv {d:Nat} {i:Id}:(i.inn d).isIt=i.isIt:=by
 cases i<;>simp only[Id.inn]<;>(try split)<;>simp_all[Id.isIt]
mutual
theorem AO {S:aS} {d:Nat} {gbc:Gb} {ob:List (Id×List AV)}: ∀(v:AV) (u:Value),(∀i∈v.ids,yI d ob i)->PR S gbc (v.mp (Id.inn d)) u->PR S (dG d gbc ob) v u
 | .ptr i o,u,hi,h=>by
  obtain ⟨h1,h2⟩:=hi i (by simp[AV.ids]);simp only[AV.mp,PR] at h ⊢;obtain ⟨g,z,e1,e2,e3⟩:=h;exact ⟨g,z,by rw[eV h2];exact e1,jv (d:=d)▸e2,e3⟩
 | .ms i o n sz,u,hi,h=>by
  obtain ⟨h1,h2⟩:=hi i (by simp[AV.ids]);simp only[AV.mp,PR] at h ⊢;obtain ⟨g,z,cap,e1,e2,e3⟩:=h;exact ⟨g,z,cap,by rw[eV h2];exact e1,jv (d:=d)▸e2,e3⟩
 | .itp k,u,hi,_=>by
  have:=(hi (.it k) (by simp[AV.ids])).1
  simp[Lq] at this
 | .mref i,u,hi,h=>by
  obtain ⟨h1,h2⟩:=hi i (by simp[AV.ids]);simp only[AV.mp,PR] at h ⊢;obtain ⟨g,z,e1,e2,e3⟩:=h;exact ⟨g,z,by rw[eV h2];exact e1,jv (d:=d)▸e2,e3⟩
 | .mpv _,_,_,h=>by simp only[AV.mp,PR] at h
 | .nilT i _ _,u,hi,h=>by
  obtain ⟨h1,h2⟩:=hi i (by simp[AV.ids]);simp only[AV.mp,PR] at h ⊢;obtain ⟨e0,g,e1⟩:=h;exact ⟨e0,g,by rw[eV h2];exact e1⟩
 | .fn g cs,u,hi,h=>by
  simp only[AV.mp,PR] at h ⊢;obtain ⟨us,h1,h2⟩:=h;exact ⟨us,h1,jw _ _ (by simpa[AV.ids] using hi) h2⟩
 | .agg cs,u,hi,h=>by
  simp only[AV.mp,PR] at h ⊢;obtain ⟨us,h1,h0,h2⟩:=h;exact ⟨us,h1,h0,jw _ _ (by simpa[AV.ids] using hi) h2⟩
 | .tup cs,u,hi,h=>by
  simp only[AV.mp,PR] at h ⊢;obtain ⟨us,h1,h2⟩:=h;exact ⟨us,h1,jw _ _ (by simpa[AV.ids] using hi) h2⟩
 | .undef,_,_,_=>by simp only[AV.mp,PR]
 | .int _ _,_,_,h=>by simpa only[AV.mp,PR] using h
 | .bool _,_,_,h=>by simpa only[AV.mp,PR] using h
 | .str _,_,_,h=>by simpa only[AV.mp,PR] using h
 | .nils,_,_,h=>by simpa only[AV.mp,PR] using h
 | .sl _,_,_,h=>by simpa only[AV.mp,PR] using h
 | .pin _,_,_,h=>by simpa only[AV.mp,PR] using h
 | .itr _ _,_,_,h=>by simp only[AV.mp,PR] at h
 | .nilp,_,_,h=>by simpa only[AV.mp,PR] using h
 | .nili,_,_,h=>by simpa only[AV.mp,PR] using h
 | .yv _,_,_,h=>by simpa only[AV.mp,PR] using h
 | .ifc _ v,u,hi,h=>by
  simp only[AV.mp,PR] at h ⊢;obtain ⟨us,h1,h2⟩:=h;exact ⟨us,h1,AO v _ (by simpa[AV.ids] using hi) h2⟩
theorem jw {S:aS} {d:Nat} {gbc:Gb} {ob:List (Id×List AV)}: ∀(l:List AV) (us:List Value),(∀i∈bR l,yI d ob i)->aa S gbc (aO (Id.inn d) l) us->aa S (dG d gbc ob) l us
 |[],us,_,h=>by simpa only[aO,aa] using h
 |v::r,us,hi,h=>by
  simp only[aO,aa] at h ⊢;obtain ⟨u,us',h1,h2,h3⟩:=h;exact ⟨u,us',h1,AO v u (fun i hm=>hi i (by simp[bR,hm])) h2,jw r us' (fun i hm=>hi i (by simp[bR,hm])) h3⟩
end
theorem Cj {d:Nat} {i j:Id} (h:i.inn d=j.inn d):i=j:=by
 cases i<;>cases j<;>simp only[Id.inn] at h<;>(try split at h)<;>(try split at h)<;>simp_all[Id.isUp];all_goals (first|(subst h;simp_all[Id.isUp])|skip)
theorem Lr {d:Nat} {i:Id} (h:i.isIt=true):(i.inn d).isIt=true:=by
 rw[jv];exact h
theorem ai {d:Nat} {i:Id} (h:i.isNw d=false):i.inn d= .up i:=by
 cases i with
 |nw d' j=>
  simp only[Id.inn];rw[if_neg];rintro ⟨rfl,h2⟩;cases j<;>simp_all[Id.isNw,Id.isUp]
 |_=>rfl
theorem Ck {f:Id->Id} (hf: ∀i j,f i=f j->i=j): ∀(l:List (Id×List AV)) (i:Id),aE (aW f l) (f i)=(aE l i).map (aO f)
 |[],i=>rfl
 |(d,cs)::r,i=>by
  simp only[aW,aE];by_cases e:d=i
  ·subst e;simp
  ·rw[if_neg (fun q=>e (hf _ _ q)),if_neg e,Ck hf r i]
theorem bV {f:Id->Id} (hf: ∀i j,f i=f j->i=j): ∀ {l:List (Id×List AV)} {j:Id} {cs:List AV},aE (aW f l) j=some cs-> ∃i cs',j=f i/\aE l i=some cs'/\cs=aO f cs'
 |[],j,cs,h=>by simp[aW,aE] at h
 |(d,c)::r,j,cs,h=>by
  simp only[aW,aE] at h;split at h
  ·rename_i e;simp only[dw] at h;exact ⟨d,c,e.symm,by simp[aE],h.symm⟩
  ·rename_i e;obtain ⟨i,cs',h1,h2,h3⟩:=bV hf h;exact ⟨i,cs',h1,by simp only[aE];rw[if_neg (fun q=>e (by rw[q,h1]))];exact h2,h3⟩
theorem fk {f:Id->Id} (hf: ∀i j,f i=f j->i=j): ∀ {l:List (Pl×Nat)} {q:Pl} {k:Nat},aH (aX f l) q=some k-> ∃p,q=p.mp f/\aH l p=some k
 |[],q,k,h=>by simp[aX,aH] at h
 |(p,k')::r,q,k,h=>by
  simp only[aX,aH] at h;split at h
  ·rename_i e;simp only[dw] at h;exact ⟨p,e.symm,by simp[aH,h]⟩
  ·rename_i e;obtain ⟨p',h1,h2⟩:=fk hf h;exact ⟨p',h1,by simp only[aH];rw[if_neg (fun q=>e (by rw[q,h1]))];exact h2⟩
theorem ld {gb:Gb} {sv:Nat->Value} {w:World} (p:Pl):cM (fG gb) sv w (p.mp Id.up)=cM gb sv w p:=by
 cases p<;>rfl
theorem db (i j:Id) (h:Id.up i=Id.up j):i=j:=by cases h;rfl

theorem HR.up {bx:List (Id×List AV)} {pm:List (Pl×Nat)} {sv:Nat->Value} (h:HR S gb bx pm sv w):HR S (fG gb) (aW Id.up bx) (aX Id.up pm) sv w:=by
 refine ⟨h.agree,?_,?_,?_,?_,?_,?_,?_⟩
 ·intro d cs hcs hi;obtain ⟨i,cs',rfl,h2,rfl⟩:=bV db hcs;obtain ⟨g,us,T,e1,e3,e0,e4,e5,e6⟩:=h.box i cs' h2 hi;exact ⟨g,us,T,e1,e3,by rw[gZ];exact e0,by rw[gZ];exact dW _ _ e4,e5,e6⟩
 ·intro d cs hcs hi;obtain ⟨i,cs',rfl,h2,rfl⟩:=bV db hcs;obtain ⟨g,z,ob,e1,e2,e3,e6⟩:=h.its i cs' h2 hi;refine ⟨g,z,ob,e1,?_,e3,e6⟩;unfold vB at e2;split at e2
  ·exact e2
  ·exact e2
  ·cases e2
 ·intro d d' g z z' i1 i2 q1 q2;obtain ⟨c1,hc1⟩:=jX.1 i1;obtain ⟨c2,hc2⟩:=jX.1 i2;obtain ⟨i,cs,rfl,h2,rfl⟩:=bV db hc1;obtain ⟨j,cs',rfl,h3,rfl⟩:=bV db hc2;rw[h.inj i j g z z' (by rw[h2];rfl) (by rw[h3];rfl) q1 q2]
 ·intro p k hp;obtain ⟨q,rfl,h2⟩:=fk db hp;rw[ld];exact h.own q k h2
 ·intro p q k l b hp hq h1 h2;obtain ⟨p',rfl,p2⟩:=fk db hp;obtain ⟨q',rfl,q2⟩:=fk db hq;rw[ld] at h1 h2;rw[h.ownd p' q' k l b p2 q2 h1 h2]
 ·intro p k b d z hp h1 hd;obtain ⟨p',rfl,p2⟩:=fk db hp;rw[ld] at h1;obtain ⟨c1,hc1⟩:=jX.1 hd;obtain ⟨i,cs,rfl,h2,rfl⟩:=bV db hc1;exact h.ownb p' k b i z p2 h1 (by rw[h2];rfl)
 ·intro d off k hp;obtain ⟨q,e,h2⟩:=fk db hp;cases q with
  |b i o=>
   simp only[Pl.mp,Pl.b.injEq] at e;obtain ⟨rfl,rfl⟩:=e;obtain ⟨h3,h4⟩:=h.pmb i _ k h2;refine ⟨?_,h4⟩;rw[Ck db];simpa using h3
  |s t=>cases e
  |t t i=>cases e

def Rh (v u:AV):Prop:=v=u\/nz v=u
def Ji (v u:List AV):Prop:=v=u\/Fz v=u
def Mw (d:Nat) (σ:St) (i:Id) (cs:List AV):Prop:=match aE σ.bx (i.inn d) with
 |some c=>Ji c (aO (Id.inn d) cs)
 |none=>False
def oo (d:Nat) (rs:List AR) (ob:List (Id×List AV)) (σ:St):Pl×Nat->Prop
 |(.s t,k)=>t=0/\(match rs with |[.t s]=>aH σ.pm (.s s)=some k\/lk σ.e s= .nils|_=>False)
 |(.t t i,k)=>t=0/\2<=rs.length/\(match rs[i]? with |some (.t s)=>aH σ.pm (.s s)=some k\/lk σ.e s= .nils|_=>False)
 |(.b i o,k)=>(aE ob i).isSome=true/\(aH σ.pm (.b (i.inn d) o)=some k\/jn σ (.b (i.inn d) o))
def l6:List AR->Prop
 |[]=>True
 | .t s::r=>(∀x∈r,x≠ .t s)/\l6 r
 |_::r=>l6 r
structure kE (d:Nat) (rs:List AR) (O:bZ) (σ:St):Prop where
 r:match iF σ rs with |some vs=>Rh (xW vs) (O.r.mp (Id.inn d))|none=>False
 ids: ∀i∈O.r.ids,yI d O.bx i
 bx: ∀p∈O.bx,Mw d σ p.1 p.2
 bi: ∀p∈O.bx,∀i∈bR p.2,yI d O.bx i
 pm: ∀p∈O.pm,oo d rs O.bx σ p
 nd:O.pm=[]\/l6 rs
inductive oq:St->St->Prop
 |z (σ:St):oq σ σ
 |s {σ τ:St} (s:Nat) (b:Id) (n sz:Nat) (rows:List (List AV)):Fd σ s b n sz rows->sz<KB->oq (pu σ s b sz rows) τ->oq σ τ
 |t {σ τ:St} (s:Nat) (b:Id) (n sz:Nat) (rows:List (List AV)) (tl:List AV):pt σ s b n sz rows tl->sz<KB->oq (pu σ s b sz rows) τ->oq σ τ
def bS (d:Nat) (rs:List AR) (O:bZ):AE->St->Prop
 | .x _,_=>False
 |_,σ=> ∃τ,oq σ τ/\kE d rs O τ
theorem aN.frzs {σ τ:St} (hf:oq σ τ): ∀ {S:aS} {gb:Gb},aN F S gb σ a w-> ∃S' gb',aN F S' gb' τ a w:=by
 induction hf with
 |z σ=>intro S gb h;exact ⟨S,gb,h⟩
 |s s b n sz rows h1 hk h2 ih=>
  intro S gb h;obtain ⟨S',gb',h3⟩:=h.freezeP h1.two hk;exact ih h3
 |t s b n sz rows tl h1 hk h2 ih=>
  intro S gb h;obtain ⟨S',gb',h3⟩:=h.freezeP h1 hk;exact ih h3
theorem yJ: ∀ {rs:List AR},l6 rs-> ∀ {i j s:Nat},rs[i]?=some (.t s)->rs[j]?=some (.t s)->i=j
 |[],_,i,j,s,h,_=>by simp at h
 |x::r,ho,i,j,s,hi,hj=>by
  have hr:l6 r:=by cases x<;>simp only[l6] at ho<;>first|exact ho.2|exact ho
  cases i with
  |zero=>
   cases j with
   |zero=>rfl
   |succ j=>
    simp at hi hj;subst hi;simp only[l6] at ho;exact absurd rfl (ho.1 _ (List.mem_of_getElem? hj))
  |succ i=>
   cases j with
   |zero=>
    simp at hi hj;subst hj;simp only[l6] at ho;exact absurd rfl (ho.1 _ (List.mem_of_getElem? hi))
   |succ j=>
    simp at hi hj;rw[yJ hr hi hj]

theorem Jj {d:Nat} {c cs:List AV} {ob:Obj} (h:vB c=some ob) (hw:Ji c (aO (Id.inn d) cs)):vB cs=some ob:=by
 have key: ∀l:List AV,vB l=some ob->Fz l=l:=fun l h=>by
  unfold vB at h;split at h
  ·rfl
  ·rfl
  ·cases h
 have e:c=aO (Id.inn d) cs:=by
  rcases hw with e|e
  ·exact e
  ·rw[<-e,key c h]
 subst e;cases cs with
 |nil=>simp[aO,vB] at h
 |cons v r=>
  cases r with
  |cons x y=>cases v<;>simp[aO,AV.mp,vB] at h
  |nil=>cases v<;>simp_all[aO,AV.mp,vB]
theorem FB (h:aN F S gb σ a w) {i:Id} {o:Nat} (hn:jn σ (.b i o)):i.isIt=false:=by
 cases hi:i.isIt with
 |false=>rfl
 |true=>
  simp only[jn] at hn;split at hn
  ·rename_i cs hcs;obtain ⟨_,_,ob,_,e,_⟩:=h.hr.its i cs hcs hi;obtain ⟨v,rfl,hv⟩:=qP e;cases o with
   |zero=>simp at hn;exact absurd hn hv
   |succ o=>simp at hn
  ·cases hn
theorem aN.out (h:aN F S gb σ a w) {d:Nat} {rs:List AR} {O:bZ} (ho:kE d rs O σ) {vs:List AV} (hv:iF σ rs=some vs) {us:List Value} (hu:aa S gb vs us) (hs: ∀(i s:Nat),rs[i]?=some (AR.t s)->us[i]?=some (tv a s)) (hl:rs.length=us.length):
  let v:=if h:us.toArray.size=1 then us.toArray[0] else .tuple us.toArray
  PR S (dG d gb O.bx) O.r v/\HR S (dG d gb O.bx) O.bx O.pm (fun _=>v) w/\(∀i g z,(aE O.bx i).isSome->dG d gb O.bx i=some (g,z)->F.w0.heap.size<=g\/F.M g)/\
   (∀p k g,aH O.pm p=some k->(cM (dG d gb O.bx) (fun _=>v) w p).ownBlock=some g->F.w0.heap.size<=g\/F.M g):=by
 intro v;have hval: ∀i,(aE O.bx i).isSome=true->dG d gb O.bx i=gb (i.inn d):=fun i hi=>eV (fun _=>hi)
 have hbox: ∀i cs,aE O.bx i=some cs-> ∃c,aE σ.bx (i.inn d)=some c/\Ji c (aO (Id.inn d) cs)/\(∀j∈bR cs,yI d O.bx j):=by
  intro i cs hcs;have hm:=cV _ _ _ hcs;have h2:=ho.bx _ hm;simp only[Mw] at h2;split at h2
  ·rename_i c hc;exact ⟨c,hc,h2,ho.bi _ hm⟩
  ·cases h2
 have hsome: ∀i,(aE O.bx i).isSome=true->(aE σ.bx (i.inn d)).isSome=true:=by
  intro i hi;obtain ⟨cs,hcs⟩:=jX.1 hi;obtain ⟨c,hc,_⟩:=hbox i cs hcs;rw[hc];rfl
 have hpl: ∀p k,aH O.pm p=some k->(∃q,aH σ.pm q=some k/\cM (dG d gb O.bx) (fun _=>v) w p=cM gb (tv a) w q/\
   ((p= .s 0/\ ∃s,q= .s s/\rs=[.t s])\/(∃i s,p= .t 0 i/\q= .s s/\rs[i]?=some (.t s)/\2<=rs.length)\/(∃i o,p= .b i o/\q= .b (i.inn d) o/\(aE O.bx i).isSome=true)))\/
   (cM (dG d gb O.bx) (fun _=>v) w p= .slice none 0 0/\ ∀i o,p= .b i o->(aE O.bx i).isSome=true/\i.isIt=false):=by
  intro p k hp;have hm:=ho.pm _ (fh _ _ _ hp);cases p with
  |s t=>
   simp only[oo] at hm;obtain ⟨rfl,hm⟩:=hm;split at hm
   ·rename_i s;have h1:=hs 0 s rfl;have h2:us.length=1:=by rw[<-hl];rfl
    have hvv:v=tv a s:=by
     simp only[v];rw[dif_pos (by simpa using h2)];rw[tI] at h1;obtain ⟨_,h1⟩:=h1;simpa using h1
    rcases hm with hm|hm
    ·exact .inl ⟨.s s,hm,by simp only[cM,hvv],.inl ⟨rfl,s,rfl,rfl⟩⟩
    ·right;refine ⟨?_,fun i o he=>by cases he⟩
     have:=h.env s
     rw[hm] at this;simp only[cM,hvv];simpa[PR] using this
   ·cases hm
  |t t i=>
   simp only[oo] at hm;obtain ⟨rfl,h2,hm⟩:=hm;split at hm
   ·rename_i s hi;have h1:=hs i s hi;have hvv:v= .tuple us.toArray:=by
     simp only[v];rw[dif_neg];simp;omega
    have hg:us.toArray.getD i undef=tv a s:=by
     rw[kX];simp[h1]
    rcases hm with hm|hm
    ·exact .inl ⟨.s s,hm,by simp only[cM,hvv];exact hg,.inr (.inl ⟨i,s,rfl,rfl,hi,h2⟩)⟩
    ·right;refine ⟨?_,fun i o he=>by cases he⟩
     have:=h.env s
     rw[hm] at this;simp only[cM,hvv];rw[hg];simpa[PR] using this
   ·cases hm
  |b i o=>
   simp only[oo] at hm;obtain ⟨h1,hm⟩:=hm;have he:cM (dG d gb O.bx) (fun _=>v) w (.b i o)=cM gb (tv a) w (.b (i.inn d) o):=by simp only[cM,hval i h1]
   rcases hm with hm|hm
   ·exact .inl ⟨_,hm,he,.inr (.inr ⟨i,o,rfl,rfl,h1⟩)⟩
   ·right;have h3:=FB h hm;refine ⟨?_,fun i' o' e=>by cases e;exact ⟨h1,by rw[<-jv (d:=d)];exact h3⟩⟩;rw[he];exact py h hm (fun d' off e=>by cases e;exact h3)
 refine ⟨?_,⟨h.hr.agree,?_,?_,?_,?_,?_,?_,?_⟩,?_,?_⟩
 ·have h1:=Fu hu;have h2:=ho.r;rw[hv] at h2;refine AO _ _ ho.ids ?_;rcases h2 with h2|h2
  ·rw[<-h2];exact h1
  ·rw[<-h2];exact KL _ _ h1
 ·intro i cs hcs hi;obtain ⟨c,hc,hw,h4⟩:=hbox i cs hcs;obtain ⟨g,us',T,e1,e3,e0,e4,e5,e6⟩:=h.hr.box _ c hc (by rw[jv];exact hi);have hlen:c.length=cs.length:=by
   rcases hw with hw|hw
   ·rw[hw,gZ]
   ·rw[<-rO,hw,gZ]
  refine ⟨g,us',T,by rw[hval i (by rw[hcs];rfl)];exact e1,e3,by omega,jw _ _ h4 ?_,e5,e6⟩;rw[<-hlen];rcases hw with hw|hw
  ·rw[<-hw];exact e4
  ·rw[<-hw];exact kD _ _ e4
 ·intro i cs hcs hi;obtain ⟨c,hc,hw,h4⟩:=hbox i cs hcs;obtain ⟨g,z,ob,e1,e2,e3,e6⟩:=h.hr.its _ c hc (Lr hi);exact ⟨g,z,ob,by rw[hval i (by rw[hcs];rfl)];exact e1,Jj e2 hw,e3,e6⟩
 ·intro i j g z z' i1 i2 q1 q2;rw[hval i i1] at q1;rw[hval j i2] at q2;exact Cj (h.hr.inj _ _ g z z' (hsome i i1) (hsome j i2) q1 q2)
 ·intro p k hp;rcases hpl p k hp with ⟨q,q1,q2,_⟩|⟨q1,_⟩
  ·rw[q2];exact h.hr.own q k q1
  ·rw[q1];exact .inl rfl
 ·intro p q k l b hp hq hb1 hb2;have hne:O.pm≠[]:=fun e=>by rw[e] at hp;simp[aH] at hp
  have hnd:l6 rs:=by
   rcases ho.nd with h1|h1
   ·exact absurd h1 hne
   ·exact h1
  rcases hpl p k hp with ⟨p',p1,p2,p3⟩|⟨p1,_⟩
  ·rcases hpl q l hq with ⟨q',q1,q2,q3⟩|⟨q1,_⟩
   ·rw[p2] at hb1;rw[q2] at hb2;have e:=h.hr.ownd p' q' k l b p1 q1 hb1 hb2;subst e;rcases p3 with ⟨rfl,s,rfl,hr1⟩|⟨i,s,rfl,rfl,hr1,hr2⟩|⟨i,o,rfl,rfl,_⟩
    ·rcases q3 with ⟨rfl,_⟩|⟨j,s',rfl,e2,_,hr3⟩|⟨j,o',rfl,e2,_⟩
     ·rfl
     ·rw[hr1] at hr3;simp at hr3
     ·cases e2
    ·rcases q3 with ⟨rfl,s',e2,hr3⟩|⟨j,s',rfl,e2,hr3,_⟩|⟨j,o',rfl,e2,_⟩
     ·rw[hr3] at hr2;simp at hr2
     ·cases e2;rw[yJ hnd hr1 hr3]
     ·cases e2
    ·rcases q3 with ⟨rfl,s',e2,hr3⟩|⟨j,s',rfl,e2,hr3,_⟩|⟨j,o',rfl,e2,_⟩
     ·cases e2
     ·cases e2
     ·simp only[Pl.b.injEq] at e2;rw[Cj e2.1,e2.2]
   ·rw[q1] at hb2;simp[Value.ownBlock] at hb2
  ·rw[p1] at hb1;simp[Value.ownBlock] at hb1
 ·intro p k b i z hp hb hi;rcases hpl p k hp with ⟨q,q1,q2,_⟩|⟨q1,_⟩
  ·rw[q2] at hb;rw[hval i hi];exact h.hr.ownb q k b _ z q1 hb (hsome i hi)
  ·rw[q1] at hb;simp[Value.ownBlock] at hb
 ·intro i o k hp;rcases hpl _ k hp with ⟨q,q1,q2,q3⟩|⟨_,q1⟩
  ·rcases q3 with ⟨e,_⟩|⟨_,_,e,_⟩|⟨i',o',e,e2,h1⟩
   ·cases e
   ·cases e
   ·cases e;subst e2;have h3:=(h.hr.pmb _ _ _ q1).2;exact ⟨h1,by rw[<-jv (d:=d)];exact h3⟩
  ·exact q1 i o rfl
 ·intro i g z hi hq;rw[hval i hi] at hq;exact h.newb _ g z (hsome i hi) hq
 ·intro p k g hp hg;rcases hpl p k hp with ⟨q,q1,q2,_⟩|⟨q1,_⟩
  ·rw[q2] at hg;exact h.newo q k g q1 hg
  ·rw[q1] at hg;simp[Value.ownBlock] at hg

theorem fS: ∀ {rs:List AR} {qs:List ResultVar} {σ:St} {vs:List AV},iF σ rs=some vs->vs.length=rs.length
 |[],qs,σ,vs,h=>by simp only[iF,dw] at h;subst h;rfl
 | .t s::r,qs,σ,vs,h=>by
  simp only[iF] at h;split at h
  ·rename_i vs' hv;simp only[dw] at h;subst h;simp only[jG,fS (qs:=qs) hv]
  ·cases h
 | .cs s::r,qs,σ,vs,h=>by
  simp only[iF] at h;split at h
  ·rename_i v vs' _ hv;simp only[dw] at h;subst h;simp only[jG,fS (qs:=qs) hv]
  ·cases h
 | .ca s n::r,qs,σ,vs,h=>by
  simp only[iF] at h;split at h
  ·rename_i v vs' _ hv;simp only[dw] at h;subst h;simp only[jG,fS (qs:=qs) hv]
  ·cases h

theorem AQ {GL:List (Nat×List Value)} {dr:Array Oper->List (List Nat)->List bE->Bool} {f:Nat} {fn:Func} {af:AF} (hf:P.funcs[f]?=some fn) (hm:mF P GL dr fn af=true) (hd:cJ P GL af.N dr) {d:Nat} {I:In} {O:bZ} (hl:I.vs.length=af.np)
  (hw:em (bM P GL) af.c (bS d af.rs O) (aw I)):bM P GL f d I O:=by
 simp only[mF,aL,bne_iff_ne,cY] at hm;obtain ⟨⟨⟨⟨⟨h1,h2⟩,h3⟩,h4⟩,h5⟩,h6⟩:=hm;split at h6<;>(try cases h6);rename_i c hb;have h4:=Nat.le_of_ble_eq_true h4;intro S gb w vs hvs hhr hglo hnw;have hlen:vs.length=I.vs.length:=hvs.length.symm;unfold mP;have hcall:(callFunc f vs.toArray).run P w= .ok (.enter f vs.toArray) w:=by
  simp[callFunc,hf,hb,h1]
 rw[hcall];refine calls_of_wp hf hb ?_
 let F:Fr:=⟨S,w,MS I gb (fun t=>vs.getD t undef) w,gb,af.N,GL,[]⟩
 have hsv:tv {tmps:=vs.toArray++Array.replicate (fn.ntmps - vs.toArray.size) undef,defers:=[]}=fun t=>vs.getD t undef:=by
  funext t;exact eL
 have hup:=hhr.up;have hrel:aN F S (fG gb) (aw I) {tmps:=vs.toArray++Array.replicate (fn.ntmps - vs.toArray.size) undef,defers:=[]} w:=by
  refine ⟨rfl,?_,Bw.refl _ _,fun _ _ _ _=>rfl,aS.le.refl _,?_,by rw[hsv];exact hup,?_,?_,?_,fun d=>rfl,hglo⟩
  ·show (vs.toArray++Array.replicate (fn.ntmps - vs.toArray.size) undef).size=af.N;simp;omega
  ·intro t
   have:=(iG (dW _ _ hvs) 0 t).2 t (by omega)
   rw[eL];exact this
  ·intro i g z hi hq;obtain ⟨c1,hc1⟩:=jX.1 hi;obtain ⟨j,cs,rfl,hj,_⟩:=bV db hc1;exact .inr (.inl ⟨j,z,by rw[hj];rfl,hq⟩)
  ·intro p k g hp hg;obtain ⟨q,rfl,hq⟩:=fk db hp;rw[hsv,ld] at hg;exact .inr (.inr ⟨q,k,hq,hg⟩)
  ·intro i hi;cases i<;>simp[fG,Id.isUp] at hi ⊢
 refine fR (F:=F) hd h6 (Q:=bS d af.rs O) ?_ hrel hw;intro e S0' gb0' σ0 a' w' hr0 hq0;have fin: ∀σ0,aN F S0' gb0' σ0 a' w'->(∃τ,oq σ0 τ/\kE d af.rs O τ)->a'.defers=[]/\ ∃v,(results fn a'.tmps).run P w'= .ok v w'/\(∃u,Ending.returned v= .returned u/\ ∃S'' gb'',eS d I O S gb (fun t=>vs.getD t undef) w S'' gb'' u w'):=by
  rintro σ0 hr0 ⟨τ,hfz,hok⟩;obtain ⟨S',gb',hr⟩:=hr0.frzs hfz;refine ⟨hr.defers,?_⟩;have hr':=hok.r;split at hr'
  ·rename_i vs' hv;obtain ⟨us,hrun,g2,g3⟩:=my (P:=P) hr h5 hv;obtain ⟨o1,o2,o3,o4⟩:=hr.out hok hv g2 g3 (by rw[<-g2.length];exact (fS (qs:=[]) hv).symm);refine ⟨_,hrun,_,rfl,S',dG d gb' O.bx,hr.bw,hr.ext,hr.le,?_,?_,o1,o2,o3,o4⟩
   ·intro i hi
    have:dG d gb' O.bx i=gb' (i.inn d):=eV (fun e=>by rw[hi] at e;cases e)
    rw[this,ai hi];exact hr.up i
   ·intro i hi hne;simp only[dG] at hne;split at hne
    ·exact absurd rfl hne
    ·rename_i hno;cases hs:(aE O.bx i).isSome with
     |true=>rfl
     |false=>exact absurd ⟨hi,hs⟩ hno
  ·cases hr'
 cases e
 ·exact fin _ hr0 hq0
 ·exact hq0.elim
 ·exact fin _ hr0 hq0
theorem Jk {P:Program} {GL:List (Nat×List Value)} {dr:Array Oper->List (List Nat)->List bE->Bool} {f:Nat} {fn:Func} {af:AF} (hf:P.funcs[f]?=some fn) (hm:mF P GL dr fn af=true) (hd:cJ P GL af.N dr) {d:Nat} {I:In} {O:bZ} (hl:I.vs.length=af.np)
  (hw:em (bh P GL) af.c (bS d af.rs O) (aw I)):bh P GL f d I O:=by
 rw[gD] at hw ⊢;exact AQ hf hm hd hl hw

def KM (S:Nat->Nat->In->bZ->Prop) (f d:Nat) (xs:List X) (K:St->Prop) (σ:St):Prop:=IY S f d xs K σ
@[simp] theorem Ri {S:Nat->Nat->In->bZ->Prop} {d f xs} {K:St->Prop} {σ:St}:cg S (.ce d f xs) K σ=KM S f d xs K σ:=by rw[cg];rfl
def Rj (S:Nat->Nat->In->bZ->Prop) (d:Nat) (xs:List X) (K:St->Prop) (σ:St):AV->Prop
 | .fn f caps=>if BM<=f then KM S (f - BM) d (caps.map X.c++xs) K σ else KM S f d (xs++caps.map X.c) K σ
 |_=>False
@[simp] theorem Rk {S:Nat->Nat->In->bZ->Prop} {d x xs} {K:St->Prop} {σ:St}:cg S (.cd d x xs) K σ=Rj S d xs K σ (σ.v x):=by
 rw[cg];unfold Rj KM;cases σ.v x<;>rfl
@[simp] theorem Rl {S:Nat->Nat->In->bZ->Prop} {d xs f caps} {K:St->Prop} {σ:St}:Rj S d xs K σ (.fn f caps)=(if BM<=f then KM S (f - BM) d (caps.map X.c++xs) K σ else KM S f d (xs++caps.map X.c) K σ):=rfl
theorem aF {P:Program} {GL:List (Nat×List Value)} {K:St->Prop} {σ:St} {f d:Nat} {xs:List X} (I:In) (O:bZ) (h:bh P GL f d I O) (hc:cZ d σ xs I O) (hk:K (bH d σ xs I O)):KM (bh P GL) f d xs K σ:=⟨I,O,h,hc,hk⟩
theorem fA {P:Program} {GL:List (Nat×List Value)} {K:St->Prop} {σ:St} {f d:Nat} {xs:List X} {fr:List Nat} (I:In) (O:bZ) (h:bh P GL f d I O) (hc:cZ d σ xs I O) (hq:IV (mT σ fr) I O) (hk:K (bH d σ xs I O)) (hn:fr.contains d=false:=by decide):Tr (bh P GL) f d xs fr K σ:=⟨I,O,h,hc,⟨hq,hn⟩,hk⟩
theorem bz {d:Nat} {rs:List AR} {O:bZ} {σ:St} (h:kE d rs O σ):bS d rs O .n σ:=⟨σ,.z σ,h⟩
theorem Jl {d:Nat} {rs:List AR} {O:bZ} {σ:St} (h:kE d rs O σ):bS d rs O .r σ:=⟨σ,.z σ,h⟩
theorem am {d:Nat} {rs:List AR} {O:bZ} {σ:St} (a:match iF σ rs with |some vs=>Rh (xW vs) (O.r.mp (Id.inn d)) |none=>False) (b: ∀i∈O.r.ids,yI d O.bx i) (c: ∀p∈O.bx,Mw d σ p.1 p.2) (e: ∀p∈O.bx, ∀i∈bR p.2,yI d O.bx i) (g: ∀p∈O.pm,oo d rs O.bx σ p) (h:O.pm=[]\/l6 rs):bS d rs O .r σ:=Jl ⟨a,b,c,e,g,h⟩
theorem bB {P:Program} {GL:List (Nat×List Value)} {K:St->Prop} {σ:St} {f d:Nat} {xs:List X} (I:In) (O:bZ) (h:bh P GL f d I O) (hk:K (bH d σ xs I O)) (hc:cZ d σ xs I O:=by constructor<;>simp):KM (bh P GL) f d xs K σ:=aF I O h hc hk
@[simp] theorem Rm {d i}:(Id.up i).inn d= .up (.up i):=rfl
@[simp] theorem Tu {d k}:(Id.n k).inn d= .up (.n k):=rfl
@[simp] theorem Rn {d i k}:(Id.ix i k).inn d= .up (.ix i k):=rfl
@[simp] theorem OM {d k}:(Id.it k).inn d= .up (.it k):=rfl
@[simp] theorem Ro {d d' i}:(Id.nw d' i).inn d=if d'=d/\i.isUp=false then i else .up (.nw d' i):=rfl
@[simp] theorem Tv {d i}:(Id.up i).isNw d=false:=rfl
@[simp] theorem Vj {d k}:(Id.n k).isNw d=false:=rfl
@[simp] theorem Tw {d i k}:(Id.ix i k).isNw d=false:=rfl
@[simp] theorem Rq {d k}:(Id.it k).isNw d=false:=rfl
@[simp] theorem Tx {d d' i}:(Id.nw d' i).isNw d=(d'==d&&!i.isUp):=rfl
attribute [simp] AV.mp aO aW aX Pl.mp aw nz Fz kq lO j4 lP bH ry lC oo Mw Rh Ji yI l6 lD pu St.puto
theorem bh.noPm {P:Program} {GL:List (Nat×List Value)} {f d:Nat} {I:In} {r:AV} {bx:List (Id×List AV)} {pm:List (Pl×Nat)} (h:bh P GL f d I ⟨r,bx,pm⟩):bh P GL f d I ⟨r,bx,[]⟩:=by
 rw[gD] at h ⊢;intro S gb w vs hvs hhr hglo hnw
 have:=h S gb w vs hvs hhr hglo hnw
 have hm: ∀v w',(∃S' gb',eS d I ⟨r,bx,pm⟩ S gb (fun t=>vs.getD t undef) w S' gb' v w')-> ∃S' gb',eS d I ⟨r,bx,[]⟩ S gb (fun t=>vs.getD t undef) w S' gb' v w':=by
  rintro v w' ⟨S',gb',q⟩;refine ⟨S',gb',q.bw,q.ext,q.le,q.same,q.nw,q.r,⟨q.hr.agree,q.hr.box,q.hr.its,q.hr.inj,?_,?_,?_,?_⟩,q.newb,?_⟩
  ·intro p k hk;simp[aH] at hk
  ·intro p q k l b hk;simp[aH] at hk
  ·intro p k b d z hk;simp[aH] at hk
  ·intro d off k hk;simp[aH] at hk
  ·intro p k g hk;simp[aH] at hk
 unfold mP at this ⊢;split at this
 ·exact hm _ _ this
 ·exact this.mono (fun e w' ⟨v,h1,h2⟩=>⟨v,h1,hm _ _ h2⟩)
 ·exact this
theorem Sp.of_h {P:Program} {GL:List (Nat×List Value)} {f:Nat} {l:List AV} {r:AV} (h: ∀d,bh P GL f d ⟨l,[],[]⟩ ⟨r,[],[]⟩):Sp P GL f l r:=by unfold Sp;exact h
theorem Sp.h {P:Program} {GL:List (Nat×List Value)} {f d:Nat} {l:List AV} {r:AV} (h:Sp P GL f l r):bh P GL f d ⟨l,[],[]⟩ ⟨r,[],[]⟩:=by unfold Sp at h;exact h d
end Go.Ai
namespace Go.Ai
open Go.RowKit
variable {P:Program} {F:Fr} {S:aS} {gb:Gb} {σ:St} {a:Act} {w:World}

def Ls:bE->Bool
 | .mv _ _| .pk _ _ _ _| .bi _ _ _ _| .bb _ _ _ _| .un _ _ _| .cv _ _ _| .lns _ _| .ln _ _| .fa _ _ _| .ia _ _ _ _| .iaa _ _ _ _ _| .lds _ _| .lda _ _ _| .bd _ _ _| .fls _ _ _| .fla _ _ _ _| .ixs _ _ _| .exq _ _ _| .nc _ _=>true
 |_=>false
theorem Jm {Sp:Nat->Nat->In->bZ->Prop} {K:St->Prop} {o:bE} (h:Ls o=true) (hw:cg Sp o K σ): ∃d v,ev σ o=some (d,v)/\K (σ.put d v):=by
 have key:cg Sp o K σ=lE K σ (ev σ o):=by cases o<;>first|rfl|cases h
 rw[key] at hw;unfold lE at hw;split at hw
 ·rename_i d v he;exact ⟨d,v,he,hw⟩
 ·cases hw
theorem Cl {τ:St} {o:bE} (h:Ls o=true) (he: ∀t∈cK o,lk σ.e t=lk τ.e t) (hb:σ.bx=τ.bx) {d:Nat} {v:AV} (hv:ev σ o=some (d,v)):ev τ o=some (d,v):=by
 have key: ∀(σ:St),gM (fun _ _ _ _=>False) o (· =Dl.put d v) σ↔ev σ o=some (d,v):=by
  intro σ
  have:gM (fun _ _ _ _=>False) o (· =Dl.put d v) σ=(match ev σ o with |some (d',v')=>Dl.put d' v'=Dl.put d v|none=>False):=by
   cases o<;>first|rfl|cases h
  rw[this];cases ev σ o with
  |none=>simp
  |some p=>obtain ⟨d',v'⟩:=p;simp
 refine (key τ).1 (Cc ⟨he,fun b _=>by rw[hb],fun p hp=>?_,fun b off _ h2=>?_,fun x hx=>?_⟩ ((key σ).2 hv))
 ·have:uB σ o=[]:=by cases o<;>first|rfl|cases h
  rw[this] at hp;cases hp
 ·have:gq o≠2:=by cases o<;>first|(intro e;cases e;done)|cases h
  exact absurd h2 this
 ·cases o<;>first|(cases h;done)|skip
  all_goals (simp only[fF] at hx;first|(cases hx;done)|skip)
  all_goals (repeat' (first|(split at hx)|contradiction))
  all_goals (cases hx;trivial)
def DN:List bE->St->Option St
 |[],σ=>some σ
 |o::r,σ=>match ev σ o with
  |some (d,v)=>DN r (σ.put d v)
  |none=>none
theorem Cm {Sp:Nat->Nat->In->bZ->Prop} {K:St->Prop}: ∀ {l:List bE} {σ:St},l.all Ls=true->lQ Sp l K σ-> ∃τ,DN l σ=some τ/\K τ
 |[],σ,_,h=>⟨σ,rfl,h⟩
 |o::r,σ,hl,h=>by
  simp only[List.all_cons,aL] at hl;simp only[lQ] at h;obtain ⟨d,v,he,hk⟩:=Jm hl.1 h;obtain ⟨τ,h1,h2⟩:=Cm hl.2 hk;exact ⟨τ,by simp only[DN,he];exact h1,h2⟩
def Mx:List bE->Bool
 |[]=>true
 |o::r=>(match cQ o with |some d=>!(cK o).contains d&&r.all (fun q=>cQ q !=some d)|none=>false)&&r.all (fun q=>match cQ q with |some d=>!(cK o).contains d|none=>false)&&Mx r
theorem Rr {o:bE} {d:Nat} {v:AV} (h:ev σ o=some (d,v)):cQ o=some d:=Fw h
theorem Cn: ∀ {l:List bE} {σ τ:St},l.all Ls=true->Mx l=true->DN l σ=some τ->
  τ.bx=σ.bx/\(∀p:Pl,p.isB=true->aH τ.pm p=aH σ.pm p)/\(∀t,(∀o∈l,cQ o≠some t)->lk τ.e t=lk σ.e t)/\(∀o∈l,∃d,cQ o=some d/\ev τ o=some (d,lk τ.e d))
 |[],σ,τ,_,_,h=>by
  cases h;exact ⟨rfl,fun _ _=>rfl,fun _ _=>rfl,fun o ho=>by cases ho⟩
 |o::r,σ,τ,hl,hs,h=>by
  simp only[List.all_cons,aL] at hl;simp only[Mx,aL] at hs;obtain ⟨⟨hs1,hs2⟩,hs3⟩:=hs;simp only[DN] at h;split at h
  ·rename_i d v he;have hd:=Rr he;rw[hd] at hs1;simp only[aL,uh,List.contains_eq_mem,decide_eq_false_iff_not,iW,bne_iff_ne,ne_eq] at hs1;obtain ⟨hs1,hs4⟩:=hs1;obtain ⟨k1,k2,k3,k4⟩:=Cn hl.2 hs3 h;have hu: ∀t∈cK o,lk σ.e t=lk τ.e t:=by
    intro t ht;rw[k3 t (fun q hq e=>?_)]
    ·show _=lk ((d,v)::σ.e) t;simp only[lk];rw[if_neg (fun (e:d=t)=>hs1 (e▸ht))]
    ·have:=iW.1 hs2 q hq
     rw[e] at this;simp[ht] at this
   have hdv:lk τ.e d=v:=by
    rw[k3 d (fun q hq=>hs4 q hq)];show lk ((d,v)::σ.e) d=v;simp[lk]
   refine ⟨k1,fun p hp=>?_,fun t ht=>?_,fun q hq=>?_⟩
   ·rw[k2 p hp];show aH (iY σ.pm d) p=_;rw[il,if_neg (by rw[vO hp];simp)]
   ·rw[k3 t (fun q hq=>ht q (by simp[hq]))];show lk ((d,v)::σ.e) t=_;simp only[lk];rw[if_neg (fun e=>ht o (by simp) (by rw[hd,e]))]
   ·rcases o8.1 hq with rfl|hq
    ·exact ⟨d,hd,by rw[hdv];exact Cl hl.1 hu k1.symm he⟩
    ·exact k4 q hq
  ·cases h
def yK (P:Program) (GL:List (Nat×List Value)) (N:Nat) (ops:Array Oper) (l:List bE) (p:Nat×bE):Bool:=match ops[p.1]? with
 |some o=>o.guard.isNone&&Ls p.2&&(dU P GL N o p.2||(match p.2 with
  | .mv d (.c .undef)=>(match l[p.1]? with |some (.al d' z)=>d==d'&&dU P GL N o (.al d' z)|_=>false)
  |_=>false))
 |none=>false
def Co (A:List Nat) (p q:Nat×bE):Bool:=if q.1==p.1 then cQ q.2==cQ p.2 else
 cQ q.2 !=cQ p.2&&(match cQ q.2 with |some t=>!(cK p.2).contains t||(Nat.blt q.1 p.1&&(A.getD p.1 0).testBit q.1)|none=>true)
def DO (P:Program) (GL:List (Nat×List Value)) (N:Nat) (ops:Array Oper) (l:List bE) (k:Nat) (ll:List (Nat×bE)) (d f:Nat) (ys:List X):Bool:=
 let A:=DK ops.toList []
 Ce ops.toList A&&Nat.blt k ops.size&&((List.range ops.size).all fun i=>i==k||(Nat.blt k i&&(A.getD i 0).testBit k)||ll.any fun p=>p.1==i)&&
 ll.all (fun p=>yK P GL N ops l p&&ll.all (fun q=>Co A p q))&&Mx (ll.map (·.2))&&ll.all (fun q=>q.1 !=k)&&
 ll.all (fun q=>match cQ q.2 with |some t=>!(ys.flatMap xs).contains t||(Nat.blt q.1 k&&(A.getD k 0).testBit q.1)|none=>false)&&
 (match ops[k]? with |some o=>o.guard.isNone&&dU P GL N o (.ce d f ys)|none=>false)
theorem Np (h:aN F S gb σ a w) {o:Oper} {d:Nat} {z:List AV} (hm:dU P F.GL F.N o (.al d z)=true) {K:Act->World->Prop} {Q:Exit->Act->World->Prop} (hK: ∀S gb a w,aN F S gb (σ.put d .undef) a w->K a w):o.wp P a w K Q:=by
 simp only[dU,aL,az] at hm;obtain ⟨⟨h1,h2⟩,hm⟩:=hm;split at hm<;>(try cases hm);rename_i t hop;split at hm<;>(try cases hm);rename_i i hi;split at hm<;>(try cases hm);rename_i z' hz;refine bA (u:= .pointer (some ⟨w.heap.size,0,none⟩)) (w':=w.alloc (.cells z'.cells t)) ?_ ?_
 ·unfold execOp;simp[hop,Instr.alloc,zeroValue,typeInfo,hi,hz,newVar,newRow]
 ·rw[h1];have hbl:Below w.heap.size w (w.alloc (.cells z'.cells t)):=Below.alloc (Below.refl _ _) (gp _) _;have hs:=h.step (S':=S) hbl (fun _ _ _=>rfl) (aS.le.refl _) (fun g o v hv=>by
   have hlt:g<w.heap.size:=by have:=World.block_lt_of_cell? w _ (h.hr.agree _ _ _ hv);simpa using this
   rw[World.cell?_alloc_lt]
   ·exact h.hr.agree _ _ _ hv
   ·exact hlt)
  exact hK _ _ _ _ (hs.put h2 (by simp[PR]))

theorem Lt {ops:Array Oper} {l:List bE} {k:Nat} {ll:List (Nat×bE)} {d f:Nat} {ys:List X} (hm:DO P F.GL F.N ops l k ll d f ys=true) {σF:St} {Q:Exit->Act->World->Prop}
  (hrel:aN F S gb σ a w) (hrun:DN (ll.map (·.2)) σ=some σF)
  (hcall: ∀(S:aS) (gb:Gb) (τ:St) (a:Act) (w:World),aN F S gb τ a w->τ.bx=σF.bx->(∀p:Pl,p.isB=true->aH τ.pm p=aH σF.pm p)->(∀t∈ys.flatMap xs,lk τ.e t=lk σF.e t)->
   ∀o,ops[k]?=some o->dU P F.GL F.N o (.ce d f ys)=true-> ∀K',o.wp P a w K' Q):
  wpAny P .any ops Q ops.size (Array.replicate ops.size false) a {w with drawn:=w.drawn+1}:=by
 simp only[DO,aL] at hm;generalize hA:DK ops.toList []=A at hm;obtain ⟨⟨⟨⟨⟨⟨⟨hanc,hk⟩,hcov⟩,hll⟩,hssa⟩,hnk⟩,hys⟩,hck⟩:=hm;have hk:k<ops.size:=by simpa using hk
 have hdir: ∀(j:Nat) (o:Oper),ops[j]?=some o->(∀m∈iT o,m<j)/\ ∀k,k<j->(A.getD j 0).testBit k=true->k∈iT o\/ ∃m∈iT o,k<m/\(A.getD m 0).testBit k=true:=by
  intro j o ho;have hj:j<ops.size:=(qN.1 ho).1
  have:=iW.1 hanc j (List.mem_range.2 (by simpa using hj))
  simp only[Array.getElem?_toList,ho,aL,iW,Fa,uh,List.contains_eq_mem,nL,List.any_eq_true,List.mem_range] at this;refine ⟨fun m hm=>by have:=this.1 m hm;simpa using this,fun k hk hb=>?_⟩;rcases this.2 k hk with (h|h)|⟨m,h1,h2,h3⟩
  ·rw[h] at hb;cases hb
  ·exact .inl h
  ·exact .inr ⟨m,h1,by simpa using h2,h3⟩
 let cl (listed:Array Bool):Prop:= ∀(j:Nat) (o:Oper),ops[j]?=some o->listed.getD j false=true-> ∀m∈iT o,listed.getD m false=true
 have hclos: ∀listed,cl listed-> ∀(j:Nat) (o:Oper),ops[j]?=some o->(∀m∈iT o,listed.getD m false=true)-> ∀k,k<j->(A.getD j 0).testBit k=true->listed.getD k false=true:=by
  intro listed hcl j;induction j using Nat.strongRecOn with
  |_ j ih=>
   intro o ho hd k hk hb;obtain ⟨d1,d2⟩:=hdir j o ho;rcases d2 k hk hb with h|⟨m,hm,hkm,hbm⟩
   ·exact hd k h
   ·have hmj:=d1 m hm;have hms:m<ops.size:=by have:=(qN.1 ho).1;omega
    obtain ⟨om,hom⟩: ∃om,ops[m]?=some om:=⟨ops[m],by simp[hms]⟩;exact ih m hmj om hom (hcl m om hom (hd m hm)) k hkm hbm
 have notReady: ∀listed:Array Bool,listed.size=ops.size->Region.ready .any ops listed=[]-> ∀j,j<ops.size->listed.getD j false=true:=by
  intro listed hls hr j;induction j using Nat.strongRecOn with
  |_ j ih=>
   intro hj;cases hl:listed.getD j false with
   |true=>rfl
   |false=>
    exfalso;have hmem:j∈Region.ready .any ops listed:=by
     simp only[Region.ready,List.mem_filter,List.mem_range,aL,uh];refine ⟨hj,?_,?_⟩
     ·have:listed.getD j true=listed.getD j false:=by simp[kX,show j<listed.size by omega]
      rw[this,hl]
     ·have ho:ops[j]?=some ops[j]:=by simp[hj]
      simp only[ho,Option.map_some,Option.getD_some];rw[Array.all_eq_true_iff_forall_mem];intro e he;simp only[Fa,uh];cases hbi:Region.binds .any e with
      |false=>left;rfl
      |true=>
       right;have hm:e.on∈iT ops[j]:=by
        simp only[iT,nM,List.mem_filter];exact ⟨e,⟨by simpa using he,hbi⟩,rfl⟩
       have:=(hdir j _ ho).1 e.on hm
       exact ih e.on this (by omega)
    rw[hr] at hmem;simp at hmem
 have hone: ∀p∈ll,yK P F.GL F.N ops l p=true/\ ∀q∈ll,Co A p q=true:=by
  intro p hp
  have:=iW.1 hll p hp
  simp only[aL,iW] at this;exact this
 have hlg:(ll.map (·.2)).all Ls=true:=by
  refine iW.2 fun o ho=>?_
  obtain ⟨p,hp,rfl⟩:=nM.1 ho
  have:=(hone p hp).1
  unfold yK at this;split at this
  ·simp only[aL] at this;exact this.1.2
  ·cases this
 obtain ⟨r1,r2,r3,r4⟩:=Cn hlg hssa hrun;have keep: ∀(listed:Array Bool) (i m:Nat),listed.size=ops.size->i<ops.size->listed.getD m false=true->(listed.setIfInBounds i true).getD m false=true:=by
  intro listed i m hls his hm;by_cases h1:m=i
  ·subst h1;simp[kX,hls,his]
  ·simp only[kX,Array.getElem?_setIfInBounds_ne (Ne.symm h1)] at hm ⊢;exact hm
 let G (listed:Array Bool) (τ:St):Prop:=τ.bx=σF.bx/\(∀p:Pl,p.isB=true->aH τ.pm p=aH σF.pm p)/\ ∀t,(∀p∈ll,cQ p.2=some t->listed.getD p.1 false=true)->lk τ.e t=lk σF.e t
 have main: ∀fuel (listed:Array Bool) a w,listed.size=ops.size->fuel+((List.range ops.size).filter fun j=>listed.getD j false).length=ops.size->listed.getD k false=false->cl listed->(∃S gb τ,aN F S gb τ a w/\G listed τ)->wpAny P .any ops Q fuel listed a w:=by
  intro fuel;induction fuel with
  |zero=>
   intro listed a w hls hcnt hkf hcl hrel';exfalso;have hlen:((List.range ops.size).filter fun j=>listed.getD j false).length=(List.range ops.size).length:=by simpa using hcnt
   have:=List.length_filter_eq_length_iff.1 hlen k (List.mem_range.2 hk)
   rw[hkf] at this;cases this
  |succ fuel ih=>
   intro listed a w hls hcnt hkf hcl hrel';refine ⟨fun hr=>?_,fun i hi=>?_⟩
   ·rw[notReady listed hls hr k hk] at hkf;cases hkf
   simp only[Region.ready,List.mem_filter,List.mem_range,aL,uh] at hi;obtain ⟨his,hif,hib⟩:=hi;have hf:listed.getD i false=false:=by
    have:listed.getD i true=listed.getD i false:=by simp[kX,show i<listed.size by omega]
    rw[<-this];exact hif
   have ho:ops[i]?=some ops[i]:=by simp[his]
   have hd: ∀m∈iT ops[i],listed.getD m false=true:=by
    intro m hm;simp only[ho,Option.map_some,Option.getD_some] at hib;rw[Array.all_eq_true_iff_forall_mem] at hib;simp only[iT,nM,List.mem_filter] at hm;obtain ⟨e,⟨he,hbi⟩,rfl⟩:=hm
    have:=hib e (by simpa using he)
    simpa[hbi] using this
   obtain ⟨S,gb,τ,h,g1,g2,g3⟩:=hrel';unfold wpOp;rw[ho];simp only[];by_cases hik:i=k
   ·
    subst hik;rw[ho] at hck;simp only[aL,Option.isNone_iff_eq_none] at hck;rw[if_pos (by simp[Region.wanted,hck.1])];refine .inl (hcall S gb τ a w h g1 g2 (fun t ht=>g3 t fun p hp e=>?_) _ ho hck.2 _)
    have:=iW.1 hys p hp
    rw[e] at this;simp only[List.contains_eq_mem,ht,decide_true,Bool.not_true,Bool.false_or,aL] at this;exact hclos listed hcl i _ ho hd p.1 (by simpa using this.1) this.2
   ·have hil: ∃p∈ll,p.1=i:=by
     have:=iW.1 hcov i (List.mem_range.2 his)
     simp only[Fa,cY,hik,false_or,aL,List.any_eq_true] at this;rcases this with h0|⟨p,hp,e⟩
     ·rw[hclos listed hcl i _ ho hd k (by simpa using h0.1) h0.2] at hkf;cases hkf
     ·exact ⟨p,hp,e⟩
    obtain ⟨p,hp,rfl⟩:=hil;obtain ⟨h1,h2⟩:=hone p hp;unfold yK at h1;rw[ho] at h1;simp only[aL,Option.isNone_iff_eq_none] at h1;obtain ⟨⟨hgd,hlt⟩,hmt⟩:=h1;rw[if_pos (by simp[Region.wanted,hgd])];refine .inl ?_;obtain ⟨d0,hd0,hev⟩:=r4 p.2 (nM.2 ⟨p,hp,rfl⟩);have hself:d0∉cK p.2:=by
     have: ∀(l:List bE),Mx l=true-> ∀o∈l,∀d,cQ o=some d->d∉cK o:=by
      intro l;induction l with
      |nil=>intro _ o ho;cases ho
      |cons x r ihl=>
       intro hs o ho d hd;simp only[Mx,aL] at hs;rcases o8.1 ho with rfl|ho
       ·have:=hs.1.1
        rw[hd] at this;simp only[aL,uh,List.contains_eq_mem,decide_eq_false_iff_not] at this;exact this.1
       ·exact ihl hs.2 o ho d hd
     exact this _ hssa _ (nM.2 ⟨p,hp,rfl⟩) _ hd0
    have hu: ∀t∈cK p.2,lk σF.e t=lk τ.e t:=by
     intro t ht;refine (g3 t fun q hq e=>?_).symm
     have:=h2 q hq
     unfold Co at this;split at this
     ·rw[cY] at this;rw[this,hd0] at e;cases e;exact absurd ht hself
     ·simp only[e,aL,List.contains_eq_mem,ht,decide_true,Bool.not_true,Bool.false_or] at this;exact hclos listed hcl p.1 _ ho hd q.1 (by simpa using this.2.1) this.2.2
    have hev':ev τ p.2=some (d0,lk σF.e d0):=Cl hlt hu g1.symm hev;have hcl':cl (listed.setIfInBounds p.1 true):=by
     intro j oj hoj hlj m hm;by_cases hji:j=p.1
     ·subst hji;rw[ho] at hoj;cases hoj;exact keep _ _ m hls his (hd m hm)
     ·have:listed.getD j false=true:=by
       simp only[kX,Array.getElem?_setIfInBounds_ne (Ne.symm hji)] at hlj ⊢;exact hlj
      exact keep _ _ m hls his (hcl j oj hoj this m hm)
    have hcnt':fuel+((List.range ops.size).filter fun j=>(listed.setIfInBounds p.1 true).getD j false).length=ops.size:=by
     have:=uE (show ops.size<=listed.size by omega) his hf
     omega
    have hkf':(listed.setIfInBounds p.1 true).getD k false=false:=by
     simp only[kX,Array.getElem?_setIfInBounds_ne hik] at hkf ⊢;exact hkf
    have fin: ∀S gb a w,aN F S gb (τ.put d0 (lk σF.e d0)) a w->wpAny P .any ops Q fuel (listed.setIfInBounds p.1 true) a w:=by
     intro S' gb' a' w' hr;refine ih _ a' w' (by simpa using hls) hcnt' hkf' hcl' ⟨S',gb',_,hr,g1,fun q hq=>?_,fun t ht=>?_⟩
     ·rw[<-g2 q hq];show aH (iY τ.pm d0) q=_;rw[il,if_neg (by rw[vO hq];simp)]
     ·show lk ((d0,lk σF.e d0)::τ.e) t=_;simp only[lk];split
      ·rename_i e;rw[e]
      ·rename_i hne;refine g3 t fun q hq e=>?_
       have h5:=ht q hq e
       have:p.1≠q.1:=by
        intro h6
        have:=h2 q hq
        unfold Co at this;rw[if_pos (by simp[h6]),cY,e,hd0] at this;cases this;exact hne rfl
       simp only[kX,Array.getElem?_setIfInBounds_ne this] at h5 ⊢;exact h5
    simp only[Fa] at hmt;rcases hmt with hmt|hmt
    ·obtain ⟨q1,q2,u,q3,q4⟩:=nY h hmt hev';refine bA q3 ?_;rw[q1];exact fin S gb _ w (h.put q2 q4)
    ·split at hmt<;>(try cases hmt);rename_i d' hp2;split at hmt<;>(try cases hmt);rename_i d'' z hz;simp only[aL,cY] at hmt;obtain ⟨rfl,hmt⟩:=hmt;rw[hp2] at hev' hd0;simp only[cQ,dw] at hd0;subst hd0;simp only[ev,dw,jY,true_and] at hev';refine Np h hmt (fun S' gb' a' w' hr=>fin S' gb' a' w' ?_);rw[<-hev'];exact hr
 have rep: ∀j,(Array.replicate ops.size false).getD j false=false:=by
  intro j;simp only[kX,Array.getElem?_replicate];split<;>rfl
 have none:((List.range ops.size).filter fun j=>(Array.replicate ops.size false).getD j false)=[]:=by
  simp only[List.filter_eq_nil_iff,List.mem_range];intro j hj;rw[rep j];simp
 refine main ops.size (Array.replicate ops.size false) a {w with drawn:=w.drawn+1} (by simp) (by rw[none];simp) (rep k) (fun j o ho hl=>by rw[rep j] at hl;cases hl) ⟨S,gb,σ,hrel.drew,r1.symm,fun p hp=>(r2 p hp).symm,fun t ht=>?_⟩;refine (r3 t fun o ho e=>?_).symm;obtain ⟨p,hp,rfl⟩:=nM.1 ho
 have:=ht p hp e
 rw[rep] at this;cases this
end Go.Ai
namespace Go.Ai
open Go.RowKit
variable {P:Program} {F:Fr} {S:aS} {gb:Gb} {σ:St} {a:Act} {w:World}

abbrev j7 (v:Value):List PanicEntry:=[{v,recovered:=false}]
def FC (P:Program) (f:FuncId) (vs:Array Value) (w:World) (R:Value->World->Prop):Prop:=
 match (callFunc f vs).run P w with
 | .ok (.enter f' as') w'=>Calls P f' as' w' fun e w''=> ∃v,e= .panicked (j7 v)/\R v w''
 |_=>False
def gj (P:Program) (GL:List (Nat×List Value)) (f d:Nat) (I:In) (O:bZ):Prop:=
 ∀(S:aS) (gb:Gb) (w:World) (vs:List Value),aa S gb I.vs vs->HR S gb I.bx I.pm (fun t=>vs.getD t undef) w->
  (∀i us,GL.lookup i=some us-> ∀(o:Nat) (u:Value),us[o]?=some u->S i o=some u/\u.oneCell'=true)->(∀i,i.isNw d=true->gb i=none)->
  FC P f vs.toArray w fun v w'=> ∃S' gb',eS d I O S gb (fun t=>vs.getD t undef) w S' gb' v w'

inductive AP where
 |ce (d f:Nat) (xs:List X)
 |cd (d:Nat) (x:X) (xs:List X)
 |pn (d:Nat) (x:X)
inductive l7 where
 |c (a:AC)
 |rp (l:List bE) (o:AP) (l':List bE)
 |sq (a b:l7)
 |cd (x:X) (a b:l7)
 |bl (i:Nat) (a:l7)
 |lp (a:l7)
 |sc (a:l7)
 |rq (us:List (List Nat)) (l:List bE) (k:Nat) (ll:List (Nat×bE)) (d f:Nat) (ys:List X)

section
variable (S:Nat->Nat->In->bZ->Prop) (SP:Nat->Nat->In->bZ->Prop) (R:AV->St->Prop)
def lF (d:Nat) (σ:St) (xs:List X) (I:In) (O:bZ):St:=⟨(d,.undef)::(bH d σ xs I O).e,(bH d σ xs I O).bx,iY (bH d σ xs I O).pm d⟩
def FG (f d:Nat) (xs:List X) (σ:St):Prop:= ∃I O,SP f d I O/\cZ d σ xs I O/\O.r.ids=[]/\R O.r (lF d σ xs I O)
def Jn (os:List bE) (d f:Nat) (ys:List X) (σ:St):Prop:=lQ S os (fun τ=> ∃I O,SP f d I O/\cZ d τ ys I O/\(∀p∈I.pm,p.1.isB=true)/\O.r.ids=[]/\
 ∀τ',τ'.bx=(lF d τ ys I O).bx->(∀p:Pl,p.isB=true->aH τ'.pm p=aH (lF d τ ys I O).pm p)->R O.r τ') σ
def AS:AP->(St->Prop)->St->Prop
 | .ce d f xs,K,σ=>IY S f d xs K σ\/FG SP R f d xs σ
 | .cd d x xs,K,σ=>match σ.v x with
  | .fn f caps=>if BM<=f then IY S (f - BM) d (caps.map X.c++xs) K σ\/FG SP R (f - BM) d (caps.map X.c++xs) σ else IY S f d (xs++caps.map X.c) K σ\/FG SP R f d (xs++caps.map X.c) σ
  |_=>False
 | .pn _ x,_,σ=>match σ.v x with
  | .ifc T v=>v.ids=[]/\R (.ifc T v) σ
  |_=>False
def bD:l7->(AE->St->Prop)->St->Prop
 | .c a,Q,σ=>em S a Q σ
 | .rp l o l',Q,σ=>lQ S l (AS S SP R o (lQ S l' (Q .n))) σ
 | .sq a b,Q,σ=>bD a (AE.sq (bD b Q) Q) σ
 | .cd x a b,Q,σ=>match σ.v x with
  | .bool t=>if t=true then bD a Q σ else bD b Q σ
  |_=>False
 | .bl i a,Q,σ=>bD a (AE.bl i Q) σ
 | .lp a,Q,σ=> ∃n,B3 (bD a) Q n σ
 | .sc a,Q,σ=>bD a Q σ
 | .rq us l _ ll d f ys,Q,σ=>j5 S us l 0 [] (Q .n) σ\/Jn S SP R (ll.map (·.2)) d f ys σ
end
theorem rP {S:Nat->Nat->In->bZ->Prop}: ∀ {c:AC} {Q Q':AE->St->Prop} {σ:St},(∀e σ,Q e σ->Q' e σ)->em S c Q σ->em S c Q' σ:=by
 intro c;have m1: ∀ {o:bE} {K K':St->Prop} {σ:St},(∀σ,K σ->K' σ)->cg S o K σ->cg S o K' σ:=fun hk h=>oi hk h
 have mL: ∀ {l:List bE} {K K':St->Prop} {σ:St},(∀σ,K σ->K' σ)->lQ S l K σ->lQ S l K' σ:=by
  intro l;induction l with
  |nil=>intro K K' σ hk h;exact hk _ h
  |cons o r ih=>intro K K' σ hk h;exact m1 (fun σ h=>ih hk h) h
 have mD: ∀ {us:List (List Nat)} {l:List bE} {j:Nat} {h:List (Nat×Bx)} {K K':St->Prop} {σ:St},(∀σ,K σ->K' σ)->j5 S us l j h K σ->j5 S us l j h K' σ:=by
  intro us;induction us with
  |nil=>intro l j h K K' σ hk hw;cases l with
   |nil=>exact hk _ hw
   |cons=>exact hw.elim
  |cons u us ih=>intro l j h K K' σ hk hw;cases l with
   |nil=>exact hw.elim
   |cons o r=>exact ⟨hw.1,m1 (fun σ h=>eK.2 ⟨(eK.1 h).1,ih hk (eK.1 h).2⟩) hw.2⟩
 have sqm: ∀ {B B':St->Prop} {Q Q':AE->St->Prop},(∀σ,B σ->B' σ)->(∀e σ,Q e σ->Q' e σ)-> ∀e σ,AE.sq B Q e σ->AE.sq B' Q' e σ:=by
  intro B B' Q Q' hb hq e σ h;cases e
  ·exact hb _ h
  ·exact hq _ _ h
  ·exact hq _ _ h
 induction c with
 |sk=>intro Q Q' σ hq h;exact hq _ _ h
 |rg l=>intro Q Q' σ hq h;exact mL (fun σ h=>hq _ _ h) h
 |rd us l=>intro Q Q' σ hq h;exact mD (fun σ h=>hq _ _ h) h
 |sq a b iha ihb=>intro Q Q' σ hq h;exact iha (sqm (fun σ h=>ihb hq h) hq) h
 |cd x a b iha ihb=>
  intro Q Q' σ hq h;unfold em at h ⊢;split at h
  ·rename_i t ht;split at h
   ·rename_i e;rw[if_pos e];exact iha hq h
   ·rename_i e;rw[if_neg e];exact ihb hq h
  ·cases h
 |bl i a ih=>
  intro Q Q' σ hq h;refine ih (fun e σ h=>?_) h;cases e
  ·exact hq _ _ h
  ·rename_i j;unfold AE.bl at h ⊢;by_cases e:j=i
   ·simp only[if_pos e] at h ⊢;exact hq _ _ h
   ·simp only[if_neg e] at h ⊢;exact hq _ _ h
  ·exact hq _ _ h
 |lp a ih=>
  intro Q Q' σ hq h;obtain ⟨n,hn⟩:=h;refine ⟨n,?_⟩;induction n generalizing σ with
  |zero=>exact hn
  |succ n ihn=>
   obtain ⟨τ,hτ,hb⟩:=hn;exact ⟨τ,hτ,ih (sqm (fun σ h=>ihn h) hq) hb⟩
 |ex i=>intro Q Q' σ hq h;exact hq _ _ h
 |rt=>intro Q Q' σ hq h;exact hq _ _ h
 |sc a ih=>intro Q Q' σ hq h;exact ih hq h
 |lb=>intro Q Q' σ hq h;exact hq _ _ h
 |no=>intro Q Q' σ hq h;exact h
 |fz s l=>intro Q Q' σ hq h;obtain ⟨b,n,sz,rows,tl,q1,q2,q3⟩:=h;exact ⟨b,n,sz,rows,tl,q1,q2,mL (fun σ h=>hq _ _ h) q3⟩

theorem DP {S:Nat->Nat->In->bZ->Prop}: ∀ {us:List (List Nat)} {l:List bE} {j:Nat} {h:List (Nat×Bx)} {K K':St->Prop} {σ:St},(∀σ,K σ->K' σ)->j5 S us l j h K σ->j5 S us l j h K' σ:=by
 intro us;induction us with
 |nil=>intro l j h K K' σ hk hw;cases l with
  |nil=>exact hk _ hw
  |cons=>exact hw.elim
 |cons u us ih=>intro l j h K K' σ hk hw;cases l with
  |nil=>exact hw.elim
  |cons o r=>exact ⟨hw.1,oi (fun σ h=>eK.2 ⟨(eK.1 h).1,ih hk (eK.1 h).2⟩) hw.2⟩
theorem yL {S:Nat->Nat->In->bZ->Prop}: ∀ {l:List bE} {K K':St->Prop} {σ:St},(∀σ,K σ->K' σ)->lQ S l K σ->lQ S l K' σ:=by
 intro l;induction l with
 |nil=>intro K K' σ hk h;exact hk _ h
 |cons o r ih=>intro K K' σ hk h;exact oi (fun σ h=>ih hk h) h
theorem FH {S SP:Nat->Nat->In->bZ->Prop} {R:AV->St->Prop} {K K':St->Prop} (hk: ∀σ,K σ->K' σ): ∀ {o:AP} {σ:St},AS S SP R o K σ->AS S SP R o K' σ:=by
 intro o σ h;cases o with
 |ce d f xs=>
  rcases h with ⟨I,O,h1,h2,h3⟩|h
  ·exact .inl ⟨I,O,h1,h2,hk _ h3⟩
  ·exact .inr h
 |cd d x xs=>
  simp only[AS] at h ⊢;split at h
  ·split at h<;>rename_i hb<;>(first|rw[if_pos hb]|rw[if_neg hb])<;>rcases h with ⟨I,O,h1,h2,h3⟩|h
   ·exact .inl ⟨I,O,h1,h2,hk _ h3⟩
   ·exact .inr h
   ·exact .inl ⟨I,O,h1,h2,hk _ h3⟩
   ·exact .inr h
  ·cases h
 |pn d x=>exact h
theorem Cp {B B':St->Prop} {Q Q':AE->St->Prop} (hb: ∀σ,B σ->B' σ) (hq: ∀e σ,Q e σ->Q' e σ): ∀e σ,AE.sq B Q e σ->AE.sq B' Q' e σ:=by
 intro e σ h;cases e
 ·exact hb _ h
 ·exact hq _ _ h
 ·exact hq _ _ h
theorem DQ {S SP:Nat->Nat->In->bZ->Prop} {R:AV->St->Prop}: ∀ {c:l7} {Q Q':AE->St->Prop} {σ:St},(∀e σ,Q e σ->Q' e σ)->bD S SP R c Q σ->bD S SP R c Q' σ:=by
 intro c;induction c with
 |c a=>intro Q Q' σ hq h;exact rP hq h
 |rp l o l'=>intro Q Q' σ hq h;exact yL (fun σ h=>FH (fun σ h=>yL (fun σ h=>hq _ _ h) h) h) h
 |sq a b iha ihb=>intro Q Q' σ hq h;exact iha (Cp (fun σ h=>ihb hq h) hq) h
 |cd x a b iha ihb=>
  intro Q Q' σ hq h;unfold bD at h ⊢;split at h
  ·rename_i t ht;split at h
   ·rename_i e;rw[if_pos e];exact iha hq h
   ·rename_i e;rw[if_neg e];exact ihb hq h
  ·cases h
 |bl i a ih=>
  intro Q Q' σ hq h;refine ih (fun e σ h=>?_) h;cases e
  ·exact hq _ _ h
  ·rename_i j;unfold AE.bl at h ⊢;by_cases e:j=i
   ·simp only[if_pos e] at h ⊢;exact hq _ _ h
   ·simp only[if_neg e] at h ⊢;exact hq _ _ h
  ·exact hq _ _ h
 |lp a ih=>
  intro Q Q' σ hq h;obtain ⟨n,hn⟩:=h;refine ⟨n,?_⟩;induction n generalizing σ with
  |zero=>exact hn
  |succ n ihn=>
   obtain ⟨τ,hτ,hb⟩:=hn;exact ⟨τ,hτ,ih (Cp (fun σ h=>ihn h) hq) hb⟩
 |sc a ih=>intro Q Q' σ hq h;exact ih hq h
 |rq us l k ll d f ys=>intro Q Q' σ hq h;exact h.imp (DP fun σ h=>hq _ _ h) id
theorem Lu {S SP:Nat->Nat->In->bZ->Prop} {R:AV->St->Prop} {α:Type} {c:l7} {Q:AE->St->Prop} (st:α->St) (I:α->Prop) (μ:α->Nat)
  (step: ∀x,I x->bD S SP R c (AE.sq (Nn st I μ x) Q) (st x)) {σ:St} (x:α) (hx:I x) (hw:fx σ (st x)):bD S SP R (.lp c) Q σ:=by
 have key: ∀n x,μ x<n->I x-> ∀σ,um σ (st x)->B3 (bD S SP R c) Q n σ:=by
  intro n;induction n with
  |zero=>intro x h;omega
  |succ n ih=>
   intro x hn hx σ hw;refine ⟨st x,hw,DQ ?_ (step x hx)⟩;intro e σ' h;cases e
   ·obtain ⟨y,hy,hlt,hwy⟩:=h;exact ih y (by omega) hy σ' hwy
   ·exact h
   ·exact h
 exact ⟨μ x+1,key _ x (by omega) hx σ (.inl hw)⟩
theorem Cq {S SP:Nat->Nat->In->bZ->Prop} {R:AV->St->Prop} {α:Type} {c:l7} {Q:AE->St->Prop} (st:α->St) (I:α->Prop) (μ:α->Nat)
  (step: ∀(K:St->Prop) (x:α),(∀(y:α) (σ':St),I y->μ y<μ x->fx σ' (st y)->K σ')->I x->bD S SP R c (AE.sq K Q) (st x)) {σ:St} (x:α) (hx:I x) (hw:fx σ (st x)):bD S SP R (.lp c) Q σ:=
 Lu st I μ (fun x hx=>step (Nn st I μ x) x (fun y σ' h1 h2 h3=>Fy y h1 h2 h3) hx) x hx hw

def Nq (P:Program) (GL:List (Nat×List Value)) (N:Nat) (o:Oper):AP->Bool
 | .ce d f xs=>o.guard.isNone&&dU P GL N o (.ce d f xs)
 | .cd d x xs=>o.guard.isNone&&dU P GL N o (.cd d x xs)
 | .pn _ x=>o.guard.isNone&&(match o.op with | .panic y=>mX GL x y|_=>false)
def Lv (P:Program) (GL:List (Nat×List Value)) (N:Nat) (ops:Array Oper) (os:List Oper) (l:List bE) (p:AP) (l':List bE):Bool:=match os.drop l.length with
 |o::r=>lZ P GL N ops (os.take l.length) l&&Nq P GL N o p&&lZ P GL N ops r l'
 |[]=>false
def pG (P:Program) (GL:List (Nat×List Value)) (N:Nat) (dr:Array Oper->List (List Nat)->List bE->Bool):Code->l7->Bool
 |c,.c a=>mC P GL N dr c a
 | .region _ ops false,.rp l o l'=>Lv P GL N ops ops.toList l o l'
 | .seq x y,.sq x' y'=>pG P GL N dr x x'&&pG P GL N dr y y'
 | .cond c x y,.cd c' x' y'=>mX GL c' c&&pG P GL N dr x x'&&pG P GL N dr y y'
 | .block i x,.bl j x'=>i==j&&pG P GL N dr x x'
 | .loop x,.lp x'=>pG P GL N dr x x'
 | .scope x,.sc x'=>pG P GL N dr x x'
 | .region _ ops true,.rq us l k ll d f ys=>lZ P GL N ops ops.toList l&&dr ops us l&&DO P GL N ops l k ll d f ys
 |_,_=>false
theorem aN.unput {e:List (Nat×AV)} {bx:List (Id×List AV)} {pm:List (Pl×Nat)} {d:Nat} {u:Value} (hd:d<F.N) (h:aN F S gb ⟨e,bx,pm⟩ (a.put (some d) u) w):aN F S gb ⟨(d,.undef)::e,bx,iY pm d⟩ a w:=by
 have hs:a.tmps.size=F.N:=by have:=h.size;simpa[Act.put] using this
 have hd':d<a.tmps.size:=by rw[hs];exact hd
 have hat: ∀p k,aH (iY pm d) p=some k->p.at d=false/\aH pm p=some k:=by
  intro p k hk;rw[il] at hk;split at hk
  ·cases hk
  ·rename_i hne;exact ⟨by simpa using hne,hk⟩
 refine ⟨h.defers,hs,h.bw,h.ext,h.le,?_,⟨h.hr.agree,h.hr.box,h.hr.its,h.hr.inj,?_,?_,?_,?_⟩,h.newb,?_,h.dom,h.up,h.glo⟩
 ·intro t;simp only[lk];split
  ·simp[PR]
  ·rename_i ne
   have:=h.env t
   rwa [jo hd',if_neg ne] at this
 ·intro p k hk;obtain ⟨h1,h2⟩:=hat p k hk
  have:=h.hr.own p k h2
  rwa [dt hd' h1] at this
 ·intro p q k l b hk hl h1 h2;obtain ⟨p1,p2⟩:=hat p k hk;obtain ⟨q1,q2⟩:=hat q l hl;rw[<-dt (u:=u) hd' p1] at h1;rw[<-dt (u:=u) hd' q1] at h2;exact h.hr.ownd p q k l b p2 q2 h1 h2
 ·intro p k b d' z hk h1;obtain ⟨p1,p2⟩:=hat p k hk;rw[<-dt (u:=u) hd' p1] at h1;exact h.hr.ownb p k b d' z p2 h1
 ·intro e off k hk;exact h.hr.pmb e off k (hat _ k hk).2
 ·intro p k g hk hg;obtain ⟨p1,p2⟩:=hat p k hk;rw[<-dt (u:=u) hd' p1] at hg;exact h.newo p k g p2 hg
theorem jN (h:aN F S gb σ a w) {o:Oper} {d f:Nat} (h2:d<F.N) (h1:o.dst=some d) {xs:List X} {vs:List Value} (hl:aa S gb (xs.map σ.v) vs) (hsl: ∀(i t:Nat),xs[i]?=some (X.s t)->vs[i]?=some (tv a t))
  (hrun:(execOp a.eval o).run P w=(callFunc f vs.toArray).run P w) {R:AV->St->Prop} (hw:FG (gj P F.GL) R f d xs σ) {K':Act->World->Prop} {Q:Exit->Act->World->Prop}
  (hR: ∀v u S gb σ a w,aN F S gb σ a w->R v σ->PR S gb v u->v.ids=[]->Q (.panic (j7 u)) a w):o.wp P a w K' Q:=by
 obtain ⟨I,O,hspec,hc,hi,hr⟩:=hw;have hent:=gS h hc hl hsl;have hvs:aa S gb I.vs vs:=px hc.vs hl;have hglo: ∀i us,F.GL.lookup i=some us-> ∀(o:Nat) (u:Value),us[o]?=some u->S i o=some u/\u.oneCell'=true:=fun i us hi o u hu=>⟨h.le _ _ _ (h.glo i us hi o u hu).1,(h.glo i us hi o u hu).2⟩
 have hgn: ∀i,i.isNw d=true->gb i=none:=by
  intro i hi;cases hg:gb i with
  |none=>rfl
  |some x=>
   rcases h.dom i (by rw[hg];simp) with h1|h1
   ·obtain ⟨cs,hcs⟩:=jX.1 h1
    have:=hc.free _ (cV _ _ _ hcs)
    simp only at this;rw[this] at hi;cases hi
   ·cases i<;>simp[Id.isUp,Id.isNw] at h1 hi
 have hd:=hspec S gb w vs hvs hent hglo hgn;unfold Oper.wp;rw[hrun];unfold FC at hd;split at hd
 ·rename_i f' as' w' he;rw[he];simp only[Oper.upon_enter];refine hd.mono ?_;rintro e w'' ⟨u,rfl,S',gb',hp⟩;exact hR O.r u S' gb' _ a w'' ((h.call h2 hc hl hsl hp).unput h2) hr hp.r hi
 ·exact hd.elim
theorem DR (h:aN F S gb σ a w) {o:Oper} {p:AP} (hm:Nq P F.GL F.N o p=true) {R:AV->St->Prop} {K:St->Prop} (hw:AS (bM P F.GL) (gj P F.GL) R p K σ) {K':Act->World->Prop} {Q:Exit->Act->World->Prop}
  (hK: ∀S gb σ a w,aN F S gb σ a w->K σ->K' a w) (hR: ∀v u S gb σ a w,aN F S gb σ a w->R v σ->PR S gb v u->v.ids=[]->Q (.panic (j7 u)) a w):o.guard=none/\o.wp P a w K' Q:=by
 cases p with
 |ce d f xs=>
  simp only[Nq,aL,Option.isNone_iff_eq_none] at hm;refine ⟨hm.1,?_⟩;rcases hw with hw|hw
  ·exact kB h hm.2 (ao:= .ce d f xs) (K:=K) (by simpa only[cg] using hw) hK
  ·have hm:=hm.2;simp only[dU,aL,az] at hm;obtain ⟨⟨h1,h2⟩,hm⟩:=hm;split at hm<;>(try cases hm);rename_i f' as ts hop;simp only[aL,cY] at hm;obtain ⟨rfl,hxs⟩:=hm;refine jN h h2 h1 (dL h hxs) (fun i t hi=>iE hxs hi) ?_ hw hR;have harr:(List.map a.eval as.toList).toArray=as.map a.eval:=by
    apply Array.ext';simp
   rw[harr];unfold execOp;simp[hop,resolve,Act.eval,Deferred.ofValue,invoke]
 |cd d x xs=>
  simp only[Nq,aL,Option.isNone_iff_eq_none] at hm;refine ⟨hm.1,?_⟩;simp only[AS] at hw;split at hw
  ·rename_i f caps hv;have hm':=hm.2;simp only[dU,aL,az] at hm';obtain ⟨⟨h1,h2⟩,hm'⟩:=hm';split at hm'<;>(try cases hm');rename_i f' as ts hop;simp only[aL] at hm';obtain ⟨hx,hxs⟩:=hm';split at hw
   ·rename_i hb;rcases hw with hw|hw
    ·exact kB h hm.2 (ao:= .cd d x xs) (K:=K) (by simp only[cg,hv,if_pos hb];exact hw) hK
    ·obtain ⟨vs,g1,g2,g3⟩:=qQ (P:=P) h hop hx hxs hv (g:=f - BM) (ys:=caps.map X.c++xs) (by rw[if_pos hb]);exact jN h h2 h1 g1 g2 g3 hw hR
   ·rename_i hb;rcases hw with hw|hw
    ·exact kB h hm.2 (ao:= .cd d x xs) (K:=K) (by simp only[cg,hv,if_neg hb];exact hw) hK
    ·obtain ⟨vs,g1,g2,g3⟩:=qQ (P:=P) h hop hx hxs hv (g:=f) (ys:=xs++caps.map X.c) (by rw[if_neg hb]);exact jN h h2 h1 g1 g2 g3 hw hR
  ·cases hw
 |pn d x=>
  simp only[Nq,aL,Option.isNone_iff_eq_none] at hm;obtain ⟨hg,hm⟩:=hm;refine ⟨hg,?_⟩;split at hm<;>(try cases hm);rename_i y hop;have hx:=aA h hm;simp only[AS] at hw;split at hw
  ·rename_i T v hv;obtain ⟨hi,hr⟩:=hw;rw[hv] at hx;have hx':=hx;simp only[PR] at hx;obtain ⟨u,hu,_⟩:=hx;unfold Oper.wp execOp;simp only[hop];rw[hu] at hx' ⊢;simp[Instr.panic,goPanic];exact hR _ _ S gb σ a w h hr hx' (by simpa[AV.ids] using hi)
  ·cases hw
theorem jx {ops:Array Oper} {rest:List Oper} {K:St->Prop} {Q:Exit->Act->World->Prop} (hQ: ∀S gb σ a w,aN F S gb σ a w->K σ->wpList P ops Q rest a w):
  ∀ {l:List Oper} {al:List bE},lZ P F.GL F.N ops l al=true-> ∀ {S:aS} {gb:Gb} {σ:St} {a:Act} {w:World},aN F S gb σ a w->lQ (bM P F.GL) al K σ->wpList P ops Q (l++rest) a w
 |[],al,hm,S,gb,σ,a,w,h,hw=>by
  cases al<;>simp[lZ] at hm;exact hQ _ _ _ _ _ h hw
 |o::r,al,hm,S,gb,σ,a,w,h,hw=>by
  cases al with
  |nil=>simp[lZ] at hm
  |cons ao s=>
   simp only[lZ,aL] at hm;simp only[lQ] at hw
   have:=jf h hm.1 hw (K':=wpList P ops Q (r++rest)) (Q:=Q) (fun S gb σ a w h' hk=>jx hQ hm.2 h' hk)
   rw[cT];simp only[wpList];split
   ·rename_i hc;rw[if_pos hc] at this;exact .inl this
   ·rename_i hc;rw[if_neg hc] at this;exact this
theorem yM {ops:Array Oper} {os:List Oper} {l:List bE} {p:AP} {l':List bE} (hm:Lv P F.GL F.N ops os l p l'=true) {R:AV->St->Prop} {K:St->Prop} {Q:Exit->Act->World->Prop} (hQ: ∀S gb σ a w,aN F S gb σ a w->K σ->Q .normal a w)
  (hR: ∀v u S gb σ a w,aN F S gb σ a w->R v σ->PR S gb v u->v.ids=[]->Q (.panic (j7 u)) a w) (h:aN F S gb σ a w) (hw:lQ (bM P F.GL) l (AS (bM P F.GL) (gj P F.GL) R p (lQ (bM P F.GL) l' K)) σ):wpList P ops Q os a w:=by
 unfold Lv at hm;split at hm
 ·rename_i o r hd;simp only[aL] at hm;have e:os=os.take l.length++o::r:=by rw[<-hd,IQ]
  rw[e];refine jx (K:=AS (bM P F.GL) (gj P F.GL) R p (lQ (bM P F.GL) l' K)) ?_ hm.1.1 h hw;intro S gb σ a w h hw;obtain ⟨hg,hwp⟩:=DR (Q:=Q) (K':=wpList P ops Q r) h hm.1.2 hw (fun S gb σ a w h hk=>gT hQ hm.2 h hk) hR;simp only[wpList];rw[if_pos (by simp[Region.wanted,hg])];exact .inl hwp
 ·cases hm
theorem FI {ops:Array Oper} {GL:List (Nat×List Value)} {N:Nat} {l:List bE} {k:Nat} {ll:List (Nat×bE)} {d f:Nat} {ys:List X} (hm:DO P GL N ops l k ll d f ys=true):(ll.map (·.2)).all Ls=true:=by
 simp only[DO,aL] at hm;obtain ⟨⟨⟨⟨⟨-,hll⟩,-⟩,-⟩,-⟩,-⟩:=hm;refine iW.2 fun o ho=>?_
 obtain ⟨p,hp,rfl⟩:=nM.1 ho
 have:=iW.1 hll p hp
 simp only[aL] at this
 have:=this.1
 unfold yK at this;split at this
 ·simp only[aL] at this;exact this.1.2
 ·cases this
theorem FJ {ops:Array Oper} {id:Nat} {l:List bE} {k:Nat} {ll:List (Nat×bE)} {d f:Nat} {ys:List X} (hmix:P.follows .mixedOrders=true) (hm:DO P F.GL F.N ops l k ll d f ys=true) {R:AV->St->Prop} {Q:Exit->Act->World->Prop}
  (hR: ∀v u S gb σ a w,aN F S gb σ a w->R v σ->PR S gb v u->v.ids=[]->Q (.panic (j7 u)) a w) (h:aN F S gb σ a w) (hw:Jn (bM P F.GL) (gj P F.GL) R (ll.map (·.2)) d f ys σ):(Code.region id ops true).wp P Q a w:=by
 obtain ⟨σF,hrun,I,O,hspec,hc,hpb,hi,hr⟩:=Cm (FI hm) hw;refine wp_region_any hmix (Lt hm h hrun ?_);intro S gb τ a w h' hb hp hu o ho hmt K';have hvs:ys.map τ.v=ys.map σF.v:=mA hu;have hc':cZ d τ ys I O:=by
  refine ⟨by rw[hvs];exact hc.vs,fun p hp=>by rw[hb];exact hc.bx p hp,fun p hpm=>?_,hc.one,hc.kept,hc.new,fun p hp=>hc.free p (by rw[<-hb];exact hp)⟩;have h1:=hc.pm p hpm;have h2:=hpb p hpm;obtain ⟨q,k⟩:=p;cases q with
  |s t=>cases h2
  |t t i=>cases h2
  |b e off=>
   simp only[ry,jn] at h1 ⊢;rw[hb,hp _ rfl];exact h1
 have hpm: ∀p:Pl,p.isB=true->aH (lF d τ ys I O).pm p=aH (lF d σF ys I O).pm p:=by
  intro p hq;simp only[lF,bH,il,vN,rK ys _ _ hpb,l0,vO hq];cases p with
  |s t=>cases hq
  |t t i=>cases hq
  |b e off=>simp only[hp _ hq]
 have hmt':=hmt;simp only[dU,aL,az] at hmt';obtain ⟨⟨h1,h2⟩,hm3⟩:=hmt';split at hm3<;>(try cases hm3);rename_i f' as ts hop;simp only[aL,cY] at hm3;obtain ⟨rfl,hxs⟩:=hm3;refine jN h' h2 h1 (dL h' hxs) (fun i t hi=>iE hxs hi) ?_ ⟨I,O,hspec,hc',hi,hr _ (by simp only[lF,bH,hb]) hpm⟩ hR;have harr:(List.map a.eval as.toList).toArray=as.map a.eval:=by
  apply Array.ext';simp
 rw[harr];unfold execOp;simp[hop,resolve,Act.eval,Deferred.ofValue,invoke]
theorem l8 {dr:Array Oper->List (List Nat)->List bE->Bool} (hd:cJ P F.GL F.N dr) {R:AV->St->Prop}: ∀ {c:Code} {ac:l7},pG P F.GL F.N dr c ac=true-> ∀ {Q:AE->St->Prop} {Q':Exit->Act->World->Prop},(∀e S gb σ a w,aN F S gb σ a w->Q e σ->Q' (DH e) a w)->
  (∀v u S gb σ a w,aN F S gb σ a w->R v σ->PR S gb v u->v.ids=[]->Q' (.panic (j7 u)) a w)->
  ∀ {S:aS} {gb:Gb} {σ:St} {a:Act} {w:World},aN F S gb σ a w->bD (bM P F.GL) (gj P F.GL) R ac Q σ->c.wp P Q' a w:=by
 intro c;have plain: ∀(c:Code) {ac:l7} {a':AC},ac= .c a'->pG P F.GL F.N dr c ac=true-> ∀ {Q:AE->St->Prop} {Q':Exit->Act->World->Prop},(∀e S gb σ a w,aN F S gb σ a w->Q e σ->Q' (DH e) a w)->
   ∀ {S:aS} {gb:Gb} {σ:St} {a:Act} {w:World},aN F S gb σ a w->bD (bM P F.GL) (gj P F.GL) R ac Q σ->c.wp P Q' a w:=by
  intro c ac a' e hm Q Q' hQ S gb σ a w h hw;subst e;have hm':mC P F.GL F.N dr c a'=true:=by cases c<;>simpa only[pG] using hm
  exact fR hd hm' hQ h hw
 induction c with
 |region id ops draw=>
  intro ac hm Q Q' hQ hR S gb σ a w h hw;cases ac
  case c a'=>exact plain _ rfl hm hQ h hw
  case rp l o l'=>
   cases draw<;>simp[pG] at hm;exact wp_region_list (yM hm (fun S gb σ a w h' hk=>hQ .n _ _ _ _ _ h' hk) hR h hw)
  case rq us l k ll d f ys=>
   cases draw<;>simp[pG] at hm;rcases hw with hw|hw
   ·exact hd.rd F rfl rfl id ops us l hm.1.1 hm.1.2 (Q .n) Q' (fun S gb σ a w h' hk=>hQ .n _ _ _ _ _ h' hk) h hw
   ·exact FJ hd.mix hm.2 hR h hw
  all_goals (cases draw<;>simp[pG] at hm)
 |seq x y ihx ihy=>
  intro ac hm Q Q' hQ hR S gb σ a w h hw;cases ac
  case c a'=>exact plain _ rfl hm hQ h hw
  case sq x' y'=>
   simp only[pG,aL] at hm;refine wp_seq (ihx hm.1 (Q:=AE.sq (bD (bM P F.GL) (gj P F.GL) R y' Q) Q) ?_ ?_ h hw)
   ·intro e S gb σ a w h' hq;cases e
    ·exact ihy hm.2 hQ hR h' hq
    ·exact hQ (.x _) _ _ _ _ _ h' hq
    ·exact hQ .r _ _ _ _ _ h' hq
   ·exact hR
  all_goals simp[pG] at hm
 |cond c x y ihx ihy=>
  intro ac hm Q Q' hQ hR S gb σ a w h hw;cases ac
  case c a'=>exact plain _ rfl hm hQ h hw
  case cd c' x' y'=>
   simp only[pG,aL] at hm;obtain ⟨⟨hc,hx⟩,hy⟩:=hm;have hv:=aA h hc;simp only[bD] at hw;split at hw
   ·rename_i t ht;rw[ht] at hv;simp only[PR] at hv;refine wp_cond hv ?_;cases t
    ·exact ihy hy hQ hR h (by simpa using hw)
    ·exact ihx hx hQ hR h (by simpa using hw)
   ·cases hw
  all_goals simp[pG] at hm
 |block i x ih=>
  intro ac hm Q Q' hQ hR S gb σ a w h hw;cases ac
  case c a'=>exact plain _ rfl hm hQ h hw
  case bl j x'=>
   simp only[pG,aL,cY] at hm;obtain ⟨rfl,hx⟩:=hm;refine wp_block (ih hx (Q:=AE.bl i Q) ?_ ?_ h hw)
   ·intro e S gb σ a w h' hq;cases e
    ·exact hQ .n _ _ _ _ _ h' hq
    ·rename_i j;simp only[DH,Exit.inBlock];simp only[AE.bl] at hq;split at hq
     ·rename_i e;rw[if_pos e];exact hQ .n _ _ _ _ _ h' hq
     ·rename_i e;rw[if_neg e];exact hQ (.x _) _ _ _ _ _ h' hq
    ·exact hQ .r _ _ _ _ _ h' hq
   ·exact hR
  all_goals simp[pG] at hm
 |loop x ih=>
  intro ac hm Q Q' hQ hR S gb σ a w h hw;cases ac
  case c a'=>exact plain _ rfl hm hQ h hw
  case lp x'=>
   simp only[pG] at hm;simp only[bD] at hw;obtain ⟨n,hn⟩:=hw;intro b k cs;have key: ∀n S gb σ a w,aN F S gb σ a w->B3 (bD (bM P F.GL) (gj P F.GL) R x') Q n σ-> ∃e a' w',Q' e a' w'/\Arrives P (lone (b.at a (.code x:: .inLoop x::k)) cs w) b k cs e a' w':=by
    intro n;induction n with
    |zero=>intro S gb σ a w h hn;exact hn.elim
    |succ n ihn=>
     intro S gb σ a w h hn;obtain ⟨τ,hτ,hb⟩:=hn;obtain ⟨gb',h'⟩:=h.weakR hτ;obtain ⟨e,a₁,w₁,hq,harr⟩:=ih hm (Q:=AE.sq (B3 (bD (bM P F.GL) (gj P F.GL) R x') Q n) Q) (Q':=Exit.then (fun a w=> ∃S gb σ,aN F S gb σ a w/\B3 (bD (bM P F.GL) (gj P F.GL) R x') Q n σ) Q') (by
      intro e S gb σ a w h'' hq;cases e
      ·exact ⟨_,_,_,h'',hq⟩
      ·exact hQ (.x _) _ _ _ _ _ h'' hq
      ·exact hQ .r _ _ _ _ _ h'' hq) hR h' hb b (.inLoop x::k) cs
     cases e with
     |normal=>
      obtain ⟨S1,gb1,σ1,h1,hi1⟩:=hq;obtain ⟨e₂,a₂,w₂,hq₂,harr₂⟩:=ihn _ _ _ _ _ h1 hi1;exact ⟨e₂,a₂,w₂,hq₂,.of_steps (Steps.trans harr (.one step_inLoop)) harr₂⟩
     |exit id=>exact ⟨_,a₁,w₁,hq,.pass (x:= .inLoop x) rfl (fun _ _=> .inl (by simp)) harr⟩
     |goto l=>exact ⟨_,a₁,w₁,hq,.pass (x:= .inLoop x) rfl (fun _ _=> .inl (by simp)) harr⟩
     |ret=>exact ⟨_,a₁,w₁,hq,.pass (x:= .inLoop x) rfl (fun _ _=> .inl (by simp)) harr⟩
     |panic ch=>exact ⟨_,a₁,w₁,hq,.pass (x:= .inLoop x) rfl (fun _ _=> .inl (by simp)) harr⟩
     |outgrown=>exact ⟨_,a₁,w₁,hq,.pass (x:= .inLoop x) rfl (fun _ _=> .inl (by simp)) harr⟩
   obtain ⟨e,a',w',hq,harr⟩:=key n _ _ _ _ _ h hn;exact ⟨e,a',w',hq,.of_steps (.one step_loop) harr⟩
  all_goals simp[pG] at hm
 |scope x ih=>
  intro ac hm Q Q' hQ hR S gb σ a w h hw;cases ac
  case c a'=>exact plain _ rfl hm hQ h hw
  case sc x'=>
   simp only[pG] at hm;refine wp_scope_straight (ih hm (Q:=Q) ?_ ?_ h hw)
   ·intro e S gb σ a w h' hq;cases e<;>exact hQ _ _ _ _ _ _ h' hq
   ·exact hR
  all_goals simp[pG] at hm
 |_=>
  intro ac hm Q Q' hQ hR S gb σ a w h hw;cases ac
  case c a'=>exact plain _ rfl hm hQ h hw
  all_goals simp[pG] at hm

structure rQ where
 c:l7
 rs:List AR
 np:Nat
 N:Nat
def qS (P:Program) (GL:List (Nat×List Value)) (dr:Array Oper->List (List Nat)->List bE->Bool) (fn:Func) (f:rQ):Bool:=
 fn.name != "runtime.NumGoroutine"&&fn.params.size+fn.nfree==f.np&&fn.ntmps==f.N&&Nat.ble f.np f.N&&Ad P f.rs fn.results.toList&&(match fn.body with |some c=>pG P GL f.N dr c f.c|none=>false)
@[irreducible] def dK (P:Program) (GL:List (Nat×List Value)) (f d:Nat) (I:In) (O:bZ):Prop:=gj P GL f d I O
theorem vU (P:Program) (GL:List (Nat×List Value)):dK P GL=gj P GL:=by funext f d I O;unfold dK;rfl
def ee (d:Nat) (O:bZ) (v:AV) (σ:St):Prop:=v=O.r/\(∀p∈O.pm,∃b o,p.1= .b b o)/\kE d [] ⟨.tup [],O.bx,O.pm⟩ σ
theorem HR.svB {bx:List (Id×List AV)} {pm:List (Pl×Nat)} {sv sv':Nat->Value} (h:HR S gb bx pm sv w) (hp: ∀p k,aH pm p=some k-> ∃b o,p= .b b o):HR S gb bx pm sv' w:=by
 have e: ∀p k,aH pm p=some k->cM gb sv' w p=cM gb sv w p:=by
  intro p k hk;obtain ⟨b,o,rfl⟩:=hp p k hk;rfl
 refine ⟨h.agree,h.box,h.its,h.inj,?_,?_,?_,h.pmb⟩
 ·intro p k hk;rw[e p k hk];exact h.own p k hk
 ·intro p q k l b hk hl h1 h2;rw[e p k hk] at h1;rw[e q l hl] at h2;exact h.ownd p q k l b hk hl h1 h2
 ·intro p k b d z hk h1;rw[e p k hk] at h1;exact h.ownb p k b d z hk h1
theorem AT {GL:List (Nat×List Value)} {dr:Array Oper->List (List Nat)->List bE->Bool} {f:Nat} {fn:Func} {af:rQ} (hf:P.funcs[f]?=some fn) (hm:qS P GL dr fn af=true) (hd:cJ P GL af.N dr) {d:Nat} {I:In} {O:bZ} (hl:I.vs.length=af.np)
  (hw:bD (bM P GL) (gj P GL) (ee d O) af.c (fun _ _=>False) (aw I)):gj P GL f d I O:=by
 simp only[qS,aL,bne_iff_ne,cY] at hm;obtain ⟨⟨⟨⟨⟨h1,h2⟩,h3⟩,h4⟩,h5⟩,h6⟩:=hm;split at h6<;>(try cases h6);rename_i c hb;have h4:=Nat.le_of_ble_eq_true h4;intro S gb w vs hvs hhr hglo hnw;have hlen:vs.length=I.vs.length:=hvs.length.symm;unfold FC;have hcall:(callFunc f vs.toArray).run P w= .ok (.enter f vs.toArray) w:=by
  simp[callFunc,hf,hb,h1]
 rw[hcall];refine calls_of_wp hf hb ?_
 let F:Fr:=⟨S,w,MS I gb (fun t=>vs.getD t undef) w,gb,af.N,GL,[]⟩
 have hsv:tv {tmps:=vs.toArray++Array.replicate (fn.ntmps - vs.toArray.size) undef,defers:=[]}=fun t=>vs.getD t undef:=by
  funext t;exact eL
 have hup:=hhr.up;have hrel:aN F S (fG gb) (aw I) {tmps:=vs.toArray++Array.replicate (fn.ntmps - vs.toArray.size) undef,defers:=[]} w:=by
  refine ⟨rfl,?_,Bw.refl _ _,fun _ _ _ _=>rfl,aS.le.refl _,?_,by rw[hsv];exact hup,?_,?_,?_,fun d=>rfl,hglo⟩
  ·show (vs.toArray++Array.replicate (fn.ntmps - vs.toArray.size) undef).size=af.N;simp;omega
  ·intro t
   have:=(iG (dW _ _ hvs) 0 t).2 t (by omega)
   rw[eL];exact this
  ·intro i g z hi hq;obtain ⟨c1,hc1⟩:=jX.1 hi;obtain ⟨j,cs,rfl,hj,_⟩:=bV db hc1;exact .inr (.inl ⟨j,z,by rw[hj];rfl,hq⟩)
  ·intro p k g hp hg;obtain ⟨q,rfl,hq⟩:=fk db hp;rw[hsv,ld] at hg;exact .inr (.inr ⟨q,k,hq,hg⟩)
  ·intro i hi;cases i<;>simp[fG,Id.isUp] at hi ⊢
 refine l8 (F:=F) hd h6 (Q:=fun _ _=>False) (R:=ee d O) (fun _ _ _ _ _ _ _ hq=>hq.elim) ?_ hrel hw;rintro v u S' gb' σ' a' w' hr ⟨rfl,hpm,hok⟩ hp hi;have hv:iF σ' []=some []:=rfl;obtain ⟨o1,o2,o3,o4⟩:=hr.out hok hv (us:=[]) (by simp[aa]) (fun i s hi=>by simp at hi) rfl;refine ⟨hr.defers,u,rfl,S',dG d gb' O.bx,hr.bw,hr.ext,hr.le,?_,?_,PR.noids _ _ hi hp,o2.svB (fun p k hk=>hpm _ (fh _ _ _ hk)),o3,?_⟩
 ·intro i hi
  have:dG d gb' O.bx i=gb' (i.inn d):=eV (fun e=>by rw[hi] at e;cases e)
  rw[this,ai hi];exact hr.up i
 ·intro i hi hne;simp only[dG] at hne;split at hne
  ·exact absurd rfl hne
  ·rename_i hno;cases hs:(aE O.bx i).isSome with
   |true=>rfl
   |false=>exact absurd ⟨hi,hs⟩ hno
 ·intro p k g hk hg;obtain ⟨b,o,e⟩:=hpm _ (fh _ _ _ hk);simp only at e;subst e;exact o4 _ k g hk hg
theorem AU {GL:List (Nat×List Value)} {dr:Array Oper->List (List Nat)->List bE->Bool} {f:Nat} {fn:Func} {af:rQ} (hf:P.funcs[f]?=some fn) (hm:qS P GL dr fn af=true) (hd:cJ P GL af.N dr) {d:Nat} {I:In} {O:bZ} (hl:I.vs.length=af.np)
  (hw:bD (bM P GL) (gj P GL) (fun _ _=>False) af.c (bS d af.rs O) (aw I)):bM P GL f d I O:=by
 simp only[qS,aL,bne_iff_ne,cY] at hm;obtain ⟨⟨⟨⟨⟨h1,h2⟩,h3⟩,h4⟩,h5⟩,h6⟩:=hm;split at h6<;>(try cases h6);rename_i c hb;have h4:=Nat.le_of_ble_eq_true h4;intro S gb w vs hvs hhr hglo hnw;have hlen:vs.length=I.vs.length:=hvs.length.symm;unfold mP;have hcall:(callFunc f vs.toArray).run P w= .ok (.enter f vs.toArray) w:=by
  simp[callFunc,hf,hb,h1]
 rw[hcall];refine calls_of_wp hf hb ?_
 let F:Fr:=⟨S,w,MS I gb (fun t=>vs.getD t undef) w,gb,af.N,GL,[]⟩
 have hsv:tv {tmps:=vs.toArray++Array.replicate (fn.ntmps - vs.toArray.size) undef,defers:=[]}=fun t=>vs.getD t undef:=by
  funext t;exact eL
 have hup:=hhr.up;have hrel:aN F S (fG gb) (aw I) {tmps:=vs.toArray++Array.replicate (fn.ntmps - vs.toArray.size) undef,defers:=[]} w:=by
  refine ⟨rfl,?_,Bw.refl _ _,fun _ _ _ _=>rfl,aS.le.refl _,?_,by rw[hsv];exact hup,?_,?_,?_,fun d=>rfl,hglo⟩
  ·show (vs.toArray++Array.replicate (fn.ntmps - vs.toArray.size) undef).size=af.N;simp;omega
  ·intro t
   have:=(iG (dW _ _ hvs) 0 t).2 t (by omega)
   rw[eL];exact this
  ·intro i g z hi hq;obtain ⟨c1,hc1⟩:=jX.1 hi;obtain ⟨j,cs,rfl,hj,_⟩:=bV db hc1;exact .inr (.inl ⟨j,z,by rw[hj];rfl,hq⟩)
  ·intro p k g hp hg;obtain ⟨q,rfl,hq⟩:=fk db hp;rw[hsv,ld] at hg;exact .inr (.inr ⟨q,k,hq,hg⟩)
  ·intro i hi;cases i<;>simp[fG,Id.isUp] at hi ⊢
 refine l8 (F:=F) hd h6 (Q:=bS d af.rs O) (R:=fun _ _=>False) ?_ (fun _ _ _ _ _ _ _ _ hq=>hq.elim) hrel hw;intro e S0' gb0' σ0 a' w' hr0 hq0;have fin: ∀σ0,aN F S0' gb0' σ0 a' w'->(∃τ,oq σ0 τ/\kE d af.rs O τ)->a'.defers=[]/\ ∃v,(results fn a'.tmps).run P w'= .ok v w'/\(∃u,Ending.returned v= .returned u/\ ∃S'' gb'',eS d I O S gb (fun t=>vs.getD t undef) w S'' gb'' u w'):=by
  rintro σ0 hr0 ⟨τ,hfz,hok⟩;obtain ⟨S',gb',hr⟩:=hr0.frzs hfz;refine ⟨hr.defers,?_⟩;have hr':=hok.r;split at hr'
  ·rename_i vs' hv;obtain ⟨us,hrun,g2,g3⟩:=my (P:=P) hr h5 hv;obtain ⟨o1,o2,o3,o4⟩:=hr.out hok hv g2 g3 (by rw[<-g2.length];exact (fS (qs:=[]) hv).symm);refine ⟨_,hrun,_,rfl,S',dG d gb' O.bx,hr.bw,hr.ext,hr.le,?_,?_,o1,o2,o3,o4⟩
   ·intro i hi
    have:dG d gb' O.bx i=gb' (i.inn d):=eV (fun e=>by rw[hi] at e;cases e)
    rw[this,ai hi];exact hr.up i
   ·intro i hi hne;simp only[dG] at hne;split at hne
    ·exact absurd rfl hne
    ·rename_i hno;cases hs:(aE O.bx i).isSome with
     |true=>rfl
     |false=>exact absurd ⟨hi,hs⟩ hno
  ·cases hr'
 cases e
 ·exact fin _ hr0 hq0
 ·exact hq0.elim
 ·exact fin _ hr0 hq0
theorem dE {P:Program} {GL:List (Nat×List Value)} {dr:Array Oper->List (List Nat)->List bE->Bool} {f:Nat} {fn:Func} {af:rQ} (hf:P.funcs[f]?=some fn) (hm:qS P GL dr fn af=true) (hd:cJ P GL af.N dr) {d:Nat} {I:In} {O:bZ} (hl:I.vs.length=af.np)
  (hw:bD (bh P GL) (dK P GL) (ee d O) af.c (fun _ _=>False) (aw I)):dK P GL f d I O:=by
 rw[gD,vU] at hw;rw[vU];exact AT hf hm hd hl hw
theorem dO {P:Program} {GL:List (Nat×List Value)} {dr:Array Oper->List (List Nat)->List bE->Bool} {f:Nat} {fn:Func} {af:rQ} (hf:P.funcs[f]?=some fn) (hm:qS P GL dr fn af=true) (hd:cJ P GL af.N dr) {d:Nat} {I:In} {O:bZ} (hl:I.vs.length=af.np)
  (hw:bD (bh P GL) (dK P GL) (fun _ _=>False) af.c (bS d af.rs O) (aw I)):bh P GL f d I O:=by
 rw[gD,vU] at hw;rw[gD];exact AU hf hm hd hl hw
section
variable {S SP:Nat->Nat->In->bZ->Prop} {R:AV->St->Prop} {Q:AE->St->Prop} {σ:St} {K:St->Prop}
@[simp] theorem Rs {a}:bD S SP R (.c a) Q σ=em S a Q σ:=rfl
@[simp] theorem ON {l o l'}:bD S SP R (.rp l o l') Q σ=lQ S l (AS S SP R o (lQ S l' (Q .n))) σ:=rfl
@[simp] theorem OO {a b}:bD S SP R (.sq a b) Q σ=bD S SP R a (AE.sq (bD S SP R b Q) Q) σ:=rfl
@[simp] theorem OP {i a}:bD S SP R (.bl i a) Q σ=bD S SP R a (AE.bl i Q) σ:=rfl
@[simp] theorem OQ {us l k ll d f ys}:bD S SP R (.rq us l k ll d f ys) Q σ=(j5 S us l 0 [] (Q .n) σ\/Jn S SP R (ll.map (·.2)) d f ys σ):=rfl
@[simp] theorem OS {a}:bD S SP R (.sc a) Q σ=bD S SP R a Q σ:=rfl
@[simp] theorem OT {x a b}:bD S SP R (.cd x a b) Q σ=Mr (bD S SP R a Q) (bD S SP R b Q) σ (σ.v x):=rfl
def KN (S SP:Nat->Nat->In->bZ->Prop) (R:AV->St->Prop) (f d:Nat) (xs:List X) (K:St->Prop) (σ:St):Prop:=IY S f d xs K σ\/FG SP R f d xs σ
def Lw (S SP:Nat->Nat->In->bZ->Prop) (R:AV->St->Prop) (d:Nat) (xs:List X) (K:St->Prop) (σ:St):AV->Prop
 | .fn f caps=>if BM<=f then KN S SP R (f - BM) d (caps.map X.c++xs) K σ else KN S SP R f d (xs++caps.map X.c) K σ
 |_=>False
def Rt (R:AV->St->Prop) (σ:St):AV->Prop
 | .ifc T v=>v.ids=[]/\R (.ifc T v) σ
 |_=>False
@[simp] theorem Rv {d f xs}:AS S SP R (.ce d f xs) K σ=KN S SP R f d xs K σ:=rfl
@[simp] theorem Rw {d x xs}:AS S SP R (.cd d x xs) K σ=Lw S SP R d xs K σ (σ.v x):=by
 simp only[AS];unfold Lw KN;cases σ.v x<;>rfl
@[simp] theorem OU {d xs f caps}:Lw S SP R d xs K σ (.fn f caps)=(if BM<=f then KN S SP R (f - BM) d (caps.map X.c++xs) K σ else KN S SP R f d (xs++caps.map X.c) K σ):=rfl
@[simp] theorem Rx {d x}:AS S SP R (.pn d x) K σ=Rt R σ (σ.v x):=by
 simp only[AS];unfold Rt;cases σ.v x<;>rfl
@[simp] theorem OV {T v}:Rt R σ (.ifc T v)=(v.ids=[]/\R (.ifc T v) σ):=rfl
end
theorem a6 {P:Program} {GL:List (Nat×List Value)} {SP:Nat->Nat->In->bZ->Prop} {R:AV->St->Prop} {K:St->Prop} {σ:St} {f d:Nat} {xs:List X} (I:In) (O:bZ) (h:bh P GL f d I O) (hc:cZ d σ xs I O) (hk:K (bH d σ xs I O)):KN (bh P GL) SP R f d xs K σ:= .inl ⟨I,O,h,hc,hk⟩
theorem bC {P:Program} {GL:List (Nat×List Value)} {S:Nat->Nat->In->bZ->Prop} {R:AV->St->Prop} {K:St->Prop} {σ:St} {f d:Nat} {xs:List X} (I:In) (O:bZ) (h:dK P GL f d I O) (hc:cZ d σ xs I O) (hi:O.r.ids=[]) (hk:R O.r (lF d σ xs I O)):KN S (dK P GL) R f d xs K σ:= .inr ⟨I,O,h,hc,hi,hk⟩
attribute [simp] lF
end Go.Ai
