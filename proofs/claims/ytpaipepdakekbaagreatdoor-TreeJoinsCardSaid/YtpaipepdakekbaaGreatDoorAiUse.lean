/- AiUse: a part of the proof: the rules, or what functions compute. Conditions: as each theorem says. -/
import Derived.Test.YtpaipepdakekbaaGreatDoorAiFun
import Derived.Test.YtpaipepdakekbaaGreatDoorAiDraw2
set_option linter.unusedSimpArgs false
set_option linter.unusedVariables false
namespace Go.Ai

attribute [simp] ev lk lkB stB lkP dl dlr dlS St.v St.put St.puto bin cellEq cellsEq loadS loadN AV.cs shut shutL shutN shutNL rowsOf rowsN rowsI buildA bnd bid offH offO addH djB inF AE.sq AE.bl resA oneA postA initE AV.ids idsL Pl.ids wkL wkB nilAt bytesA rowBytes byteCells rmB dlB purE rnP Pl.lt Id.isUp Id.isIt mapOf AV.mk AV.mkk MK.av
def onS (K:St→Prop) (σ:St):Option (Nat×AV)→Prop
 |some (d,v)=>K (σ.put d v)
 |none=>False
def onB (A B:St→Prop) (σ:St):AV→Prop
 | .bool t=>if t=true then A σ else B σ
 |_=>False
def onC (S:Nat→Nat→In→Out→Prop) (f d:Nat) (K:St→Prop) (σ:St):Option (List AV)→Prop
 |some l=> ∃r,pureS S f l r∧K (σ.put d r)
 |none=>False
def onU (K:St→Prop) (d:Nat) (σ:St):Prop:=K (σ.put d (.tup []))
def onG (b:Bool) (A U:St→Prop) (σ:St) (v:AV):Prop:=match gdv v b with
 |some true=>A σ
 |some false=>U σ
 |none=>False
attribute [simp] wp1.eq_1 wp1.eq_2 wp1.eq_3 wp1.eq_4 wp1.eq_5 wp1.eq_6 wp1.eq_7 wp1.eq_8 wp1.eq_9 wp1.eq_10 wp1.eq_11 wp1.eq_12 wp1.eq_13 wp1.eq_14 wp1.eq_15 wp1.eq_16 wp1.eq_17 wp1.eq_18 wp1.eq_19 wp1.eq_20 wp1.eq_21 wp1.eq_22 wp1.eq_23 wp1.eq_24 wp1.eq_25 wp1.eq_26 wp1.eq_27
def onA (S:Nat→Nat→In→Out→Prop) (f d:Nat) (s:Option X) (ps:List X) (K:St→Prop) (σ:St):Prop:= ∃k out,caS S f σ s ps k out∧K (caSt d s (.sl out) k σ)
@[simp] theorem onU_eq {K:St→Prop} {d:Nat} {σ:St}:onU K d σ=K (σ.put d (.tup [])):=rfl
section
variable {S:Nat→Nat→In→Out→Prop} {Q:AE→St→Prop} {σ:St} {B:St→Prop}
@[simp] theorem wpA_sk:wpA S .sk Q σ=Q .n σ:=rfl
@[simp] theorem wpA_rg {l}:wpA S (.rg l) Q σ=wpL S l (Q .n) σ:=rfl
@[simp] theorem wpA_rd {us l}:wpA S (.rd us l) Q σ=wpLd S us l 0 [] (Q .n) σ:=rfl
@[simp] theorem wpA_sq {a b}:wpA S (.sq a b) Q σ=wpA S a (AE.sq (wpA S b Q) Q) σ:=rfl
@[simp] theorem wpA_bl {i a}:wpA S (.bl i a) Q σ=wpA S a (AE.bl i Q) σ:=rfl
@[simp] theorem wpA_ex {i}:wpA S (.ex i) Q σ=Q (.x i) σ:=rfl
@[simp] theorem wpA_rt:wpA S .rt Q σ=Q .r σ:=rfl
@[simp] theorem wpA_sc {a}:wpA S (.sc a) Q σ=wpA S a Q σ:=rfl
@[simp] theorem wpA_lb:wpA S .lb Q σ=Q .n σ:=rfl
@[simp] theorem wpA_no:wpA S .no Q σ=False:=rfl
@[simp] theorem wpA_cd {x a b}:wpA S (.cd x a b) Q σ=onB (wpA S a Q) (wpA S b Q) σ (σ.v x):=rfl
variable {K A:St→Prop}
@[simp] theorem onS_some {d v}:onS K σ (some (d,v))=K (σ.put d v):=rfl
@[simp] theorem onS_none:onS K σ none=False:=rfl
@[simp] theorem onB_true:onB A B σ (.bool true)=A σ:=rfl
@[simp] theorem onB_false:onB A B σ (.bool false)=B σ:=rfl
theorem onB_mk {t:Bool} (h1:t=true→A σ) (h2:t=false→B σ):onB A B σ (.bool t):=by cases t;exact h2 rfl;exact h1 rfl
@[simp] theorem wpL_nil:wpL S [] K σ=K σ:=rfl
@[simp] theorem wpL_cons {o r}:wpL S (o::r) K σ=wp1 S o (wpL S r K) σ:=rfl
@[simp] theorem wpLd_nil {j h}:wpLd S [] [] j h K σ=K σ:=rfl
@[simp] theorem wpLd_cons {u us o r j h}:wpLd S (u::us) (o::r) j h K σ=(offO h u (bid σ o)∧wp1 S o (kpK h u (wpLd S us r (j+1) (addH h j (bid σ o)) K)) σ):=rfl
@[simp] theorem kpK_nil {u}:kpK [] u K=K:=rfl
@[simp] theorem kpK_one {i b h u}:kpK ((i,.one b)::h) u K=kpK h u K:=rfl
@[simp] theorem kpK_fr {i l h u}:kpK ((i,.fr l)::h) u K=kpK h u K:=rfl
@[simp] theorem kpK_cel {i b off v h u}:kpK ((i,.cel b off v)::h) u K σ=((i∈u→loadS σ.bx (.ptr b off)=some v)∧kpK h u K σ):=rfl
@[simp] theorem wp1_cl {d f xs}:wp1 S (.cl d f xs) K σ=onC S f d K σ (shutL (xs.map σ.v)):=rfl
@[simp] theorem wp1_ca {d f s ps}:wp1 S (.ca d f s ps) K σ=onA S f d s ps K σ:=rfl
attribute [simp] wp1.eq_32
def onR (S:Nat→Nat→In→Out→Prop) (f d:Nat) (K:St→Prop) (σ:St):List AV→Prop
 | .ptr b o::r=>match lkB σ.bx b with
  |some cs=> ∃v,(∀e,b.isNw e=false→S f e ⟨.ptr b o::r,[(b,cs)],[]⟩ ⟨v,[(b,cs)],[]⟩)∧K ⟨(d,v)::σ.e,σ.bx,dlS (dlB σ.pm b) d⟩
  |none=>False
 |_=>False
@[simp] theorem wp1_cr {d f xs}:wp1 S (.cr d f xs) K σ=onR S f d K σ (xs.map σ.v):=by rw [wp1];rfl
theorem onR_mk {b:Id} {o:Nat} {r cs:List AV} {f d:Nat} (v:AV) (hb:lkB σ.bx b=some cs) (h: ∀e,b.isNw e=false→S f e ⟨.ptr b o::r,[(b,cs)],[]⟩ ⟨v,[(b,cs)],[]⟩) (hk:K ⟨(d,v)::σ.e,σ.bx,dlS (dlB σ.pm b) d⟩):onR S f d K σ (.ptr b o::r):=by
 simp only [onR,hb];exact ⟨v,h,hk⟩
def onQ (S:Nat→Nat→In→Out→Prop) (f d:Nat) (xs:List X) (fr:List Nat) (K:St→Prop) (σ:St):Prop:= ∃I O,S f d I O∧CallOk d σ xs I O∧(CqOk fr I O∧fr.contains d=false)∧K (callSt d σ xs I O)
@[simp] theorem wp1_cq {d f xs fr}:wp1 S (.cq d f xs fr) K σ=onQ S f d xs fr K σ:=by rw [wp1];rfl
@[simp] theorem wp1_gd {s b d o}:wp1 S (.gd s b d o) K σ=onG b (wp1 S o K) (onU K d) σ (lk σ.e s):=by
 rw [wp1];rfl
@[simp] theorem onG_bool {b t:Bool} {A U:St→Prop}:onG b A U σ (.bool t)=onB (if true=b then A else U) (if false=b then A else U) σ (.bool t):=by
 cases t<;>cases b<;>rfl
@[simp] theorem onG_tup {b:Bool} {A U:St→Prop}:onG b A U σ (.tup [])=U σ:=rfl
@[simp] theorem wp1_mv {d x}:wp1 S (.mv d x) K σ=onS K σ (ev σ (.mv d x)):=rfl
@[simp] theorem wp1_pk {d c a b}:wp1 S (.pk d c a b) K σ=onS K σ (ev σ (.pk d c a b)):=rfl
@[simp] theorem wp1_bi {d op x y}:wp1 S (.bi d op x y) K σ=onS K σ (ev σ (.bi d op x y)):=rfl
@[simp] theorem wp1_bb {d n x y}:wp1 S (.bb d n x y) K σ=onS K σ (ev σ (.bb d n x y)):=rfl
@[simp] theorem wp1_ea {d n ks x y}:wp1 S (.ea d n ks x y) K σ=onS K σ (ev σ (.ea d n ks x y)):=rfl
@[simp] theorem wp1_bq {d x}:wp1 S (.bq d x) K σ=onS K σ (ev σ (.bq d x)):=rfl
@[simp] theorem wp1_pn {d n x}:wp1 S (.pn d n x) K σ=onS K σ (ev σ (.pn d n x)):=rfl
@[simp] theorem wp1_un {d op x}:wp1 S (.un d op x) K σ=onS K σ (ev σ (.un d op x)):=rfl
@[simp] theorem wp1_cv {d k x}:wp1 S (.cv d k x) K σ=onS K σ (ev σ (.cv d k x)):=rfl
@[simp] theorem wp1_lns {d x}:wp1 S (.lns d x) K σ=onS K σ (ev σ (.lns d x)):=rfl
@[simp] theorem wp1_ln {d x}:wp1 S (.ln d x) K σ=onS K σ (ev σ (.ln d x)):=rfl
@[simp] theorem wp1_fa {d x o}:wp1 S (.fa d x o) K σ=onS K σ (ev σ (.fa d x o)):=rfl
@[simp] theorem wp1_ia {d s x i}:wp1 S (.ia d s x i) K σ=onS K σ (ev σ (.ia d s x i)):=rfl
@[simp] theorem wp1_iaa {d s n x i}:wp1 S (.iaa d s n x i) K σ=onS K σ (ev σ (.iaa d s n x i)):=rfl
@[simp] theorem wp1_lds {d x}:wp1 S (.lds d x) K σ=onS K σ (ev σ (.lds d x)):=rfl
@[simp] theorem wp1_ldf {d x}:wp1 S (.ldf d x) K σ=onS K σ (ev σ (.ldf d x)):=rfl
@[simp] theorem wp1_lda {d n x}:wp1 S (.lda d n x) K σ=onS K σ (ev σ (.lda d n x)):=rfl
@[simp] theorem wp1_bd {d z ps}:wp1 S (.bd d z ps) K σ=onS K σ (ev σ (.bd d z ps)):=rfl
@[simp] theorem wp1_fls {d o x}:wp1 S (.fls d o x) K σ=onS K σ (ev σ (.fls d o x)):=rfl
@[simp] theorem wp1_fla {d o n x}:wp1 S (.fla d o n x) K σ=onS K σ (ev σ (.fla d o n x)):=rfl
@[simp] theorem wp1_ixs {d x i}:wp1 S (.ixs d x i) K σ=onS K σ (ev σ (.ixs d x i)):=rfl
@[simp] theorem wp1_exq {d x i}:wp1 S (.exq d x i) K σ=onS K σ (ev σ (.exq d x i)):=rfl
@[simp] theorem wp1_mf {d f xs}:wp1 S (.mf d f xs) K σ=onS K σ (ev σ (.mf d f xs)):=rfl
@[simp] theorem wp1_b2s {d x}:wp1 S (.b2s d x) K σ=onS K σ (ev σ (.b2s d x)):=rfl
@[simp] theorem wp1_i2s {d x}:wp1 S (.i2s d x) K σ=onS K σ (ev σ (.i2s d x)):=rfl
@[simp] theorem wp1_inl {d n x}:wp1 S (.inl d n x) K σ=onS K σ (ev σ (.inl d n x)):=rfl
@[simp] theorem wp1_ixa {d s n g x i}:wp1 S (.ixa d s n g x i) K σ=onS K σ (ev σ (.ixa d s n g x i)):=rfl
@[simp] theorem wp1_mpl {d x}:wp1 S (.mpl d x) K σ=onS K σ (ev σ (.mpl d x)):=rfl
@[simp] theorem wp1_mlk {d q z m k ok}:wp1 S (.mlk d q z m k ok) K σ=onS K σ (ev σ (.mlk d q z m k ok)):=rfl
@[simp] theorem wp1_mn {d x y}:wp1 S (.mn d x y) K σ=onS K σ (ev σ (.mn d x y)):=rfl
@[simp] theorem wp1_mx {d x y}:wp1 S (.mx d x y) K σ=onS K σ (ev σ (.mx d x y)):=rfl
@[simp] theorem wp1_mi {d T x}:wp1 S (.mi d T x) K σ=onS K σ (ev σ (.mi d T x)):=rfl
@[simp] theorem wp1_ta {d T z x ok}:wp1 S (.ta d T z x ok) K σ=onS K σ (ev σ (.ta d T z x ok)):=rfl
@[simp] theorem wp1_nc {d x}:wp1 S (.nc d x) K σ=onS K σ (ev σ (.nc d x)):=rfl
end
@[simp] theorem wk_refl (v:AV):wk v v:= .inl rfl
@[simp] theorem wk_nil:wk .nils (.sl []):= .inr ⟨rfl,rfl⟩
@[simp] theorem fillA_nil (z:List AV) (off:Nat) (vs:List AV):fillA z off vs=z.take off++vs++z.drop (off+vs.length):=rfl

@[simp] theorem wk_sl {a u}:wk (.sl a) u=(AV.sl a=u):=by simp [wk]
@[simp] theorem wk_int {k a u}:wk (.int k a) u=(AV.int k a=u):=by simp [wk]
@[simp] theorem wk_bool {a u}:wk (.bool a) u=(AV.bool a=u):=by simp [wk]
@[simp] theorem wk_str {a u}:wk (.str a) u=(AV.str a=u):=by simp [wk]
@[simp] theorem wk_agg {a u}:wk (.agg a) u=(AV.agg a=u):=by simp [wk]
@[simp] theorem wk_pin {a u}:wk (.pin a) u=(AV.pin a=u):=by simp [wk]
@[simp] theorem wk_ptr {a b u}:wk (.ptr a b) u=(AV.ptr a b=u):=by simp [wk]
@[simp] theorem wk_nilsl {a}:wk .nils (.sl a)=(a=[]):=by simp [wk]
theorem weak_mk {σ τ:St} (e: ∀p∈τ.e,wk (lk σ.e p.1) p.2) (b: ∀p∈τ.bx,wkB σ.bx p.1 p.2) (p: ∀p∈τ.pm,lkP σ.pm p.1=some p.2∨nilAt σ p.1)
  (ei: ∀p∈τ.e,∀d∈p.2.ids,(lkB τ.bx d).isSome∨d.isUp=true) (bi: ∀p∈τ.bx,∀d∈idsL p.2,(lkB τ.bx d).isSome∨d.isUp=true) (pi: ∀p∈τ.pm,∀d∈p.1.ids,(lkB τ.bx d).isSome):Weak σ τ:=⟨e,b,p,ei,bi,pi⟩

def lpQ {α:Type} (st:α→St) (I:α→Prop) (μ:α→Nat) (x:α) (σ:St):Prop:= ∃y,I y∧μ y<μ x∧WeakR σ (st y)
theorem lpQ_mk {α:Type} {st:α→St} {I:α→Prop} {μ:α→Nat} {x:α} {σ:St} (y:α) (h1:I y) (h2:μ y<μ x) (h3:Weak σ (st y)):lpQ st I μ x σ:=⟨y,h1,h2,.inl h3⟩
theorem wrap_i64 {n:Int} (h1: -9223372036854775808≤n) (h2:n<9223372036854775808):IntKind.i64.wrap n=n:=by
 have e1:(2:Int)^64=18446744073709551616:=by decide
 have e2:(2:Int)^(64 - 1)=9223372036854775808:=by decide
 have:IntKind.i64.wrap n=if (true&&decide (n%2^64≥2^(64 - 1)))=true then n%2^64 - 2^64 else n%2^64:=rfl
 rw [this]
 simp only [e1,e2,Bool.true_and,decide_eq_true_eq]
 split<;>omega
theorem wrap_u64 {n:Int} (h1:0≤n) (h2:n<18446744073709551616):IntKind.u64.wrap n=n:=by
 have e1:(2:Int)^64=18446744073709551616:=by decide
 have e2:(2:Int)^(64 - 1)=9223372036854775808:=by decide
 have:IntKind.u64.wrap n=if (false&&decide (n%2^64≥2^(64 - 1)))=true then n%2^64 - 2^64 else n%2^64:=rfl
 rw [this]
 simp only [e1,e2,Bool.false_and]
 simp;omega
theorem wrap_u32 {n:Int} (h1:0≤n) (h2:n<4294967296):IntKind.u32.wrap n=n:=by
 have e1:(2:Int)^32=4294967296:=by decide
 have:IntKind.u32.wrap n=if (false&&decide (n%2^32≥2^(32 - 1)))=true then n%2^32 - 2^32 else n%2^32:=rfl
 rw [this]
 simp only [e1,Bool.false_and]
 simp;omega
theorem wrap_u32m {n:Int}:IntKind.u32.wrap n=n%4294967296:=by
 have e1:(2:Int)^32=4294967296:=by decide
 have:IntKind.u32.wrap n=if (false&&decide (n%2^32≥2^(32 - 1)))=true then n%2^32 - 2^32 else n%2^32:=rfl
 rw [this]
 simp only [e1,Bool.false_and]
 simp
theorem wrap_u8 {n:Int} (h1:0≤n) (h2:n<256):IntKind.u8.wrap n=n:=by
 have e1:(2:Int)^8=256:=by decide
 have:IntKind.u8.wrap n=if (false&&decide (n%2^8≥2^(8 - 1)))=true then n%2^8 - 2^8 else n%2^8:=rfl
 rw [this]
 simp only [e1,Bool.false_and]
 simp;omega
theorem wrap_u64m {n:Int}:IntKind.u64.wrap n=n%18446744073709551616:=by
 have e1:(2:Int)^64=18446744073709551616:=by decide
 have:IntKind.u64.wrap n=if (false&&decide (n%2^64≥2^(64 - 1)))=true then n%2^64 - 2^64 else n%2^64:=rfl
 rw [this]
 simp only [e1,Bool.false_and]
 simp
theorem wp1_mono {S:Nat→Nat→In→Out→Prop} {K K':St→Prop} (hk: ∀σ,K σ→K' σ): ∀ {o:AOp} {σ:St},wp1 S o K σ→wp1 S o K' σ:=by
 intro o
 induction o with
 |gd s b d o ih=>
  intro σ h
  simp only [wp1] at h ⊢
  split at h
  ·exact ih h
  ·exact hk _ h
  ·cases h
 |ce d f xs=>intro σ h;obtain ⟨I,O,h1,h2,h3⟩:=h;exact ⟨I,O,h1,h2,hk _ h3⟩
 |cq d f xs fr=>intro σ h;obtain ⟨I,O,h1,h2,h3,h4⟩:=h;exact ⟨I,O,h1,h2,h3,hk _ h4⟩
 |cd d x xs=>
  intro σ h
  simp only [wp1] at h ⊢
  split at h
  ·obtain ⟨I,O,h1,h2,h3⟩:=h;exact ⟨I,O,h1,h2,hk _ h3⟩
  ·cases h
 |nx d x=>
  intro σ h
  simp only [wp1] at h ⊢
  split at h
  ·split at h
   ·split at h
    ·rename_i e;rw [if_pos e];exact hk _ h
    ·rename_i e;rw [if_neg e];exact hk _ h
   ·cases h
  ·cases h
 |_=>
  intro σ h
  simp only [wp1] at h ⊢
  repeat' (first|(split at h)|contradiction)
  all_goals first
   |exact hk _ h
   |(obtain ⟨g1,g2⟩:=h;exact ⟨g1,hk _ g2⟩)
   |(obtain ⟨g1,g2,g3⟩:=h;exact ⟨g1,g2,hk _ g3⟩)
   |(obtain ⟨g1,g2,g3,g4⟩:=h;exact ⟨g1,g2,g3,hk _ g4⟩)
   |(obtain ⟨g1,g2,g3,g4,g5⟩:=h;exact ⟨g1,g2,g3,g4,hk _ g5⟩)
   |(obtain ⟨g1,g2,g3,g4,g5,g6⟩:=h;exact ⟨g1,g2,g3,g4,g5,hk _ g6⟩)
   |(obtain ⟨g1,g2,g3,g4,g5,g6,g7,g8⟩:=h;exact ⟨g1,g2,g3,g4,g5,g6,g7,hk _ g8⟩)
   |(obtain ⟨g1,g2,g3,g4,g5,g6,g7,g8,g9,g10,g11⟩:=h;exact ⟨g1,g2,g3,g4,g5,g6,g7,g8,g9,g10,hk _ g11⟩)
   |(obtain ⟨g1,g2,g3,g4,g5,g6,g7,g8,g9,g10,g11,g12,g13,g14⟩:=h;exact ⟨g1,g2,g3,g4,g5,g6,g7,g8,g9,g10,g11,g12,g13,hk _ g14⟩)
theorem wp_lp {S:Nat→Nat→In→Out→Prop} {α:Type} {c:AC} {Q:AE→St→Prop} (st:α→St) (I:α→Prop) (μ:α→Nat)
  (step: ∀x,I x→wpA S c (AE.sq (lpQ st I μ x) Q) (st x)) {σ:St} (x:α) (hx:I x) (hw:Weak σ (st x)):wpA S (.lp c) Q σ:=by
 have mono: ∀ {c:AC} {Q Q':AE→St→Prop} {σ:St},(∀e σ,Q e σ→Q' e σ)→wpA S c Q σ→wpA S c Q' σ:=by
  intro c
  have m1: ∀ {o:AOp} {K K':St→Prop} {σ:St},(∀σ,K σ→K' σ)→wp1 S o K σ→wp1 S o K' σ:=fun hk h=>wp1_mono hk h
  have mL: ∀ {l:List AOp} {K K':St→Prop} {σ:St},(∀σ,K σ→K' σ)→wpL S l K σ→wpL S l K' σ:=by
   intro l
   induction l with
   |nil=>intro K K' σ hk h;exact hk _ h
   |cons o r ih=>intro K K' σ hk h;exact m1 (fun σ h=>ih hk h) h
  have mD: ∀ {us:List (List Nat)} {l:List AOp} {j:Nat} {h:List (Nat×Bx)} {K K':St→Prop} {σ:St},(∀σ,K σ→K' σ)→wpLd S us l j h K σ→wpLd S us l j h K' σ:=by
   intro us
   induction us with
   |nil=>intro l j h K K' σ hk hw;cases l with
    |nil=>exact hk _ hw
    |cons=>exact hw.elim
   |cons u us ih=>intro l j h K K' σ hk hw;cases l with
    |nil=>exact hw.elim
    |cons o r=>exact ⟨hw.1,m1 (fun σ h=>kpK_iff.2 ⟨(kpK_iff.1 h).1,ih hk (kpK_iff.1 h).2⟩) hw.2⟩
  have sqm: ∀ {B B':St→Prop} {Q Q':AE→St→Prop},(∀σ,B σ→B' σ)→(∀e σ,Q e σ→Q' e σ)→ ∀e σ,AE.sq B Q e σ→AE.sq B' Q' e σ:=by
   intro B B' Q Q' hb hq e σ h
   cases e
   ·exact hb _ h
   ·exact hq _ _ h
   ·exact hq _ _ h
  induction c with
  |sk=>intro Q Q' σ hq h;exact hq _ _ h
  |rg l=>intro Q Q' σ hq h;exact mL (fun σ h=>hq _ _ h) h
  |rd us l=>intro Q Q' σ hq h;exact mD (fun σ h=>hq _ _ h) h
  |sq a b iha ihb=>intro Q Q' σ hq h;exact iha (sqm (fun σ h=>ihb hq h) hq) h
  |cd x a b iha ihb=>
   intro Q Q' σ hq h
   unfold wpA at h ⊢
   split at h
   ·rename_i t ht
    split at h
    ·rename_i e;rw [if_pos e];exact iha hq h
    ·rename_i e;rw [if_neg e];exact ihb hq h
   ·cases h
  |bl i a ih=>
   intro Q Q' σ hq h
   refine ih (fun e σ h=>?_) h
   cases e
   ·exact hq _ _ h
   ·rename_i j
    unfold AE.bl at h ⊢
    by_cases e:j=i
    ·simp only [if_pos e] at h ⊢;exact hq _ _ h
    ·simp only [if_neg e] at h ⊢;exact hq _ _ h
   ·exact hq _ _ h
  |lp a ih=>
   intro Q Q' σ hq h
   obtain ⟨n,hn⟩:=h
   refine ⟨n,?_⟩
   induction n generalizing σ with
   |zero=>exact hn
   |succ n ihn=>
    obtain ⟨τ,hτ,hb⟩:=hn
    exact ⟨τ,hτ,ih (sqm (fun σ h=>ihn h) hq) hb⟩
  |ex i=>intro Q Q' σ hq h;exact hq _ _ h
  |rt=>intro Q Q' σ hq h;exact hq _ _ h
  |sc a ih=>intro Q Q' σ hq h;exact ih hq h
  |lb=>intro Q Q' σ hq h;exact hq _ _ h
  |no=>intro Q Q' σ hq h;exact h
 have key: ∀n x,μ x<n→I x→ ∀σ,WeakR σ (st x)→itA (wpA S c) Q n σ:=by
  intro n
  induction n with
  |zero=>intro x h;omega
  |succ n ih=>
   intro x hn hx σ hw
   refine ⟨st x,hw,mono ?_ (step x hx)⟩
   intro e σ' h
   cases e
   ·obtain ⟨y,hy,hlt,hwy⟩:=h
    exact ih y (by omega) hy σ' hwy
   ·exact h
   ·exact h
 exact ⟨μ x+1,key _ x (by omega) hx σ (.inl hw)⟩

theorem wp_lpk {S:Nat→Nat→In→Out→Prop} {α:Type} {c:AC} {Q:AE→St→Prop} (st:α→St) (I:α→Prop) (μ:α→Nat)
  (step: ∀(K:St→Prop) (x:α),(∀(y:α) (σ':St),I y→μ y<μ x→Weak σ' (st y)→K σ')→I x→wpA S c (AE.sq K Q) (st x)) {σ:St} (x:α) (hx:I x) (hw:Weak σ (st x)):wpA S (.lp c) Q σ:=
 wp_lp st I μ (fun x hx=>step (lpQ st I μ x) x (fun y σ' h1 h2 h3=>lpQ_mk y h1 h2 h3) hx) x hx hw
def AC.tl:Nat→AC→AC
 |0,c=>c
 |n+1,.sq _ b=>b.tl n
 |_,c=>c
def AC.cutAt:Nat→AC→AC→AC
 |0,T,_=>T
 |n+1,T,.sq a b=> .sq a (AC.cutAt n T b)
 |_,_,c=>c

@[irreducible] def SpH (P:Program) (GL:List (Nat×List Value)) (f d:Nat) (I:In) (O:Out):Prop:=Spec P GL f d I O
theorem sph_eq (P:Program) (GL:List (Nat×List Value)):SpH P GL=Spec P GL:=by funext f d I O;unfold SpH;rfl
@[irreducible] def Sp (P:Program) (GL:List (Nat×List Value)) (f:Nat) (l:List AV) (r:AV):Prop:=pureS (SpH P GL) f l r
theorem sp_eq (P:Program) (GL:List (Nat×List Value)) {f:Nat} {l:List AV} {r:AV}:Sp P GL f l r↔pureS (Spec P GL) f l r:=by unfold Sp;rw [sph_eq]
theorem onC_mk {P:Program} {GL:List (Nat×List Value)} {K:St→Prop} {σ:St} {f d:Nat} {l:List AV} (r:AV) (h:Sp P GL f l r) (hk:K (σ.put d r)):onC (SpH P GL) f d K σ (some l):=by
 unfold Sp at h;exact ⟨r,h,hk⟩
theorem fun_sp {P:Program} {GL:List (Nat×List Value)} {dr:Array Oper→List (List Nat)→List AOp→Bool} {f:Nat} {fn:Func} {af:AF} (hf:P.funcs[f]?=some fn) (hm:mF P GL dr fn af=true) (hd:DrawsOk P GL af.N dr) {l:List AV} {r:AV} (hl:l.length=af.np) (hi:idsL l=[])
  (hw:wpA (SpH P GL) af.c (postA af.rs r) ⟨initE 0 l,[],[]⟩):Sp P GL f l r:=by
 rw [sph_eq] at hw;exact (sp_eq P GL).2 (fun_sound hf hm hd hl hi hw)
end Go.Ai
