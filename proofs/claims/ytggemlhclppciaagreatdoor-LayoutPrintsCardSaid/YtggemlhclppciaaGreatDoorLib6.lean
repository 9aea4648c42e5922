/- Lib6: a part of the proof. Conditions: as each theorem says. -/
import Derived.Test.YtggemlhclppciaaGreatDoorLib5
set_option linter.unusedSimpArgs false
set_option linter.unusedVariables false
namespace Go.Ai
open Go.RowKit
variable {P:Program} {F:Fr} {S:aM} {gb:Gb} {σ:St} {a:Act} {w:World} {ops:Array Oper}
inductive Bv (P:Program) (w:World) (e:TypeId) (z:Value) (sz:Nat) (us:List Value) (m:Nat):Value→Value→World→Prop
 |grow {base:Option Addr} {n cap:Nat} {olds:List Value}:cap<n+m→olds.length=n*sz→(Builtin.firstCells sz n (.slice base n cap)).run P w.drew= .ok olds.toArray w.drew→
  Bv P w e z sz us m (.slice base n cap) (.slice (some ⟨w.heap.size,0,none⟩) (n+m) (grownCap w (n+m) cap e)) (w.drew.alloc (.cells ((olds++us).toArray++Builtin.zeroCells z.cells (grownCap w (n+m) cap e - (n+m))) e))
 |room {g n cap:Nat} {cur:Array Value} {T:TypeId}:n+m≤cap→w.heap[g]?=some (.cells cur T (0,0))→n*sz+us.length≤cur.size→
  Bv P w e z sz us m (.slice (some ⟨g,0,none⟩) n cap) (.slice (some ⟨g,0,none⟩) (n+m) cap) (w.setRow g (cur.toList.take (n*sz)++us++cur.toList.drop (n*sz+us.length)).toArray)
theorem Bv.run {e:TypeId} {i:TypeInfo} {z:Value} {us:List Value} {m:Nat} {sv u yv:Value} {w':World} (h:Bv P w e z i.size us m sv u w') {t ty:TypeId} (ht:P.underlying t=some (.slice e)) (hi:P.info? e=some i) (hz:i.zero=some z)
  (h3: ∀v∈us,v.oneCell'=true) (hy:(Builtin.lenOf yv).run P w= .ok m w) (hf:(Builtin.firstCells i.size m yv).run P w= .ok us.toArray w) (hf':(Builtin.firstCells i.size m yv).run P w.drew= .ok us.toArray w.drew)
  (hlim: ∀b n c,sv= .slice b n c→(n+m)*i.bytes≤l8∧n+m≤9223372036854775807):(Builtin.append_ #[t,t] ty #[sv,yv]).run P w= .ok u w':=by
 cases h with
 | @grow base n cap olds hcap hl hfo=>
  obtain ⟨l1,l2⟩:=hlim _ _ _ rfl;have hfit:=growslice_fits (need:=n+m) (old:=cap) (bytes:=i.bytes) hcap (by unfold l8 at l1;exact l1);exact ig (P:=P) (w:=w) (ty:=ty) ht (.inl ht) hi hz hy hf' hfo hcap hfit l2
 | @room g n cap cur T hr hg hs=>
  have hst:=run_storeCells_at P g (n*i.size) T us 0 cur w hg (by simpa using hs) h3;simp only [rI] at hst;exact ic (P:=P) (w:=w) (ty:=ty) ht (.inl ht) hi (base:=some ⟨g,0,none⟩) (n:=n) (cap:=cap) (us:=us) hy hf hr (fun b hb=>by
   cases hb;rw [Addr.add_lit,mM];exact hst) (fun hb=>by cases hb)
theorem wF (w:World) (A B:Array Value) (e:TypeId):(w.alloc (.cells A e)).setRow w.heap.size B=w.alloc (.cells B e):=by
 unfold World.setRow World.alloc;simp only;congr 1
 apply Array.ext_getElem?;intro k;simp only [Array.getElem?_modify,Array.getElem?_push];by_cases hk:k=w.heap.size
 ·subst hk;simp
 ·simp [hk,Ne.symm hk]
theorem Du {α:Type} (A B C D:List α) (n:Nat) (hn:A.length=n) (h:B.length=C.length):(A++B++D).take n++C++(A++B++D).drop (n+C.length)=A++C++D:=by
 subst hn;have h1:(A++B++D).take A.length=A:=by rw [jq,List.take_left]
 have h2:(A++B++D).drop (A.length+C.length)=D:=by
  rw [←h,show A.length+B.length=(A++B).length by simp,List.drop_left]
 rw [h1,h2]
theorem Bv.split {e:TypeId} {z:Value} {sz:Nat} {us zs:List Value} {m:Nat} {sv u:Value} {w2:World} (h:Bv P w e z sz us m sv u w2) (hl:zs.length=us.length):
  ∃g n cap c1 T w1,(∃b c,sv= .slice b n c)∧u= .slice (some ⟨g,0,none⟩) (n+m) cap∧Bv P w e z sz zs m sv u w1∧w1.heap[g]?=some (.cells c1 T (0,0))∧n*sz+us.length≤c1.size∧
   w2=w1.setRow g (c1.toList.take (n*sz)++us++c1.toList.drop (n*sz+us.length)).toArray∧w1.heap.size=w2.heap.size:=by
 cases h with
 | @grow base n cap olds hcap ho hfo=>
  refine ⟨w.heap.size,n,_,(olds++zs).toArray++Builtin.zeroCells z.cells (grownCap w (n+m) cap e - (n+m)),e,_,⟨_,_,rfl⟩,rfl,.grow (us:=zs) hcap ho hfo,?_,by simp [ho,hl],?_,(by show (w.drew.heap.push _).size=(w.drew.heap.push _).size;rw [Array.size_push,Array.size_push])⟩
  ·show (w.drew.heap.push _)[w.drew.heap.size]?=_;rw [Array.getElem?_push_size]
  have:=wF w.drew ((olds++zs).toArray++Builtin.zeroCells z.cells (grownCap w (n+m) cap e - (n+m))) (((olds++zs).toArray++Builtin.zeroCells z.cells (grownCap w (n+m) cap e - (n+m))).toList.take (n*sz)++us++((olds++zs).toArray++Builtin.zeroCells z.cells (grownCap w (n+m) cap e - (n+m))).toList.drop (n*sz+us.length)).toArray e
  rw [show w.drew.heap.size=w.heap.size from rfl] at this;rw [this];congr 2
  apply Array.ext';simp only [Array.toList_append,List.toList_toArray];exact (Du olds zs us _ (n*sz) ho hl).symm
 | @room g n cap cur T hr hg hs=>
  refine ⟨g,n,cap,_,T,_,⟨_,_,rfl⟩,rfl,.room (us:=zs) hr hg (by omega),setRow_heap w g cur _ T _ hg,by simp;omega,?_,by simp⟩;rw [setRow_setRow];congr 1
  apply Array.ext';simp only [List.toList_toArray];have h1:(cur.toList.take (n*sz)).length=n*sz:=by simp;omega
  rw [←hl]
  have:=(Du (cur.toList.take (n*sz)) zs us (cur.toList.drop (n*sz+zs.length)) (n*sz) h1 hl).symm
  rw [←hl] at this;exact this

inductive P8 (P:Program) (ops:Array Oper):List Nat→Act→Act→Prop
 |nil {a:Act}:P8 P ops [] a a
 |cons {i:Nat} {is:List Nat} {o:Oper} {v:Value} {a a':Act}:ops[i]?=some o→Yields P ops o v a→P8 P ops is (a.put o.dst v) a'→P8 P ops (i::is) a a'
def y7 (ops:Array Oper) (B:Array Bool→Bool):List Nat→Array Bool→Bool
 |[],l=>B l
 |i::r,l=>Region.free .any ops l i&&(Region.ready .any ops l).contains i&&y7 ops B r (l.setIfInBounds i true)
theorem Pg {Q:Exit→Act→World→Prop} (hs:Region.noSelect ops=true) (hQ: ∀c a w,¬Q (.panic c) a w) {B:Array Bool→Bool} {fuel:Nat} {w:World}: ∀ {is:List Nat} {listed:Array Bool} {a a':Act},y7 ops B is listed=true→P8 P ops is a a'→
  (∀l',B l'=true→wpAny P .any ops Q fuel l' a' w)→wpAny P .any ops Q (fuel+is.length) listed a w
 |[],listed,a,a',hb,hc,h=>by
  cases hc;exact h _ hb
 |i::is,listed,a,a',hb,hc,h=>by
  simp only [y7,aE] at hb;cases hc with
  |cons ho hy hc=>
   exact wpAny_take ho hs hb.1.1 hb.1.2 (fun c a w q=>absurd q (hQ _ _ _)) hy (Pg hs hQ hb.2 hc h)
def SG (ops:Array Oper) (i j:Nat) (l:Array Bool):Bool:=
 Region.ready .any ops l==[i,j]&&Region.ready .any ops (l.setIfInBounds i true)==[j]&&Region.ready .any ops (l.setIfInBounds j true)==[i]&&Region.ready .any ops ((l.setIfInBounds i true).setIfInBounds j true)==[]&&Region.ready .any ops ((l.setIfInBounds j true).setIfInBounds i true)==[]
def Ph (ops:Array Oper) (j:Nat) (l:Array Bool):Bool:=Region.ready .any ops l==[j]&&Region.ready .any ops (l.setIfInBounds j true)==[]
def wG (m n:Nat):Array Bool:=(List.replicate m true++List.replicate (n - m) false).toArray
def SI (ops:Array Oper) (m q:Nat):Bool:=
 Region.noSelect ops&&ops.size==m+(4+q)&&Region.ready .any ops (wG m ops.size)==[m]&&y7 ops (SG ops (m+2) (m+3+q)) ((m+1)::List.range' (m+3) q) ((wG m ops.size).setIfInBounds m true)
def SJ (ops:Array Oper) (m q:Nat):Bool:=
 Region.noSelect ops&&ops.size==m+(2+q)&&Region.ready .any ops (wG m ops.size)==[m]&&y7 ops (Ph ops (m+1+q)) (List.range' (m+1) q) ((wG m ops.size).setIfInBounds m true)
structure V5 (P:Program) (F:Fr) (ops:Array Oper) (A E T H:Oper) (Ads:List Oper) (p:PA):Prop where
 m:V3 P F.GL F.N A E T p=true
 ads:lM P F.GL F.N ops Ads p.ad=true
 h:H.guard=none∧dM P F.GL F.N H (.so p.ta p.d)=true
def U0 (ops:Array Oper) (us:List (List Nat)) (l:List bz) (two:Bool):Bool:=
 let A:=J8 ops.toList []
 G1 ops.toList A&&us.length==l.length&&l.all JH&&((List.range l.length).all fun j=>(List.range j).all fun i=>mS us l A i j)&&((List.range ops.size).all fun i=>Nat.blt i l.length||(List.range l.length).all fun k=>(A.getD i 0).testBit k)&&
  (if two then SJ ops l.length (ops.size - l.length - 2) else SI ops l.length (ops.size - l.length - 4))
def nT (ops:Array Oper) (us:List (List Nat)) (l:List bz):Bool:=match l.reverse with
 | .gd _ _ _ (.gd _ _ _ _):: .gd _ _ _ (.gd _ _ _ _)::r=>U0 ops us r.reverse true
 | .gd _ _ _ (.gd _ _ _ _)::r=>U0 ops us r.reverse false
 |_=>J9 ops us l
theorem MJ: ∀ {ol:List Oper} {al:List bz},lM P F.GL F.N ops ol al=true→ ∀(i:Nat) (o:Oper),ol[i]?=some o→ ∃ao,al[i]?=some ao∧mt P F.GL F.N ops o ao=true:=by
 intro ol;induction ol with
 |nil=>intro al _ i o h;simp at h
 |cons x r ih=>
  intro al hm i o h;cases al with
  |nil=>simp [lM] at hm
  |cons y s=>
   simp only [lM,aE] at hm;cases i with
   |zero=>simp at h;subst h;exact ⟨y,by simp,hm.1⟩
   |succ i=>simp at h ⊢;exact ih hm.2 i o h
theorem Kc: ∀ {ol:List Oper} {al:List bz},lM P F.GL F.N ops ol al=true→ol.length=al.length:=by
 intro ol;induction ol with
 |nil=>intro al h;cases al with
  |nil=>rfl
  |cons=>simp [lM] at h
 |cons x r ih=>intro al h;cases al with
  |nil=>simp [lM] at h
  |cons y s=>simp only [lM,aE] at h;simp [ih h.2]
structure iH (P:Program) (GL:List (Nat×List Value)) (N:Nat) (dr:Array Oper→List (List Nat)→List bz→Bool):Prop where
 rd: ∀(F:Fr),F.GL=GL→F.N=N→ ∀(ops:Array Oper) (us:List (List Nat)) (l:List bz),lM P F.GL F.N ops ops.toList l=true→dr ops us l=true→ ∀(K:St→Prop) (Q:Exit→Act→World→Prop),(∀S gb σ a w,aI F S gb σ a w→K σ→Q .normal a w)→
  ∀ {S:aM} {gb:Gb} {σ:St} {a:Act} {w:World},aI F S gb σ a w→kR (bc P F.GL) us l 0 [] K σ→wpAny P .any ops Q ops.size (Array.replicate ops.size false) a {w with drawn:=w.drawn+1}
theorem vh {GL:List (Nat×List Value)} {N:Nat}:iH P GL N nT where
 rd:=by
  intro F hGL hN ops us l hmts hdr K Q hQ S gb σ a w hrel hw;have no: ∀ {r:List bz} {x1 x2 x3 y1 y2 y3 z},l.reverse= .gd x1 x2 x3 (.gd y1 y2 y3 z)::r→False:=by
   intro r x1 x2 x3 y1 y2 y3 z e;have e2:l=r.reverse++[.gd x1 x2 x3 (.gd y1 y2 y3 z)]:=by rw [←List.reverse_reverse l,e];simp
   have hl:=Kc hmts;have hlen:l.length=r.length+1:=by rw [e2];simp
   obtain ⟨o,ho⟩: ∃o,ops.toList[r.length]?=some o:=⟨ops.toList[r.length]'(by omega),by rw [rG]⟩;obtain ⟨ao,h1,h2⟩:=MJ hmts _ _ ho;rw [e2,List.getElem?_append_right (by simp)] at h1;simp at h1;subst h1;simp [mt,dM] at h2
  have:J9 ops us l=true:=by
   unfold nT at hdr;split at hdr
   ·rename_i e;exact (no e).elim
   ·rename_i e;exact (no e).elim
   ·exact hdr
  exact Bu F hGL hN ops us l hmts this K Q hQ hrel hw
theorem G2 {GL:List (Nat×List Value)} {N:Nat} (hmix:P.follows .mixedOrders=true):bK P GL N nT where
 rd:=fun F hGL hN id ops us l hmts hdr K Q hQ {S gb σ a w} hrel hw=>wp_region_any hmix (vh.rd F hGL hN ops us l hmts hdr K Q hQ hrel hw)
end Go.Ai
namespace Go.Ai

attribute [simp] ev lk aw Gn aD dl xR gU St.v St.put St.puto P5 v8 bX fb uP AV.cs dY jv rJ kP je rK uO jV yH ft GH JW Ba LJ Gr AE.sq AE.bl gr uw iW dI AV.ids ba Pl.ids qU Gq kQ fR fe byteCells ju ud nF Gp Pl.lt Id.isUp Id.isIt Di AV.mk AV.mkk MK.av
def kN (K:St→Prop) (σ:St):Option (Nat×AV)→Prop
 |some (d,v)=>K (σ.put d v)
 |none=>False
def ML (A B:St→Prop) (σ:St):AV→Prop
 | .bool t=>if t=true then A σ else B σ
 |_=>False
def SK (S:Nat→Nat→In→cK→Prop) (f d:Nat) (K:St→Prop) (σ:St):Option (List AV)→Prop
 |some l=> ∃r,rL S f l r∧K (σ.put d r)
 |none=>False
def U1 (K:St→Prop) (d:Nat) (σ:St):Prop:=K (σ.put d (.tup []))
def SL (b:Bool) (A U:St→Prop) (σ:St) (v:AV):Prop:=match JU v b with
 |some true=>A σ
 |some false=>U σ
 |none=>False
attribute [simp] bD.eq_1 bD.eq_2 bD.eq_3 bD.eq_4 bD.eq_5 bD.eq_6 bD.eq_7 bD.eq_8 bD.eq_9 bD.eq_10 bD.eq_11 bD.eq_12 bD.eq_13 bD.eq_14 bD.eq_15 bD.eq_16 bD.eq_17 bD.eq_18 bD.eq_19 bD.eq_20 bD.eq_21 bD.eq_22 bD.eq_23 bD.eq_24 bD.eq_25 bD.eq_26 bD.eq_27
def V6 (S:Nat→Nat→In→cK→Prop) (f d:Nat) (s:Option X) (ps:List X) (K:St→Prop) (σ:St):Prop:= ∃k out,JV S f σ s ps k out∧K (A9 d s (.sl out) k σ)
@[simp] theorem SO {K:St→Prop} {d:Nat} {σ:St}:U1 K d σ=K (σ.put d (.tup [])):=rfl
section
variable {S:Nat→Nat→In→cK→Prop} {Q:AE→St→Prop} {σ:St} {B:St→Prop}
@[simp] theorem SQ:dG S .sk Q σ=Q .n σ:=rfl
@[simp] theorem SU {l}:dG S (.rg l) Q σ=mm S l (Q .n) σ:=rfl
@[simp] theorem SW {us l}:dG S (.rd us l) Q σ=kR S us l 0 [] (Q .n) σ:=rfl
@[simp] theorem SX {a b}:dG S (.sq a b) Q σ=dG S a (AE.sq (dG S b Q) Q) σ:=rfl
@[simp] theorem SY {i a}:dG S (.bl i a) Q σ=dG S a (AE.bl i Q) σ:=rfl
@[simp] theorem SZ {i}:dG S (.ex i) Q σ=Q (.x i) σ:=rfl
@[simp] theorem S6:dG S .rt Q σ=Q .r σ:=rfl
@[simp] theorem S8 {a}:dG S (.sc a) Q σ=dG S a Q σ:=rfl
@[simp] theorem S9:dG S .lb Q σ=Q .n σ:=rfl
@[simp] theorem Ta:dG S .no Q σ=False:=rfl
def U2 (K:St→Prop) (s:Nat) (σ:St):Prop:= ∃b n sz rows tl,kS σ s b n sz rows tl∧sz<4294967296∧K (iC σ s b sz rows)
theorem wH {K:St→Prop} {s:Nat} {σ:St} (b:Id) (n sz:Nat) (rows:List (List AV)) (tl:List AV) (h:kS σ s b n sz rows tl) (hz:sz<4294967296) (hk:K (iC σ s b sz rows)):U2 K s σ:=⟨b,n,sz,rows,tl,h,hz,hk⟩
@[simp] theorem Tb {s l}:dG S (.fz s l) Q σ=U2 (mm S l (Q .n)) s σ:=rfl
@[simp] theorem Tc {x a b}:dG S (.cd x a b) Q σ=ML (dG S a Q) (dG S b Q) σ (σ.v x):=rfl
variable {K A:St→Prop}
@[simp] theorem Pi {d v}:kN K σ (some (d,v))=K (σ.put d v):=rfl
@[simp] theorem Pj:kN K σ none=False:=rfl
@[simp] theorem G3:ML A B σ (.bool true)=A σ:=rfl
@[simp] theorem EX:ML A B σ (.bool false)=B σ:=rfl
theorem gx {t:Bool} (h1:t=true→A σ) (h2:t=false→B σ):ML A B σ (.bool t):=by cases t;exact h2 rfl;exact h1 rfl
theorem wI {p:Prop} [Decidable p] (h1:p→A σ) (h2: ¬p→B σ):ML A B σ (.bool (decide p)):=by by_cases h:p<;>simp only [h,decide_true,decide_false,G3,EX];exact h1 h;exact h2 h
@[simp] theorem P9:mm S [] K σ=K σ:=rfl
@[simp] theorem Pk {o r}:mm S (o::r) K σ=bD S o (mm S r K) σ:=rfl
@[simp] theorem Pm {j h}:kR S [] [] j h K σ=K σ:=rfl
@[simp] theorem Oh {u us o r j h}:kR S (u::us) (o::r) j h K σ=(JW h u (ft σ o)∧bD S o (AQ h u (kR S us r (j+1) (Ba h j (ft σ o)) K)) σ):=rfl
@[simp] theorem Qa {u}:AQ [] u K=K:=rfl
@[simp] theorem Qb {i b h u}:AQ ((i,.one b)::h) u K=AQ h u K:=rfl
@[simp] theorem Td {i l h u}:AQ ((i,.fr l)::h) u K=AQ h u K:=rfl
@[simp] theorem Qc {i b off v h u}:AQ ((i,.cel b off v)::h) u K σ=((i∈u→fb σ.bx (.ptr b off)=some v)∧AQ h u K σ):=rfl
@[simp] theorem Te {d f xs}:bD S (.cl d f xs) K σ=SK S f d K σ (jv (xs.map σ.v)):=rfl
@[simp] theorem Tf {d f s ps}:bD S (.ca d f s ps) K σ=V6 S f d s ps K σ:=rfl
attribute [simp] bD.eq_32 bD.eq_33
def We (S:Nat→Nat→In→cK→Prop) (f d:Nat) (K:St→Prop) (σ:St):List AV→Prop
 | .ptr b o::r=>match aw σ.bx b with
  |some cs=> ∃v,(∀e,b.isNw e=false→S f e ⟨.ptr b o::r,[(b,cs)],[]⟩ ⟨v,[(b,cs)],[]⟩)∧K ⟨(d,v)::σ.e,σ.bx,gU (ud σ.pm b) d⟩
  |none=>False
 |_=>False
def U3 (S:Nat→Nat→In→cK→Prop) (f d:Nat) (xs:List X) (fr:List Nat) (K:St→Prop) (σ:St):Prop:= ∃I O,S f d I O∧dt d σ xs I O∧(JT fr I O∧fr.contains d=false)∧K (bm d σ xs I O)
@[simp] theorem Tg {d f xs fr}:bD S (.cq d f xs fr) K σ=U3 S f d xs fr K σ:=by rw [bD];rfl
@[simp] theorem Th {s b d o}:bD S (.gd s b d o) K σ=SL b (bD S o K) (U1 K d) σ (lk σ.e s):=by
 rw [bD];rfl
@[simp] theorem Pn {b t:Bool} {A U:St→Prop}:SL b A U σ (.bool t)=ML (if true=b then A else U) (if false=b then A else U) σ (.bool t):=by
 cases t<;>cases b<;>rfl
@[simp] theorem Qd {b:Bool} {A U:St→Prop}:SL b A U σ (.tup [])=U σ:=rfl
@[simp] theorem Ti {d x}:bD S (.mv d x) K σ=kN K σ (ev σ (.mv d x)):=rfl
@[simp] theorem Tj {d c a b}:bD S (.pk d c a b) K σ=kN K σ (ev σ (.pk d c a b)):=rfl
@[simp] theorem Tm {d op x y}:bD S (.bi d op x y) K σ=kN K σ (ev σ (.bi d op x y)):=rfl
@[simp] theorem Tn {d n x y}:bD S (.bb d n x y) K σ=kN K σ (ev σ (.bb d n x y)):=rfl
@[simp] theorem To {d n ks x y}:bD S (.ea d n ks x y) K σ=kN K σ (ev σ (.ea d n ks x y)):=rfl
@[simp] theorem Tp {d x}:bD S (.bq d x) K σ=kN K σ (ev σ (.bq d x)):=rfl
@[simp] theorem Tq {d n x}:bD S (.pn d n x) K σ=kN K σ (ev σ (.pn d n x)):=rfl
@[simp] theorem Tr {d op x}:bD S (.un d op x) K σ=kN K σ (ev σ (.un d op x)):=rfl
@[simp] theorem Ts {d k x}:bD S (.cv d k x) K σ=kN K σ (ev σ (.cv d k x)):=rfl
@[simp] theorem Qe {d x}:bD S (.lns d x) K σ=kN K σ (ev σ (.lns d x)):=rfl
@[simp] theorem Tt {d x}:bD S (.ln d x) K σ=kN K σ (ev σ (.ln d x)):=rfl
@[simp] theorem Tu {d x o}:bD S (.fa d x o) K σ=kN K σ (ev σ (.fa d x o)):=rfl
@[simp] theorem Tv {d s x i}:bD S (.ia d s x i) K σ=kN K σ (ev σ (.ia d s x i)):=rfl
@[simp] theorem Qf {d s n x i}:bD S (.iaa d s n x i) K σ=kN K σ (ev σ (.iaa d s n x i)):=rfl
@[simp] theorem Qg {d x}:bD S (.lds d x) K σ=kN K σ (ev σ (.lds d x)):=rfl
@[simp] theorem Qh {d x}:bD S (.ldf d x) K σ=kN K σ (ev σ (.ldf d x)):=rfl
@[simp] theorem Qi {d n x}:bD S (.lda d n x) K σ=kN K σ (ev σ (.lda d n x)):=rfl
@[simp] theorem Tw {d z ps}:bD S (.bd d z ps) K σ=kN K σ (ev σ (.bd d z ps)):=rfl
@[simp] theorem Qj {d o x}:bD S (.fls d o x) K σ=kN K σ (ev σ (.fls d o x)):=rfl
@[simp] theorem Qk {d o n x}:bD S (.fla d o n x) K σ=kN K σ (ev σ (.fla d o n x)):=rfl
@[simp] theorem Ql {d x i}:bD S (.ixs d x i) K σ=kN K σ (ev σ (.ixs d x i)):=rfl
@[simp] theorem Qm {d x i}:bD S (.exq d x i) K σ=kN K σ (ev σ (.exq d x i)):=rfl
@[simp] theorem Tx {d f xs}:bD S (.mf d f xs) K σ=kN K σ (ev σ (.mf d f xs)):=rfl
@[simp] theorem Qn {d x}:bD S (.b2s d x) K σ=kN K σ (ev σ (.b2s d x)):=rfl
@[simp] theorem Qo {d x}:bD S (.i2s d x) K σ=kN K σ (ev σ (.i2s d x)):=rfl
@[simp] theorem Qp {d n x}:bD S (.inl d n x) K σ=kN K σ (ev σ (.inl d n x)):=rfl
@[simp] theorem Qq {d s n g x i}:bD S (.ixa d s n g x i) K σ=kN K σ (ev σ (.ixa d s n g x i)):=rfl
@[simp] theorem Qr {d x}:bD S (.mpl d x) K σ=kN K σ (ev σ (.mpl d x)):=rfl
@[simp] theorem Qs {d q z m k ok}:bD S (.mlk d q z m k ok) K σ=kN K σ (ev σ (.mlk d q z m k ok)):=rfl
@[simp] theorem Ty {d x y}:bD S (.mn d x y) K σ=kN K σ (ev σ (.mn d x y)):=rfl
@[simp] theorem Tz {d x y}:bD S (.mx d x y) K σ=kN K σ (ev σ (.mx d x y)):=rfl
@[simp] theorem TA {d T x}:bD S (.mi d T x) K σ=kN K σ (ev σ (.mi d T x)):=rfl
@[simp] theorem TB {d T z x ok}:bD S (.ta d T z x ok) K σ=kN K σ (ev σ (.ta d T z x ok)):=rfl
@[simp] theorem TD {d x}:bD S (.nc d x) K σ=kN K σ (ev σ (.nc d x)):=rfl
end
@[simp] theorem Qt (v:AV):wk v v:= .inl rfl
@[simp] theorem TE:wk .nils (.sl []):= .inr ⟨rfl,rfl⟩
@[simp] theorem Oi (z:List AV) (off:Nat) (vs:List AV):gh z off vs=z.take off++vs++z.drop (off+vs.length):=rfl

@[simp] theorem U4 {a u}:wk (.sl a) u=(AV.sl a=u):=by simp [wk]
@[simp] theorem TF {k a u}:wk (.int k a) u=(AV.int k a=u):=by simp [wk]
@[simp] theorem Qu {a u}:wk (.bool a) u=(AV.bool a=u):=by simp [wk]
@[simp] theorem TG {a u}:wk (.str a) u=(AV.str a=u):=by simp [wk]
@[simp] theorem TI {a u}:wk (.agg a) u=(AV.agg a=u):=by simp [wk]
@[simp] theorem TJ {a u}:wk (.pin a) u=(AV.pin a=u):=by simp [wk]
@[simp] theorem TL {a b u}:wk (.ptr a b) u=(AV.ptr a b=u):=by simp [wk]
@[simp] theorem Po {a}:wk .nils (.sl a)=(a=[]):=by simp [wk]
theorem ae {σ τ:St} (e: ∀p∈τ.e,wk (lk σ.e p.1) p.2) (b: ∀p∈τ.bx,Gq σ.bx p.1 p.2) (p: ∀p∈τ.pm,aD σ.pm p.1=some p.2∨kQ σ p.1)
 (ei: ∀p∈τ.e,∀d∈p.2.ids,(aw τ.bx d).isSome∨d.isUp=true) (bi: ∀p∈τ.bx,∀d∈ba p.2,(aw τ.bx d).isSome∨d.isUp=true) (pi: ∀p∈τ.pm,∀d∈p.1.ids,(aw τ.bx d).isSome):dL σ τ:=⟨e,b,p,ei,bi,pi⟩

def Pp {α:Type} (st:α→St) (I:α→Prop) (μ:α→Nat) (x:α) (σ:St):Prop:= ∃y,I y∧μ y<μ x∧uR σ (st y)
theorem sd {α:Type} {st:α→St} {I:α→Prop} {μ:α→Nat} {x:α} {σ:St} (y:α) (h1:I y) (h2:μ y<μ x) (h3:dL σ (st y)):Pp st I μ x σ:=⟨y,h1,h2,.inl h3⟩
theorem aj {n:Int} (h1: -9223372036854775808≤n) (h2:n<9223372036854775808):IntKind.i64.wrap n=n:=by
 have e1:(2:Int)^64=18446744073709551616:=by decide
 have e2:(2:Int)^(64 - 1)=9223372036854775808:=by decide
 have:IntKind.i64.wrap n=if (true&&decide (n%2^64≥2^(64 - 1)))=true then n%2^64 - 2^64 else n%2^64:=rfl
 rw [this];simp only [e1,e2,ib,o5];split<;>omega
theorem a6 {n:Int} (h1:0≤n) (h2:n<18446744073709551616):IntKind.u64.wrap n=n:=by
 have e1:(2:Int)^64=18446744073709551616:=by decide
 have e2:(2:Int)^(64 - 1)=9223372036854775808:=by decide
 have:IntKind.u64.wrap n=if (false&&decide (n%2^64≥2^(64 - 1)))=true then n%2^64 - 2^64 else n%2^64:=rfl
 rw [this];simp only [e1,e2,iR];simp;omega
theorem cJ {n:Int} (h1:0≤n) (h2:n<4294967296):IntKind.u32.wrap n=n:=by
 have e1:(2:Int)^32=4294967296:=by decide
 have:IntKind.u32.wrap n=if (false&&decide (n%2^32≥2^(32 - 1)))=true then n%2^32 - 2^32 else n%2^32:=rfl
 rw [this];simp only [e1,iR];simp;omega
theorem gy {n:Int}:IntKind.u32.wrap n=n%4294967296:=by
 have e1:(2:Int)^32=4294967296:=by decide
 have:IntKind.u32.wrap n=if (false&&decide (n%2^32≥2^(32 - 1)))=true then n%2^32 - 2^32 else n%2^32:=rfl
 rw [this];simp only [e1,iR];simp
theorem dx {n:Int} (h1:0≤n) (h2:n<256):IntKind.u8.wrap n=n:=by
 have e1:(2:Int)^8=256:=by decide
 have:IntKind.u8.wrap n=if (false&&decide (n%2^8≥2^(8 - 1)))=true then n%2^8 - 2^8 else n%2^8:=rfl
 rw [this];simp only [e1,iR];simp;omega
theorem EY {n:Int}:IntKind.u64.wrap n=n%18446744073709551616:=by
 have e1:(2:Int)^64=18446744073709551616:=by decide
 have:IntKind.u64.wrap n=if (false&&decide (n%2^64≥2^(64 - 1)))=true then n%2^64 - 2^64 else n%2^64:=rfl
 rw [this];simp only [e1,iR];simp
theorem se {S:Nat→Nat→In→cK→Prop} {K K':St→Prop} (hk: ∀σ,K σ→K' σ): ∀ {o:bz} {σ:St},bD S o K σ→bD S o K' σ:=by
 intro o;induction o with
 |gd s b d o ih=>
  intro σ h;simp only [bD] at h ⊢;split at h
  ·exact ih h
  ·exact hk _ h
  ·cases h
 |ce d f xs=>intro σ h;obtain ⟨I,O,h1,h2,h3⟩:=h;exact ⟨I,O,h1,h2,hk _ h3⟩
 |cq d f xs fr=>intro σ h;obtain ⟨I,O,h1,h2,h3,h4⟩:=h;exact ⟨I,O,h1,h2,h3,hk _ h4⟩
 |cd d x xs=>
  intro σ h;simp only [bD] at h ⊢;split at h
  ·obtain ⟨I,O,h1,h2,h3⟩:=h;exact ⟨I,O,h1,h2,hk _ h3⟩
  ·cases h
 |nx d x=>
  intro σ h;simp only [bD] at h ⊢;split at h
  ·split at h
   ·split at h
    ·rename_i e;rw [if_pos e];exact hk _ h
    ·rename_i e;rw [if_neg e];exact hk _ h
   ·cases h
  ·cases h
 |_=>
  intro σ h;simp only [bD] at h ⊢;repeat' (first|(split at h)|contradiction)
  all_goals first
   |exact hk _ h
   |(obtain ⟨g1,g2⟩:=h;exact ⟨g1,hk _ g2⟩)
   |(obtain ⟨g1,g2,g3⟩:=h;exact ⟨g1,g2,hk _ g3⟩)
   |(obtain ⟨g1,g2,g3,g4⟩:=h;exact ⟨g1,g2,g3,hk _ g4⟩)
   |(obtain ⟨g1,g2,g3,g4,g5⟩:=h;exact ⟨g1,g2,g3,g4,hk _ g5⟩)
   |(obtain ⟨g1,g2,g3,g4,g5,g6⟩:=h;exact ⟨g1,g2,g3,g4,g5,hk _ g6⟩)
   |(obtain ⟨g1,g2,g3,g4,g5,g6,g7,g8⟩:=h;exact ⟨g1,g2,g3,g4,g5,g6,g7,hk _ g8⟩)
   |(obtain ⟨g1,g2,g3,g4,g5,g6,g7,g8,g9,g10,g11⟩:=h;exact ⟨g1,g2,g3,g4,g5,g6,g7,g8,g9,g10,hk _ g11⟩)
   |(obtain ⟨g1,g2,g3,g4,g5,g6,g7,g8,g9,g10,g11,g12,g13,g14⟩:=h;exact ⟨g1,g2,g3,g4,g5,g6,g7,g8,g9,g10,g11,g12,g13,hk _ g14⟩)
theorem G4 {S:Nat→Nat→In→cK→Prop} {α:Type} {c:AC} {Q:AE→St→Prop} (st:α→St) (I:α→Prop) (μ:α→Nat)
  (step: ∀x,I x→dG S c (AE.sq (Pp st I μ x) Q) (st x)) {σ:St} (x:α) (hx:I x) (hw:dL σ (st x)):dG S (.lp c) Q σ:=by
 have mono: ∀ {c:AC} {Q Q':AE→St→Prop} {σ:St},(∀e σ,Q e σ→Q' e σ)→dG S c Q σ→dG S c Q' σ:=by
  intro c;have m1: ∀ {o:bz} {K K':St→Prop} {σ:St},(∀σ,K σ→K' σ)→bD S o K σ→bD S o K' σ:=fun hk h=>se hk h
  have mL: ∀ {l:List bz} {K K':St→Prop} {σ:St},(∀σ,K σ→K' σ)→mm S l K σ→mm S l K' σ:=by
   intro l;induction l with
   |nil=>intro K K' σ hk h;exact hk _ h
   |cons o r ih=>intro K K' σ hk h;exact m1 (fun σ h=>ih hk h) h
  have mD: ∀ {us:List (List Nat)} {l:List bz} {j:Nat} {h:List (Nat×Bx)} {K K':St→Prop} {σ:St},(∀σ,K σ→K' σ)→kR S us l j h K σ→kR S us l j h K' σ:=by
   intro us;induction us with
   |nil=>intro l j h K K' σ hk hw;cases l with
    |nil=>exact hk _ hw
    |cons=>exact hw.elim
   |cons u us ih=>intro l j h K K' σ hk hw;cases l with
    |nil=>exact hw.elim
    |cons o r=>exact ⟨hw.1,m1 (fun σ h=>fS.2 ⟨(fS.1 h).1,ih hk (fS.1 h).2⟩) hw.2⟩
  have sqm: ∀ {B B':St→Prop} {Q Q':AE→St→Prop},(∀σ,B σ→B' σ)→(∀e σ,Q e σ→Q' e σ)→ ∀e σ,AE.sq B Q e σ→AE.sq B' Q' e σ:=by
   intro B B' Q Q' hb hq e σ h;cases e
   ·exact hb _ h
   ·exact hq _ _ h
   ·exact hq _ _ h
  induction c with
  |sk=>intro Q Q' σ hq h;exact hq _ _ h
  |rg l=>intro Q Q' σ hq h;exact mL (fun σ h=>hq _ _ h) h
  |rd us l=>intro Q Q' σ hq h;exact mD (fun σ h=>hq _ _ h) h
  |sq a b iha ihb=>intro Q Q' σ hq h;exact iha (sqm (fun σ h=>ihb hq h) hq) h
  |cd x a b iha ihb=>
   intro Q Q' σ hq h;unfold dG at h ⊢;split at h
   ·rename_i t ht;split at h
    ·rename_i e;rw [if_pos e];exact iha hq h
    ·rename_i e;rw [if_neg e];exact ihb hq h
   ·cases h
  |bl i a ih=>
   intro Q Q' σ hq h;refine ih (fun e σ h=>?_) h;cases e
   ·exact hq _ _ h
   ·rename_i j;unfold AE.bl at h ⊢;by_cases e:j=i
    ·simp only [if_pos e] at h ⊢;exact hq _ _ h
    ·simp only [if_neg e] at h ⊢;exact hq _ _ h
   ·exact hq _ _ h
  |lp a ih=>
   intro Q Q' σ hq h;obtain ⟨n,hn⟩:=h;refine ⟨n,?_⟩;induction n generalizing σ with
   |zero=>exact hn
   |succ n ihn=>
    obtain ⟨τ,hτ,hb⟩:=hn;exact ⟨τ,hτ,ih (sqm (fun σ h=>ihn h) hq) hb⟩
  |ex i=>intro Q Q' σ hq h;exact hq _ _ h
  |rt=>intro Q Q' σ hq h;exact hq _ _ h
  |sc a ih=>intro Q Q' σ hq h;exact ih hq h
  |lb=>intro Q Q' σ hq h;exact hq _ _ h
  |no=>intro Q Q' σ hq h;exact h
  |fz s l=>intro Q Q' σ hq h;obtain ⟨b,n,sz,rows,tl,q1,q2,q3⟩:=h;exact ⟨b,n,sz,rows,tl,q1,q2,mL (fun σ h=>hq _ _ h) q3⟩
 have key: ∀n x,μ x<n→I x→ ∀σ,uR σ (st x)→Dk (dG S c) Q n σ:=by
  intro n;induction n with
  |zero=>intro x h;omega
  |succ n ih=>
   intro x hn hx σ hw;refine ⟨st x,hw,mono ?_ (step x hx)⟩;intro e σ' h;cases e
   ·obtain ⟨y,hy,hlt,hwy⟩:=h;exact ih y (by omega) hy σ' hwy
   ·exact h
   ·exact h
 exact ⟨μ x+1,key _ x (by omega) hx σ (.inl hw)⟩

theorem aP {S:Nat→Nat→In→cK→Prop} {α:Type} {c:AC} {Q:AE→St→Prop} (st:α→St) (I:α→Prop) (μ:α→Nat)
  (step: ∀(K:St→Prop) (x:α),(∀(y:α) (σ':St),I y→μ y<μ x→dL σ' (st y)→K σ')→I x→dG S c (AE.sq K Q) (st x)) {σ:St} (x:α) (hx:I x) (hw:dL σ (st x)):dG S (.lp c) Q σ:=
 G4 st I μ (fun x hx=>step (Pp st I μ x) x (fun y σ' h1 h2 h3=>sd y h1 h2 h3) hx) x hx hw
def AC.tl:Nat→AC→AC
 |0,c=>c
 |n+1,.sq _ b=>b.tl n
 |_,c=>c
@[irreducible] def cB (P:Program) (GL:List (Nat×List Value)) (f d:Nat) (I:In) (O:cK):Prop:=bc P GL f d I O
theorem fy (P:Program) (GL:List (Nat×List Value)):cB P GL=bc P GL:=by funext f d I O;unfold cB;rfl
@[irreducible] def Sp (P:Program) (GL:List (Nat×List Value)) (f:Nat) (l:List AV) (r:AV):Prop:=rL (cB P GL) f l r
theorem vi (P:Program) (GL:List (Nat×List Value)) {f:Nat} {l:List AV} {r:AV}:Sp P GL f l r↔rL (bc P GL) f l r:=by unfold Sp;rw [fy]
theorem ay {P:Program} {GL:List (Nat×List Value)} {K:St→Prop} {σ:St} {f d:Nat} {l:List AV} (r:AV) (h:Sp P GL f l r) (hk:K (σ.put d r)):SK (cB P GL) f d K σ (some l):=by
 unfold Sp at h;exact ⟨r,h,hk⟩
theorem ab {P:Program} {GL:List (Nat×List Value)} {K:St→Prop} {σ:St} {f d:Nat} {l:List AV} {r:AV} (h:Sp P GL f l r) (hk:K (σ.put d r)):SK (cB P GL) f d K σ (some l):=ay r h hk
theorem MN {P:Program} {GL:List (Nat×List Value)} {dr:Array Oper→List (List Nat)→List bz→Bool} {f:Nat} {fn:Func} {af:AF} (hf:P.funcs[f]?=some fn) (hm:mF P GL dr fn af=true) (hd:bK P GL af.N dr) {l:List AV} {r:AV} (hl:l.length=af.np) (hi:ba l=[])
  (hw:dG (cB P GL) af.c (iW af.rs r) ⟨dI 0 l,[],[]⟩):Sp P GL f l r:=by
 rw [fy] at hw;exact (vi P GL).2 (ET hf hm hd hl hi hw)
end Go.Ai
namespace Go.Ai
open Go.RowKit
variable {P:Program} {F:Fr} {S:aM} {gb:Gb} {σ:St} {a:Act} {w:World}

def Dv (rs:List AR) (r:AV) (e:AE) (σ:St):Prop:=iW rs r e σ∨(∃s b n sz rows,Dj σ s b n sz rows∧iW rs r e (fT σ s b rows))∨ ∃s b n sz rows tl,kS σ s b n sz rows tl∧iW rs r e (fT σ s b rows)

theorem By {GL:List (Nat×List Value)} {dr:Array Oper→List (List Nat)→List bz→Bool} {f:Nat} {fn:Func} {af:AF} (hf:P.funcs[f]?=some fn) (hm:mF P GL dr fn af=true) (hd:bK P GL af.N dr) {l:List AV} {r:AV} (hl:l.length=af.np) (hi:ba l=[])
  (hw:dG (bc P GL) af.c (Dv af.rs r) ⟨dI 0 l,[],[]⟩):rL (bc P GL) f l r:=by
 intro d;simp only [mF,aE,bne_iff_ne,bP] at hm;obtain ⟨⟨⟨⟨⟨h1,h2⟩,h3⟩,h4⟩,h5⟩,h6⟩:=hm;split at h6<;>(try cases h6);rename_i c hb;have h4:=Nat.le_of_ble_eq_true h4;intro S gb w vs hvs hhr hglo hnw;have hlen:vs.length=l.length:=hvs.length.symm;unfold k9;have hcall:(callFunc f vs.toArray).run P w= .ok (.enter f vs.toArray) w:=by
  simp [callFunc,hf,hb,h1]
 rw [hcall];refine calls_of_wp hf hb ?_
 let F:Fr:=⟨S,w,MS ⟨l,[],[]⟩ gb (fun t=>vs.getD t undef) w,gb,af.N,GL,[]⟩
 have hrel:aI F S (eB gb) ⟨dI 0 l,[],[]⟩ {tmps:=vs.toArray++Array.replicate (fn.ntmps - vs.toArray.size) undef,defers:=[]} w:=by
  refine ⟨rfl,?_,Bw.refl _ _,fun _ _ _ _=>rfl,aM.le.refl _,?_,⟨hhr.agree,?_,?_,?_,?_,?_,?_,?_⟩,?_,?_,?_,fun d=>rfl,hglo⟩
  ·show (vs.toArray++Array.replicate (fn.ntmps - vs.toArray.size) undef).size=af.N;simp;omega
  ·intro t
   have:=(fU (aa.noids (gb':=eB gb) _ _ hi hvs) 0 t).2 t (by omega)
   rw [dQ];exact this
  ·intro d cs hcs;simp [aw] at hcs
  ·intro d cs hcs;simp [aw] at hcs
  ·intro d d' g z z' hg;simp [aw] at hg
  ·intro p k hk;simp [aD] at hk
  ·intro p q k l b hk;simp [aD] at hk
  ·intro p k b d z hk;simp [aD] at hk
  ·intro d off k hk;simp [aD] at hk
  ·intro d g z hg;simp [aw] at hg
  ·intro p k g hk;simp [aD] at hk
  ·intro d hd;cases d<;>simp [eB,Id.isUp] at hd ⊢
 refine eA (F:=F) hd h6 (Q:=Dv af.rs r) ?_ hrel hw;intro e S0' gb0' σ0 a' w' hr0 hq0;have fin: ∀S' gb' σ',aI F S' gb' σ' a' w'→ ∀vs',gr σ' af.rs=some vs'→dY (uw vs')=some r→a'.defers=[]∧ ∃v,(results fn a'.tmps).run P w'= .ok v w'∧(∃u,Ending.returned v= .returned u∧ ∃S'' gb'',dH d ⟨l,[],[]⟩ ⟨r,[],[]⟩ S gb (fun t=>vs.getD t undef) w S'' gb'' u w'):=by
  intro S' gb' σ' hr vs' hv hs;refine ⟨hr.defers,?_⟩;obtain ⟨us,hrun,g2,_⟩:=j8 (P:=P) hr h5 hv;refine ⟨_,hrun,_,rfl,S',gb,hr.bw,hr.ext,hr.le,fun _ _=>rfl,fun i hi hne=>absurd (hnw i hi) hne,uZ (bM _ _ _ hs (Bq g2)),⟨hr.hr.agree,?_,?_,?_,?_,?_,?_,?_⟩,?_,?_⟩
  ·intro d cs hcs;simp [aw] at hcs
  ·intro d cs hcs;simp [aw] at hcs
  ·intro d d' g z z' hg;simp [aw] at hg
  ·intro p k hk;simp [aD] at hk
  ·intro p q k l b hk;simp [aD] at hk
  ·intro p k b d z hk;simp [aD] at hk
  ·intro d off k hk;simp [aD] at hk
  ·intro d g z hg;simp [aw] at hg
  ·intro p k g hk;simp [aD] at hk
 have fin2: ∀S' gb' σ',aI F S' gb' σ' a' w'→iW af.rs r e σ'→(yW e= .normal∨yW e= .ret)∧a'.defers=[]∧ ∃v,(results fn a'.tmps).run P w'= .ok v w'∧(∃u,Ending.returned v= .returned u∧ ∃S'' gb'',dH d ⟨l,[],[]⟩ ⟨r,[],[]⟩ S gb (fun t=>vs.getD t undef) w S'' gb'' u w'):=by
  intro S' gb' σ' hr hq;cases e
  ·simp only [iW] at hq;split at hq
   ·rename_i vs' hv;exact ⟨.inl rfl,fin S' gb' σ' hr vs' hv hq⟩
   ·cases hq
  ·exact hq.elim
  ·simp only [iW] at hq;split at hq
   ·rename_i vs' hv;exact ⟨.inr rfl,fin S' gb' σ' hr vs' hv hq⟩
   ·cases hq
 have hall:=(show (yW e= .normal∨yW e= .ret)∧a'.defers=[]∧ ∃v,(results fn a'.tmps).run P w'= .ok v w'∧(∃u,Ending.returned v= .returned u∧ ∃S'' gb'',dH d ⟨l,[],[]⟩ ⟨r,[],[]⟩ S gb (fun t=>vs.getD t undef) w S'' gb'' u w') from by
  rcases hq0 with hq|⟨s,b,n,sz,rows,hfz,hq⟩|⟨s,b,n,sz,rows,tl,hfz,hq⟩
  ·exact fin2 _ _ _ hr0 hq
  ·obtain ⟨S1,gb1,hr1,_⟩:=hr0.freeze hfz.two;exact fin2 _ _ _ hr1 hq
  ·obtain ⟨S1,gb1,hr1,_⟩:=hr0.freeze hfz;exact fin2 _ _ _ hr1 hq)
 obtain ⟨hE,hall⟩:=hall;rcases hE with hE|hE
 ·rw [hE];exact hall
 ·rw [hE];exact hall
theorem Kd {P:Program} {GL:List (Nat×List Value)} {dr:Array Oper→List (List Nat)→List bz→Bool} {f:Nat} {fn:Func} {af:AF} (hf:P.funcs[f]?=some fn) (hm:mF P GL dr fn af=true) (hd:bK P GL af.N dr) {l:List AV} {r:AV} (hl:l.length=af.np) (hi:ba l=[])
  (hw:dG (cB P GL) af.c (Dv af.rs r) ⟨dI 0 l,[],[]⟩):Sp P GL f l r:=by
 rw [fy] at hw;exact (vi P GL).2 (By hf hm hd hl hi hw)
end Go.Ai
namespace Go.Ai
open Go.RowKit
variable {P:Program} {F:Fr} {S:aM} {gb:Gb} {σ:St} {a:Act} {w:World}

mutual
def nz:AV→AV
 | .nils=> .sl []
 | .fn g cs=> .fn g (JI cs)
 | .agg cs=> .agg (JI cs)
 | .tup cs=> .tup (JI cs)
 |v=>v
def JI:List AV→List AV
 |[]=>[]
 |v::r=>nz v::JI r
end
def aF (I:In):St:=⟨dI 0 (bp Id.up I.vs),bV Id.up I.bx,b7 Id.up I.pm⟩

mutual
theorem sf {f:Id→Id}: ∀ {v:AV},v.ids=[]→v.mp f=v
 | .ptr _ _,h=>by simp [AV.ids] at h
 | .ms _ _ _ _,h=>by simp [AV.ids] at h
 | .itp _,h=>by simp [AV.ids] at h
 | .mref _,h=>by simp [AV.ids] at h
 | .nilT _ _ _,h=>by simp [AV.ids] at h
 | .mpv _,_=>rfl
 | .fn g cs,h=>by simp only [AV.mp];rw [iu (by simpa [AV.ids] using h)]
 | .agg cs,h=>by simp only [AV.mp];rw [iu (by simpa [AV.ids] using h)]
 | .tup cs,h=>by simp only [AV.mp];rw [iu (by simpa [AV.ids] using h)]
 | .undef,_=>rfl
 | .int _ _,_=>rfl
 | .bool _,_=>rfl
 | .str _,_=>rfl
 | .nils,_=>rfl
 | .sl _,_=>rfl
 | .pin _,_=>rfl
 | .itr _ _,_=>rfl
 | .nilp,_=>rfl
 | .ifc _ v,h=>by simp only [AV.mp];rw [sf (v:=v) (by simpa [AV.ids] using h)]
 | .nili,_=>rfl
 | .yv _,_=>rfl
theorem iu {f:Id→Id}: ∀ {l:List AV},ba l=[]→bp f l=l
 |[],_=>rfl
 |v::r,h=>by
  simp only [ba,List.append_eq_nil_iff] at h;simp only [bp];rw [sf h.1,iu h.2]
end
mutual
theorem Dw {S:aM} {gb:Gb}: ∀(v:AV) (u:Value),PR S gb v u→PR S (eB gb) (v.mp Id.up) u
 | .ptr d o,u,h=>by simpa only [AV.mp,PR,eB,Id.isIt] using h
 | .ms d o n sz,u,h=>by simpa only [AV.mp,PR,eB,Id.isIt] using h
 | .itp _,u,_=>by simp [AV.mp,PR]
 | .mref d,u,h=>by simpa only [AV.mp,PR,eB,Id.isIt] using h
 | .nilT d _ _,u,h=>by simpa only [AV.mp,PR,eB] using h
 | .mpv _,_,h=>by simp only [PR] at h
 | .fn g cs,u,h=>by
  simp only [AV.mp,PR] at h ⊢;obtain ⟨us,h1,h2⟩:=h;exact ⟨us,h1,dA _ _ h2⟩
 | .agg cs,u,h=>by
  simp only [AV.mp,PR] at h ⊢;obtain ⟨us,h1,h0,h2⟩:=h;exact ⟨us,h1,h0,dA _ _ h2⟩
 | .tup cs,u,h=>by
  simp only [AV.mp,PR] at h ⊢;obtain ⟨us,h1,h2⟩:=h;exact ⟨us,h1,dA _ _ h2⟩
 | .undef,_,_=>by simp only [AV.mp,PR]
 | .int _ _,_,h=>by simpa only [AV.mp,PR] using h
 | .bool _,_,h=>by simpa only [AV.mp,PR] using h
 | .str _,_,h=>by simpa only [AV.mp,PR] using h
 | .nils,_,h=>by simpa only [AV.mp,PR] using h
 | .sl _,_,h=>by simpa only [AV.mp,PR] using h
 | .pin _,_,h=>by simpa only [AV.mp,PR] using h
 | .itr _ _,_,h=>by simp only [PR] at h
 | .nilp,_,h=>by simpa only [AV.mp,PR] using h
 | .ifc _ v,u,h=>by
  simp only [AV.mp,PR] at h ⊢;obtain ⟨us,h1,h2⟩:=h;exact ⟨us,h1,Dw v _ h2⟩
 | .nili,_,h=>by simpa only [AV.mp,PR] using h
 | .yv _,_,h=>by simpa only [AV.mp,PR] using h
theorem dA {S:aM} {gb:Gb}: ∀(l:List AV) (us:List Value),aa S gb l us→aa S (eB gb) (bp Id.up l) us
 |[],us,h=>by simpa only [bp,aa] using h
 |v::r,us,h=>by
  simp only [bp,aa] at h ⊢;obtain ⟨u,us',h1,h2,h3⟩:=h;exact ⟨u,us',h1,Dw v u h2,dA r us' h3⟩
end
mutual
theorem LQ {S:aM} {gb:Gb}: ∀(v:AV) (u:Value),PR S gb v u→PR S gb (nz v) u
 | .nils,u,h=>by simp only [nz,PR] at h ⊢;exact .inl ⟨h,trivial⟩
 | .fn g cs,u,h=>by
  simp only [nz,PR] at h ⊢;obtain ⟨us,h1,h2⟩:=h;exact ⟨us,h1,jE _ _ h2⟩
 | .agg cs,u,h=>by
  simp only [nz,PR] at h ⊢;obtain ⟨us,h1,h0,h2⟩:=h;exact ⟨us,h1,h0,jE _ _ h2⟩
 | .tup cs,u,h=>by
  simp only [nz,PR] at h ⊢;obtain ⟨us,h1,h2⟩:=h;exact ⟨us,h1,jE _ _ h2⟩
 | .ptr _ _,_,h=>h
 | .ms _ _ _ _,_,h=>h
 | .itp _,_,h=>h
 | .mref _,_,h=>h
 | .nilT _ _ _,_,h=>h
 | .mpv _,_,h=>h
 | .undef,_,h=>h
 | .int _ _,_,h=>h
 | .bool _,_,h=>h
 | .str _,_,h=>h
 | .sl _,_,h=>h
 | .pin _,_,h=>h
 | .itr _ _,_,h=>h
 | .nilp,_,h=>h
 | .ifc _ _,_,h=>h
 | .nili,_,h=>h
 | .yv _,_,h=>h
theorem jE {S:aM} {gb:Gb}: ∀(l:List AV) (us:List Value),aa S gb l us→aa S gb (JI l) us
 |[],us,h=>h
 |v::r,us,h=>by
  simp only [JI,aa] at h ⊢;obtain ⟨u,us',h1,h2,h3⟩:=h;exact ⟨u,us',h1,LQ v u h2,jE r us' h3⟩
end
theorem sg: ∀(l:List AV),(JI l).length=l.length
 |[]=>rfl
 |v::r=>by simp only [JI,em,sg r]
theorem gz {f:Id→Id}: ∀(l:List AV),(bp f l).length=l.length
 |[]=>rfl
 |v::r=>by simp only [bp,em,gz r]

def cY (d:Nat) (gbc:Gb) (ob:List (Id×List AV)):Gb:=fun i=>if i.isNw d=true∧(aw ob i).isSome=false then none else gbc (i.inn d)
def y8 (d:Nat) (ob:List (Id×List AV)) (i:Id):Prop:=i.isIt=false∧(i.isNw d=true→(aw ob i).isSome=true)
theorem fi {d:Nat} {gbc:Gb} {ob:List (Id×List AV)} {i:Id} (h:i.isNw d=true→(aw ob i).isSome=true):cY d gbc ob i=gbc (i.inn d):=by
 unfold cY;rw [if_neg];rintro ⟨h1,h2⟩;rw [h h1] at h2;cases h2
theorem za {d:Nat} {i:Id}:(i.inn d).isIt=i.isIt:=by
 cases i<;>simp only [Id.inn]<;>(try split)<;>simp_all [Id.isIt]
mutual
theorem Bz {S:aM} {d:Nat} {gbc:Gb} {ob:List (Id×List AV)}: ∀(v:AV) (u:Value),(∀i∈v.ids,y8 d ob i)→PR S gbc (v.mp (Id.inn d)) u→PR S (cY d gbc ob) v u
 | .ptr i o,u,hi,h=>by
  obtain ⟨h1,h2⟩:=hi i (by simp [AV.ids]);simp only [AV.mp,PR] at h ⊢;obtain ⟨g,z,e1,e2,e3⟩:=h;exact ⟨g,z,by rw [fi h2];exact e1,h1,e3⟩
 | .ms i o n sz,u,hi,h=>by
  obtain ⟨h1,h2⟩:=hi i (by simp [AV.ids]);simp only [AV.mp,PR] at h ⊢;obtain ⟨g,z,cap,e1,e2,e3⟩:=h;exact ⟨g,z,cap,by rw [fi h2];exact e1,h1,e3⟩
 | .itp k,u,hi,_=>by
  have:=(hi (.it k) (by simp [AV.ids])).1
  simp [Id.isIt] at this
 | .mref i,u,hi,h=>by
  have h1:=(hi i (by simp [AV.ids])).1;simp only [AV.mp,PR] at h;obtain ⟨g,z,_,e2,_⟩:=h;rw [za,h1] at e2;cases e2
 | .mpv _,_,_,h=>by simp only [AV.mp,PR] at h
 | .nilT i _ _,u,hi,h=>by
  obtain ⟨h1,h2⟩:=hi i (by simp [AV.ids]);simp only [AV.mp,PR] at h ⊢;obtain ⟨e0,g,e1⟩:=h;exact ⟨e0,g,by rw [fi h2];exact e1⟩
 | .fn g cs,u,hi,h=>by
  simp only [AV.mp,PR] at h ⊢;obtain ⟨us,h1,h2⟩:=h;exact ⟨us,h1,iI _ _ (by simpa [AV.ids] using hi) h2⟩
 | .agg cs,u,hi,h=>by
  simp only [AV.mp,PR] at h ⊢;obtain ⟨us,h1,h0,h2⟩:=h;exact ⟨us,h1,h0,iI _ _ (by simpa [AV.ids] using hi) h2⟩
 | .tup cs,u,hi,h=>by
  simp only [AV.mp,PR] at h ⊢;obtain ⟨us,h1,h2⟩:=h;exact ⟨us,h1,iI _ _ (by simpa [AV.ids] using hi) h2⟩
 | .undef,_,_,_=>by simp only [AV.mp,PR]
 | .int _ _,_,_,h=>by simpa only [AV.mp,PR] using h
 | .bool _,_,_,h=>by simpa only [AV.mp,PR] using h
 | .str _,_,_,h=>by simpa only [AV.mp,PR] using h
 | .nils,_,_,h=>by simpa only [AV.mp,PR] using h
 | .sl _,_,_,h=>by simpa only [AV.mp,PR] using h
 | .pin _,_,_,h=>by simpa only [AV.mp,PR] using h
 | .itr _ _,_,_,h=>by simp only [AV.mp,PR] at h
 | .nilp,_,_,h=>by simpa only [AV.mp,PR] using h
 | .nili,_,_,h=>by simpa only [AV.mp,PR] using h
 | .yv _,_,_,h=>by simpa only [AV.mp,PR] using h
 | .ifc _ v,u,hi,h=>by
  simp only [AV.mp,PR] at h ⊢;obtain ⟨us,h1,h2⟩:=h;exact ⟨us,h1,Bz v _ (by simpa [AV.ids] using hi) h2⟩
theorem iI {S:aM} {d:Nat} {gbc:Gb} {ob:List (Id×List AV)}: ∀(l:List AV) (us:List Value),(∀i∈ba l,y8 d ob i)→aa S gbc (bp (Id.inn d) l) us→aa S (cY d gbc ob) l us
 |[],us,_,h=>by simpa only [bp,aa] using h
 |v::r,us,hi,h=>by
  simp only [bp,aa] at h ⊢;obtain ⟨u,us',h1,h2,h3⟩:=h;exact ⟨u,us',h1,Bz v u (fun i hm=>hi i (by simp [ba,hm])) h2,iI r us' (fun i hm=>hi i (by simp [ba,hm])) h3⟩
end
theorem Dx {d:Nat} {i j:Id} (h:i.inn d=j.inn d):i=j:=by
 cases i<;>cases j<;>simp only [Id.inn] at h<;>(try split at h)<;>(try split at h)<;>simp_all [Id.isUp];all_goals (first|(subst h;simp_all [Id.isUp])|skip)
theorem BA {d:Nat} {i:Id} (h:i.isIt=true):(i.inn d).isIt=true:=by
 rw [za];exact h
theorem aV {d:Nat} {i:Id} (h:i.isNw d=false):i.inn d= .up i:=by
 cases i with
 |nw d' j=>
  simp only [Id.inn];rw [if_neg];rintro ⟨rfl,h2⟩;cases j<;>simp_all [Id.isNw,Id.isUp]
 |_=>rfl
theorem Dy {f:Id→Id} (hf: ∀i j,f i=f j→i=j): ∀(l:List (Id×List AV)) (i:Id),aw (bV f l) (f i)=(aw l i).map (bp f)
 |[],i=>rfl
 |(d,cs)::r,i=>by
  simp only [bV,aw];by_cases e:d=i
  ·subst e;simp
  ·rw [if_neg (fun q=>e (hf _ _ q)),if_neg e,Dy hf r i]
theorem bu {f:Id→Id} (hf: ∀i j,f i=f j→i=j): ∀ {l:List (Id×List AV)} {j:Id} {cs:List AV},aw (bV f l) j=some cs→ ∃i cs',j=f i∧aw l i=some cs'∧cs=bp f cs'
 |[],j,cs,h=>by simp [bV,aw] at h
 |(d,c)::r,j,cs,h=>by
  simp only [bV,aw] at h;split at h
  ·rename_i e;simp only [cC] at h;exact ⟨d,c,e.symm,by simp [aw],h.symm⟩
  ·rename_i e;obtain ⟨i,cs',h1,h2,h3⟩:=bu hf h;exact ⟨i,cs',h1,by simp only [aw];rw [if_neg (fun q=>e (by rw [q,h1]))];exact h2,h3⟩
theorem eO {f:Id→Id} (hf: ∀i j,f i=f j→i=j): ∀ {l:List (Pl×Nat)} {q:Pl} {k:Nat},aD (b7 f l) q=some k→ ∃p,q=p.mp f∧aD l p=some k
 |[],q,k,h=>by simp [b7,aD] at h
 |(p,k')::r,q,k,h=>by
  simp only [b7,aD] at h;split at h
  ·rename_i e;simp only [cC] at h;exact ⟨p,e.symm,by simp [aD,h]⟩
  ·rename_i e;obtain ⟨p',h1,h2⟩:=eO hf h;exact ⟨p',h1,by simp only [aD];rw [if_neg (fun q=>e (by rw [q,h1]))];exact h2⟩
theorem j9 {gb:Gb} {sv:Nat→Value} {w:World} (p:Pl):cf (eB gb) sv w (p.mp Id.up)=cf gb sv w p:=by
 cases p<;>rfl
theorem cD (i j:Id) (h:Id.up i=Id.up j):i=j:=by cases h;rfl

theorem HR.up {bx:List (Id×List AV)} {pm:List (Pl×Nat)} {sv:Nat→Value} (h:HR S gb bx pm sv w):HR S (eB gb) (bV Id.up bx) (b7 Id.up pm) sv w:=by
 refine ⟨h.agree,?_,?_,?_,?_,?_,?_,?_⟩
 ·intro d cs hcs hi;obtain ⟨i,cs',rfl,h2,rfl⟩:=bu cD hcs;obtain ⟨g,us,T,e1,e3,e0,e4,e5,e6⟩:=h.box i cs' h2 hi;exact ⟨g,us,T,e1,e3,by rw [gz];exact e0,by rw [gz];exact dA _ _ e4,e5,e6⟩
 ·intro d cs hcs hi;obtain ⟨i,cs',rfl,h2,rfl⟩:=bu cD hcs;obtain ⟨g,z,ob,e1,e2,e3,e6⟩:=h.its i cs' h2 hi;refine ⟨g,z,ob,e1,?_,e3,e6⟩;unfold GI at e2;split at e2
  ·exact e2
  ·exact e2
  ·cases e2
 ·intro d d' g z z' i1 i2 q1 q2;obtain ⟨c1,hc1⟩:=iT.1 i1;obtain ⟨c2,hc2⟩:=iT.1 i2;obtain ⟨i,cs,rfl,h2,rfl⟩:=bu cD hc1;obtain ⟨j,cs',rfl,h3,rfl⟩:=bu cD hc2;rw [h.inj i j g z z' (by rw [h2];rfl) (by rw [h3];rfl) q1 q2]
 ·intro p k hp;obtain ⟨q,rfl,h2⟩:=eO cD hp;rw [j9];exact h.own q k h2
 ·intro p q k l b hp hq h1 h2;obtain ⟨p',rfl,p2⟩:=eO cD hp;obtain ⟨q',rfl,q2⟩:=eO cD hq;rw [j9] at h1 h2;rw [h.ownd p' q' k l b p2 q2 h1 h2]
 ·intro p k b d z hp h1 hd;obtain ⟨p',rfl,p2⟩:=eO cD hp;rw [j9] at h1;obtain ⟨c1,hc1⟩:=iT.1 hd;obtain ⟨i,cs,rfl,h2,rfl⟩:=bu cD hc1;exact h.ownb p' k b i z p2 h1 (by rw [h2];rfl)
 ·intro d off k hp;obtain ⟨q,e,h2⟩:=eO cD hp;cases q with
  |b i o=>
   simp only [Pl.mp,Pl.b.injEq] at e;obtain ⟨rfl,rfl⟩:=e;obtain ⟨h3,h4⟩:=h.pmb i _ k h2;refine ⟨?_,h4⟩;rw [Dy cD];simpa using h3
  |s t=>cases e
  |t t i=>cases e

def TO (v u:AV):Prop:=v=u∨nz v=u
def MP (v u:List AV):Prop:=v=u∨JI v=u
def Pq (d:Nat) (σ:St) (i:Id) (cs:List AV):Prop:=match aw σ.bx (i.inn d) with
 |some c=>MP c (bp (Id.inn d) cs)
 |none=>False
def vj (d:Nat) (rs:List AR) (ob:List (Id×List AV)) (σ:St):Pl×Nat→Prop
 |(.s t,k)=>t=0∧(match rs with |[.t s]=>aD σ.pm (.s s)=some k∨lk σ.e s= .nils|_=>False)
 |(.t t i,k)=>t=0∧2≤rs.length∧(match rs[i]? with |some (.t s)=>aD σ.pm (.s s)=some k∨lk σ.e s= .nils|_=>False)
 |(.b i o,k)=>(aw ob i).isSome=true∧(aD σ.pm (.b (i.inn d) o)=some k∨kQ σ (.b (i.inn d) o))
def lh:List AR→Prop
 |[]=>True
 | .t s::r=>(∀x∈r,x≠ .t s)∧lh r
 |_::r=>lh r
structure iY (d:Nat) (rs:List AR) (O:cK) (σ:St):Prop where
 r:match gr σ rs with |some vs=>TO (uw vs) (O.r.mp (Id.inn d))|none=>False
 ids: ∀i∈O.r.ids,y8 d O.bx i
 bx: ∀p∈O.bx,(p.1.inn d).isIt=false∧Pq d σ p.1 p.2
 bi: ∀p∈O.bx,∀i∈ba p.2,y8 d O.bx i
 pm: ∀p∈O.pm,vj d rs O.bx σ p
 nd:O.pm=[]∨lh rs
inductive nU:St→St→Prop
 |z (σ:St):nU σ σ
 |s {σ τ:St} (s:Nat) (b:Id) (n sz:Nat) (rows:List (List AV)):Dj σ s b n sz rows→sz<KB→nU (iC σ s b sz rows) τ→nU σ τ
 |t {σ τ:St} (s:Nat) (b:Id) (n sz:Nat) (rows:List (List AV)) (tl:List AV):kS σ s b n sz rows tl→sz<KB→nU (iC σ s b sz rows) τ→nU σ τ
def cZ (d:Nat) (rs:List AR) (O:cK):AE→St→Prop
 | .x _,_=>False
 |_,σ=> ∃τ,nU σ τ∧iY d rs O τ
theorem aI.frzs {σ τ:St} (hf:nU σ τ): ∀ {S:aM} {gb:Gb},aI F S gb σ a w→ ∃S' gb',aI F S' gb' τ a w:=by
 induction hf with
 |z σ=>intro S gb h;exact ⟨S,gb,h⟩
 |s s b n sz rows h1 hk h2 ih=>
  intro S gb h;obtain ⟨S',gb',h3⟩:=h.freezeP h1.two hk;exact ih h3
 |t s b n sz rows tl h1 hk h2 ih=>
  intro S gb h;obtain ⟨S',gb',h3⟩:=h.freezeP h1 hk;exact ih h3
theorem zb: ∀ {rs:List AR},lh rs→ ∀ {i j s:Nat},rs[i]?=some (.t s)→rs[j]?=some (.t s)→i=j
 |[],_,i,j,s,h,_=>by simp at h
 |x::r,ho,i,j,s,hi,hj=>by
  have hr:lh r:=by cases x<;>simp only [lh] at ho<;>first|exact ho.2|exact ho
  cases i with
  |zero=>
   cases j with
   |zero=>rfl
   |succ j=>
    simp at hi hj;subst hi;simp only [lh] at ho;exact absurd rfl (ho.1 _ (List.mem_of_getElem? hj))
  |succ i=>
   cases j with
   |zero=>
    simp at hi hj;subst hj;simp only [lh] at ho;exact absurd rfl (ho.1 _ (List.mem_of_getElem? hi))
   |succ j=>
    simp at hi hj;rw [zb hr hi hj]

theorem aI.out (h:aI F S gb σ a w) {d:Nat} {rs:List AR} {O:cK} (ho:iY d rs O σ) {vs:List AV} (hv:gr σ rs=some vs) {us:List Value} (hu:aa S gb vs us) (hs: ∀(i s:Nat),rs[i]?=some (AR.t s)→us[i]?=some (tv a s)) (hl:rs.length=us.length):
  let v:=if h:us.toArray.size=1 then us.toArray[0] else .tuple us.toArray
  PR S (cY d gb O.bx) O.r v∧HR S (cY d gb O.bx) O.bx O.pm (fun _=>v) w∧(∀i g z,(aw O.bx i).isSome→cY d gb O.bx i=some (g,z)→F.w0.heap.size≤g∨F.M g)∧
   (∀p k g,aD O.pm p=some k→(cf (cY d gb O.bx) (fun _=>v) w p).ownBlock=some g→F.w0.heap.size≤g∨F.M g):=by
 intro v;have hval: ∀i,(aw O.bx i).isSome=true→cY d gb O.bx i=gb (i.inn d):=fun i hi=>fi (fun _=>hi)
 have hbox: ∀i cs,aw O.bx i=some cs→ ∃c,aw σ.bx (i.inn d)=some c∧MP c (bp (Id.inn d) cs)∧(i.inn d).isIt=false∧(∀j∈ba cs,y8 d O.bx j):=by
  intro i cs hcs;have hm:=cM _ _ _ hcs;obtain ⟨h1,h2⟩:=ho.bx _ hm;simp only [Pq] at h2;split at h2
  ·rename_i c hc;exact ⟨c,hc,h2,h1,ho.bi _ hm⟩
  ·cases h2
 have hsome: ∀i,(aw O.bx i).isSome=true→(aw σ.bx (i.inn d)).isSome=true:=by
  intro i hi;obtain ⟨cs,hcs⟩:=iT.1 hi;obtain ⟨c,hc,_⟩:=hbox i cs hcs;rw [hc];rfl
 have hpl: ∀p k,aD O.pm p=some k→(∃q,aD σ.pm q=some k∧cf (cY d gb O.bx) (fun _=>v) w p=cf gb (tv a) w q∧
   ((p= .s 0∧ ∃s,q= .s s∧rs=[.t s])∨(∃i s,p= .t 0 i∧q= .s s∧rs[i]?=some (.t s)∧2≤rs.length)∨(∃i o,p= .b i o∧q= .b (i.inn d) o∧(aw O.bx i).isSome=true)))∨
   (cf (cY d gb O.bx) (fun _=>v) w p= .slice none 0 0∧ ∀i o,p= .b i o→(aw O.bx i).isSome=true):=by
  intro p k hp;have hm:=ho.pm _ (eJ _ _ _ hp);cases p with
  |s t=>
   simp only [vj] at hm;obtain ⟨rfl,hm⟩:=hm;split at hm
   ·rename_i s;have h1:=hs 0 s rfl;have h2:us.length=1:=by rw [←hl];rfl
    have hvv:v=tv a s:=by
     simp only [v];rw [dif_pos (by simpa using h2)];rw [qI] at h1;obtain ⟨_,h1⟩:=h1;simpa using h1
    rcases hm with hm|hm
    ·exact .inl ⟨.s s,hm,by simp only [cf,hvv],.inl ⟨rfl,s,rfl,rfl⟩⟩
    ·right;refine ⟨?_,fun i o he=>by cases he⟩
     have:=h.env s
     rw [hm] at this;simp only [cf,hvv];simpa [PR] using this
   ·cases hm
  |t t i=>
   simp only [vj] at hm;obtain ⟨rfl,h2,hm⟩:=hm;split at hm
   ·rename_i s hi;have h1:=hs i s hi;have hvv:v= .tuple us.toArray:=by
     simp only [v];rw [dif_neg];simp;omega
    have hg:us.toArray.getD i undef=tv a s:=by
     rw [mK];simp [h1]
    rcases hm with hm|hm
    ·exact .inl ⟨.s s,hm,by simp only [cf,hvv];exact hg,.inr (.inl ⟨i,s,rfl,rfl,hi,h2⟩)⟩
    ·right;refine ⟨?_,fun i o he=>by cases he⟩
     have:=h.env s
     rw [hm] at this;simp only [cf,hvv];rw [hg];simpa [PR] using this
   ·cases hm
  |b i o=>
   simp only [vj] at hm;obtain ⟨h1,hm⟩:=hm;have he:cf (cY d gb O.bx) (fun _=>v) w (.b i o)=cf gb (tv a) w (.b (i.inn d) o):=by simp only [cf,hval i h1]
   rcases hm with hm|hm
   ·exact .inl ⟨_,hm,he,.inr (.inr ⟨i,o,rfl,rfl,h1⟩)⟩
   ·right;refine ⟨?_,fun i' o' e=>by cases e;exact h1⟩;rw [he];obtain ⟨cs,hcs⟩:=iT.1 h1;obtain ⟨_,_,_,h3,_⟩:=hbox i cs hcs;exact o7 h hm (fun d' off e=>by cases e;exact h3)
 refine ⟨?_,⟨h.hr.agree,?_,?_,?_,?_,?_,?_,?_⟩,?_,?_⟩
 ·have h1:=Bq hu;have h2:=ho.r;rw [hv] at h2;refine Bz _ _ ho.ids ?_;rcases h2 with h2|h2
  ·rw [←h2];exact h1
  ·rw [←h2];exact LQ _ _ h1
 ·intro i cs hcs hi;obtain ⟨c,hc,hw,h3,h4⟩:=hbox i cs hcs;obtain ⟨g,us',T,e1,e3,e0,e4,e5,e6⟩:=h.hr.box _ c hc h3;have hlen:c.length=cs.length:=by
   rcases hw with hw|hw
   ·rw [hw,gz]
   ·rw [←sg,hw,gz]
  refine ⟨g,us',T,by rw [hval i (by rw [hcs];rfl)];exact e1,e3,by omega,iI _ _ h4 ?_,e5,e6⟩;rw [←hlen];rcases hw with hw|hw
  ·rw [←hw];exact e4
  ·rw [←hw];exact jE _ _ e4
 ·intro i cs hcs hi;obtain ⟨c,hc,hw,h3,h4⟩:=hbox i cs hcs;rw [BA hi] at h3;cases h3
 ·intro i j g z z' i1 i2 q1 q2;rw [hval i i1] at q1;rw [hval j i2] at q2;exact Dx (h.hr.inj _ _ g z z' (hsome i i1) (hsome j i2) q1 q2)
 ·intro p k hp;rcases hpl p k hp with ⟨q,q1,q2,_⟩|⟨q1,_⟩
  ·rw [q2];exact h.hr.own q k q1
  ·rw [q1];exact .inl rfl
 ·intro p q k l b hp hq hb1 hb2;have hne:O.pm≠[]:=fun e=>by rw [e] at hp;simp [aD] at hp
  have hnd:lh rs:=by
   rcases ho.nd with h1|h1
   ·exact absurd h1 hne
   ·exact h1
  rcases hpl p k hp with ⟨p',p1,p2,p3⟩|⟨p1,_⟩
  ·rcases hpl q l hq with ⟨q',q1,q2,q3⟩|⟨q1,_⟩
   ·rw [p2] at hb1;rw [q2] at hb2;have e:=h.hr.ownd p' q' k l b p1 q1 hb1 hb2;subst e;rcases p3 with ⟨rfl,s,rfl,hr1⟩|⟨i,s,rfl,rfl,hr1,hr2⟩|⟨i,o,rfl,rfl,_⟩
    ·rcases q3 with ⟨rfl,_⟩|⟨j,s',rfl,e2,_,hr3⟩|⟨j,o',rfl,e2,_⟩
     ·rfl
     ·rw [hr1] at hr3;simp at hr3
     ·cases e2
    ·rcases q3 with ⟨rfl,s',e2,hr3⟩|⟨j,s',rfl,e2,hr3,_⟩|⟨j,o',rfl,e2,_⟩
     ·rw [hr3] at hr2;simp at hr2
     ·cases e2;rw [zb hnd hr1 hr3]
     ·cases e2
    ·rcases q3 with ⟨rfl,s',e2,hr3⟩|⟨j,s',rfl,e2,hr3,_⟩|⟨j,o',rfl,e2,_⟩
     ·cases e2
     ·cases e2
     ·simp only [Pl.b.injEq] at e2;rw [Dx e2.1,e2.2]
   ·rw [q1] at hb2;simp [Value.ownBlock] at hb2
  ·rw [p1] at hb1;simp [Value.ownBlock] at hb1
 ·intro p k b i z hp hb hi;rcases hpl p k hp with ⟨q,q1,q2,_⟩|⟨q1,_⟩
  ·rw [q2] at hb;rw [hval i hi];exact h.hr.ownb q k b _ z q1 hb (hsome i hi)
  ·rw [q1] at hb;simp [Value.ownBlock] at hb
 ·intro i o k hp;have hi:(aw O.bx i).isSome=true:=by
   rcases hpl _ k hp with ⟨q,q1,q2,q3⟩|⟨_,q1⟩
   ·rcases q3 with ⟨e,_⟩|⟨_,_,e,_⟩|⟨i',o',e,_,h1⟩
    ·cases e
    ·cases e
    ·cases e;exact h1
   ·exact q1 i o rfl
  refine ⟨hi,?_⟩;obtain ⟨cs,hcs⟩:=iT.1 hi;obtain ⟨_,_,_,h3,_⟩:=hbox i cs hcs;cases hit:i.isIt with
  |false=>rfl
  |true=>rw [BA hit] at h3;cases h3
 ·intro i g z hi hq;rw [hval i hi] at hq;exact h.newb _ g z (hsome i hi) hq
 ·intro p k g hp hg;rcases hpl p k hp with ⟨q,q1,q2,_⟩|⟨q1,_⟩
  ·rw [q2] at hg;exact h.newo q k g q1 hg
  ·rw [q1] at hg;simp [Value.ownBlock] at hg

theorem fA: ∀ {rs:List AR} {qs:List ResultVar} {σ:St} {vs:List AV},gr σ rs=some vs→vs.length=rs.length
 |[],qs,σ,vs,h=>by simp only [gr,cC] at h;subst h;rfl
 | .t s::r,qs,σ,vs,h=>by
  simp only [gr] at h;split at h
  ·rename_i vs' hv;simp only [cC] at h;subst h;simp only [em,fA (qs:=qs) hv]
  ·cases h
 | .cs s::r,qs,σ,vs,h=>by
  simp only [gr] at h;split at h
  ·rename_i v vs' _ hv;simp only [cC] at h;subst h;simp only [em,fA (qs:=qs) hv]
  ·cases h
 | .ca s n::r,qs,σ,vs,h=>by
  simp only [gr] at h;split at h
  ·rename_i v vs' _ hv;simp only [cC] at h;subst h;simp only [em,fA (qs:=qs) hv]
  ·cases h

theorem BB {GL:List (Nat×List Value)} {dr:Array Oper→List (List Nat)→List bz→Bool} {f:Nat} {fn:Func} {af:AF} (hf:P.funcs[f]?=some fn) (hm:mF P GL dr fn af=true) (hd:bK P GL af.N dr) {d:Nat} {I:In} {O:cK} (hl:I.vs.length=af.np)
  (hw:dG (bc P GL) af.c (cZ d af.rs O) (aF I)):bc P GL f d I O:=by
 simp only [mF,aE,bne_iff_ne,bP] at hm;obtain ⟨⟨⟨⟨⟨h1,h2⟩,h3⟩,h4⟩,h5⟩,h6⟩:=hm;split at h6<;>(try cases h6);rename_i c hb;have h4:=Nat.le_of_ble_eq_true h4;intro S gb w vs hvs hhr hglo hnw;have hlen:vs.length=I.vs.length:=hvs.length.symm;unfold k9;have hcall:(callFunc f vs.toArray).run P w= .ok (.enter f vs.toArray) w:=by
  simp [callFunc,hf,hb,h1]
 rw [hcall];refine calls_of_wp hf hb ?_
 let F:Fr:=⟨S,w,MS I gb (fun t=>vs.getD t undef) w,gb,af.N,GL,[]⟩
 have hsv:tv {tmps:=vs.toArray++Array.replicate (fn.ntmps - vs.toArray.size) undef,defers:=[]}=fun t=>vs.getD t undef:=by
  funext t;exact dQ
 have hup:=hhr.up;have hrel:aI F S (eB gb) (aF I) {tmps:=vs.toArray++Array.replicate (fn.ntmps - vs.toArray.size) undef,defers:=[]} w:=by
  refine ⟨rfl,?_,Bw.refl _ _,fun _ _ _ _=>rfl,aM.le.refl _,?_,by rw [hsv];exact hup,?_,?_,?_,fun d=>rfl,hglo⟩
  ·show (vs.toArray++Array.replicate (fn.ntmps - vs.toArray.size) undef).size=af.N;simp;omega
  ·intro t
   have:=(fU (dA _ _ hvs) 0 t).2 t (by omega)
   rw [dQ];exact this
  ·intro i g z hi hq;obtain ⟨c1,hc1⟩:=iT.1 hi;obtain ⟨j,cs,rfl,hj,_⟩:=bu cD hc1;exact .inr (.inl ⟨j,z,by rw [hj];rfl,hq⟩)
  ·intro p k g hp hg;obtain ⟨q,rfl,hq⟩:=eO cD hp;rw [hsv,j9] at hg;exact .inr (.inr ⟨q,k,hq,hg⟩)
  ·intro i hi;cases i<;>simp [eB,Id.isUp] at hi ⊢
 refine eA (F:=F) hd h6 (Q:=cZ d af.rs O) ?_ hrel hw;intro e S0' gb0' σ0 a' w' hr0 hq0;have fin: ∀σ0,aI F S0' gb0' σ0 a' w'→(∃τ,nU σ0 τ∧iY d af.rs O τ)→a'.defers=[]∧ ∃v,(results fn a'.tmps).run P w'= .ok v w'∧(∃u,Ending.returned v= .returned u∧ ∃S'' gb'',dH d I O S gb (fun t=>vs.getD t undef) w S'' gb'' u w'):=by
  rintro σ0 hr0 ⟨τ,hfz,hok⟩;obtain ⟨S',gb',hr⟩:=hr0.frzs hfz;refine ⟨hr.defers,?_⟩;have hr':=hok.r;split at hr'
  ·rename_i vs' hv;obtain ⟨us,hrun,g2,g3⟩:=j8 (P:=P) hr h5 hv;obtain ⟨o1,o2,o3,o4⟩:=hr.out hok hv g2 g3 (by rw [←g2.length];exact (fA (qs:=[]) hv).symm);refine ⟨_,hrun,_,rfl,S',cY d gb' O.bx,hr.bw,hr.ext,hr.le,?_,?_,o1,o2,o3,o4⟩
   ·intro i hi
    have:cY d gb' O.bx i=gb' (i.inn d):=fi (fun e=>by rw [hi] at e;cases e)
    rw [this,aV hi];exact hr.up i
   ·intro i hi hne;simp only [cY] at hne;split at hne
    ·exact absurd rfl hne
    ·rename_i hno;cases hs:(aw O.bx i).isSome with
     |true=>rfl
     |false=>exact absurd ⟨hi,hs⟩ hno
  ·cases hr'
 cases e
 ·exact fin _ hr0 hq0
 ·exact hq0.elim
 ·exact fin _ hr0 hq0
theorem Ke {P:Program} {GL:List (Nat×List Value)} {dr:Array Oper→List (List Nat)→List bz→Bool} {f:Nat} {fn:Func} {af:AF} (hf:P.funcs[f]?=some fn) (hm:mF P GL dr fn af=true) (hd:bK P GL af.N dr) {d:Nat} {I:In} {O:cK} (hl:I.vs.length=af.np)
  (hw:dG (cB P GL) af.c (cZ d af.rs O) (aF I)):cB P GL f d I O:=by
 rw [fy] at hw ⊢;exact BB hf hm hd hl hw

def Oj (S:Nat→Nat→In→cK→Prop) (f d:Nat) (xs:List X) (K:St→Prop) (σ:St):Prop:=MC S f d xs K σ
@[simp] theorem TQ {S:Nat→Nat→In→cK→Prop} {d f xs} {K:St→Prop} {σ:St}:bD S (.ce d f xs) K σ=Oj S f d xs K σ:=by rw [bD];rfl
def TU (S:Nat→Nat→In→cK→Prop) (d:Nat) (xs:List X) (K:St→Prop) (σ:St):AV→Prop
 | .fn f caps=>Oj S f d (xs++caps.map X.c) K σ
 |_=>False
@[simp] theorem TW {S:Nat→Nat→In→cK→Prop} {d x xs} {K:St→Prop} {σ:St}:bD S (.cd d x xs) K σ=TU S d xs K σ (σ.v x):=by
 rw [bD];unfold TU Oj;cases σ.v x<;>rfl
@[simp] theorem TX {S:Nat→Nat→In→cK→Prop} {d xs f caps} {K:St→Prop} {σ:St}:TU S d xs K σ (.fn f caps)=Oj S f d (xs++caps.map X.c) K σ:=rfl
theorem aQ {P:Program} {GL:List (Nat×List Value)} {K:St→Prop} {σ:St} {f d:Nat} {xs:List X} (I:In) (O:cK) (h:cB P GL f d I O) (hc:dt d σ xs I O) (hk:K (bm d σ xs I O)):Oj (cB P GL) f d xs K σ:=⟨I,O,h,hc,hk⟩
theorem ka {P:Program} {GL:List (Nat×List Value)} {K:St→Prop} {σ:St} {f d:Nat} {xs:List X} {fr:List Nat} (I:In) (O:cK) (h:cB P GL f d I O) (hc:dt d σ xs I O) (hq:JT fr I O) (hk:K (bm d σ xs I O)) (hn:fr.contains d=false:=by decide):U3 (cB P GL) f d xs fr K σ:=⟨I,O,h,hc,⟨hq,hn⟩,hk⟩
theorem ij {d:Nat} {rs:List AR} {O:cK} {σ:St} (h:iY d rs O σ):cZ d rs O .n σ:=⟨σ,.z σ,h⟩
theorem Kf {d:Nat} {rs:List AR} {O:cK} {σ:St} (h:iY d rs O σ):cZ d rs O .r σ:=⟨σ,.z σ,h⟩
theorem am {d:Nat} {rs:List AR} {O:cK} {σ:St} (a:match gr σ rs with |some vs=>TO (uw vs) (O.r.mp (Id.inn d)) |none=>False) (b: ∀i∈O.r.ids,y8 d O.bx i) (c: ∀p∈O.bx,(p.1.inn d).isIt=false∧Pq d σ p.1 p.2) (e: ∀p∈O.bx, ∀i∈ba p.2,y8 d O.bx i) (g: ∀p∈O.pm,vj d rs O.bx σ p) (h:O.pm=[]∨lh rs):cZ d rs O .r σ:=Kf ⟨a,b,c,e,g,h⟩
theorem aB {P:Program} {GL:List (Nat×List Value)} {K:St→Prop} {σ:St} {f d:Nat} {xs:List X} (I:In) (O:cK) (h:cB P GL f d I O) (hk:K (bm d σ xs I O)) (hc:dt d σ xs I O:=by constructor<;>simp):Oj (cB P GL) f d xs K σ:=aQ I O h hc hk
@[simp] theorem TY {d i}:(Id.up i).inn d= .up (.up i):=rfl
@[simp] theorem U5 {d k}:(Id.n k).inn d= .up (.n k):=rfl
@[simp] theorem T4 {d i k}:(Id.ix i k).inn d= .up (.ix i k):=rfl
@[simp] theorem Qv {d k}:(Id.it k).inn d= .up (.it k):=rfl
@[simp] theorem T7 {d d' i}:(Id.nw d' i).inn d=if d'=d∧i.isUp=false then i else .up (.nw d' i):=rfl
@[simp] theorem U6 {d i}:(Id.up i).isNw d=false:=rfl
@[simp] theorem V7 {d k}:(Id.n k).isNw d=false:=rfl
@[simp] theorem U7 {d i k}:(Id.ix i k).isNw d=false:=rfl
@[simp] theorem T8 {d k}:(Id.it k).isNw d=false:=rfl
@[simp] theorem U8 {d d' i}:(Id.nw d' i).isNw d=(d'==d&&!i.isUp):=rfl
attribute [simp] AV.mp bp bV b7 Pl.mp aF nz JI jw kJ jf kK bm um kB vj Pq TO MP y8 lh fT iC St.puto
theorem cB.noPm {P:Program} {GL:List (Nat×List Value)} {f d:Nat} {I:In} {r:AV} {bx:List (Id×List AV)} {pm:List (Pl×Nat)} (h:cB P GL f d I ⟨r,bx,pm⟩):cB P GL f d I ⟨r,bx,[]⟩:=by
 rw [fy] at h ⊢;intro S gb w vs hvs hhr hglo hnw
 have:=h S gb w vs hvs hhr hglo hnw
 have hm: ∀v w',(∃S' gb',dH d I ⟨r,bx,pm⟩ S gb (fun t=>vs.getD t undef) w S' gb' v w')→ ∃S' gb',dH d I ⟨r,bx,[]⟩ S gb (fun t=>vs.getD t undef) w S' gb' v w':=by
  rintro v w' ⟨S',gb',q⟩;refine ⟨S',gb',q.bw,q.ext,q.le,q.same,q.nw,q.r,⟨q.hr.agree,q.hr.box,q.hr.its,q.hr.inj,?_,?_,?_,?_⟩,q.newb,?_⟩
  ·intro p k hk;simp [aD] at hk
  ·intro p q k l b hk;simp [aD] at hk
  ·intro p k b d z hk;simp [aD] at hk
  ·intro d off k hk;simp [aD] at hk
  ·intro p k g hk;simp [aD] at hk
 unfold k9 at this ⊢;split at this
 ·exact hm _ _ this
 ·exact this.mono (fun e w' ⟨v,h1,h2⟩=>⟨v,h1,hm _ _ h2⟩)
 ·exact this
theorem Sp.of_h {P:Program} {GL:List (Nat×List Value)} {f:Nat} {l:List AV} {r:AV} (h: ∀d,cB P GL f d ⟨l,[],[]⟩ ⟨r,[],[]⟩):Sp P GL f l r:=by unfold Sp;exact h
theorem Sp.h {P:Program} {GL:List (Nat×List Value)} {f d:Nat} {l:List AV} {r:AV} (h:Sp P GL f l r):cB P GL f d ⟨l,[],[]⟩ ⟨r,[],[]⟩:=by unfold Sp at h;exact h d
end Go.Ai
namespace Go.Ai
open Go.RowKit
variable {P:Program} {F:Fr} {S:aM} {gb:Gb} {σ:St} {a:Act} {w:World}

abbrev kd (v:Value):List PanicEntry:=[{v,recovered:=false}]
def G5 (P:Program) (f:FuncId) (vs:Array Value) (w:World) (R:Value→World→Prop):Prop:=
 match (callFunc f vs).run P w with
 | .ok (.enter f' as') w'=>Calls P f' as' w' fun e w''=> ∃v,e= .panicked (kd v)∧R v w''
 |_=>False
def fW (P:Program) (GL:List (Nat×List Value)) (f d:Nat) (I:In) (O:cK):Prop:=
 ∀(S:aM) (gb:Gb) (w:World) (vs:List Value),aa S gb I.vs vs→HR S gb I.bx I.pm (fun t=>vs.getD t undef) w→
  (∀i us,GL.lookup i=some us→ ∀(o:Nat) (u:Value),us[o]?=some u→S i o=some u∧u.oneCell'=true)→(∀i,i.isNw d=true→gb i=none)→
  G5 P f vs.toArray w fun v w'=> ∃S' gb',dH d I O S gb (fun t=>vs.getD t undef) w S' gb' v w'

inductive AP where
 |ce (d f:Nat) (xs:List X)
 |cd (d:Nat) (x:X) (xs:List X)
 |pn (d:Nat) (x:X)
inductive wJ where
 |c (a:AC)
 |rp (l:List bz) (o:AP) (l':List bz)
 |sq (a b:wJ)
 |cd (x:X) (a b:wJ)
 |bl (i:Nat) (a:wJ)
 |lp (a:wJ)
 |sc (a:wJ)

section
variable (S:Nat→Nat→In→cK→Prop) (SP:Nat→Nat→In→cK→Prop) (R:AV→St→Prop)
def Dz (d:Nat) (σ:St) (xs:List X) (I:In) (O:cK):St:=⟨(d,.undef)::(bm d σ xs I O).e,(bm d σ xs I O).bx,gU (bm d σ xs I O).pm d⟩
def Kg (f d:Nat) (xs:List X) (σ:St):Prop:= ∃I O,SP f d I O∧dt d σ xs I O∧O.r.ids=[]∧R O.r (Dz d σ xs I O)
def BC:AP→(St→Prop)→St→Prop
 | .ce d f xs,K,σ=>MC S f d xs K σ∨Kg SP R f d xs σ
 | .cd d x xs,K,σ=>match σ.v x with
  | .fn f caps=>MC S f d (xs++caps.map X.c) K σ∨Kg SP R f d (xs++caps.map X.c) σ
  |_=>False
 | .pn _ x,_,σ=>match σ.v x with
  | .ifc T v=>v.ids=[]∧R (.ifc T v) σ
  |_=>False
def cN:wJ→(AE→St→Prop)→St→Prop
 | .c a,Q,σ=>dG S a Q σ
 | .rp l o l',Q,σ=>mm S l (BC S SP R o (mm S l' (Q .n))) σ
 | .sq a b,Q,σ=>cN a (AE.sq (cN b Q) Q) σ
 | .cd x a b,Q,σ=>match σ.v x with
  | .bool t=>if t=true then cN a Q σ else cN b Q σ
  |_=>False
 | .bl i a,Q,σ=>cN a (AE.bl i Q) σ
 | .lp a,Q,σ=> ∃n,Dk (cN a) Q n σ
 | .sc a,Q,σ=>cN a Q σ
end
theorem sj {S:Nat→Nat→In→cK→Prop}: ∀ {c:AC} {Q Q':AE→St→Prop} {σ:St},(∀e σ,Q e σ→Q' e σ)→dG S c Q σ→dG S c Q' σ:=by
 intro c;have m1: ∀ {o:bz} {K K':St→Prop} {σ:St},(∀σ,K σ→K' σ)→bD S o K σ→bD S o K' σ:=fun hk h=>se hk h
 have mL: ∀ {l:List bz} {K K':St→Prop} {σ:St},(∀σ,K σ→K' σ)→mm S l K σ→mm S l K' σ:=by
  intro l;induction l with
  |nil=>intro K K' σ hk h;exact hk _ h
  |cons o r ih=>intro K K' σ hk h;exact m1 (fun σ h=>ih hk h) h
 have mD: ∀ {us:List (List Nat)} {l:List bz} {j:Nat} {h:List (Nat×Bx)} {K K':St→Prop} {σ:St},(∀σ,K σ→K' σ)→kR S us l j h K σ→kR S us l j h K' σ:=by
  intro us;induction us with
  |nil=>intro l j h K K' σ hk hw;cases l with
   |nil=>exact hk _ hw
   |cons=>exact hw.elim
  |cons u us ih=>intro l j h K K' σ hk hw;cases l with
   |nil=>exact hw.elim
   |cons o r=>exact ⟨hw.1,m1 (fun σ h=>fS.2 ⟨(fS.1 h).1,ih hk (fS.1 h).2⟩) hw.2⟩
 have sqm: ∀ {B B':St→Prop} {Q Q':AE→St→Prop},(∀σ,B σ→B' σ)→(∀e σ,Q e σ→Q' e σ)→ ∀e σ,AE.sq B Q e σ→AE.sq B' Q' e σ:=by
  intro B B' Q Q' hb hq e σ h;cases e
  ·exact hb _ h
  ·exact hq _ _ h
  ·exact hq _ _ h
 induction c with
 |sk=>intro Q Q' σ hq h;exact hq _ _ h
 |rg l=>intro Q Q' σ hq h;exact mL (fun σ h=>hq _ _ h) h
 |rd us l=>intro Q Q' σ hq h;exact mD (fun σ h=>hq _ _ h) h
 |sq a b iha ihb=>intro Q Q' σ hq h;exact iha (sqm (fun σ h=>ihb hq h) hq) h
 |cd x a b iha ihb=>
  intro Q Q' σ hq h;unfold dG at h ⊢;split at h
  ·rename_i t ht;split at h
   ·rename_i e;rw [if_pos e];exact iha hq h
   ·rename_i e;rw [if_neg e];exact ihb hq h
  ·cases h
 |bl i a ih=>
  intro Q Q' σ hq h;refine ih (fun e σ h=>?_) h;cases e
  ·exact hq _ _ h
  ·rename_i j;unfold AE.bl at h ⊢;by_cases e:j=i
   ·simp only [if_pos e] at h ⊢;exact hq _ _ h
   ·simp only [if_neg e] at h ⊢;exact hq _ _ h
  ·exact hq _ _ h
 |lp a ih=>
  intro Q Q' σ hq h;obtain ⟨n,hn⟩:=h;refine ⟨n,?_⟩;induction n generalizing σ with
  |zero=>exact hn
  |succ n ihn=>
   obtain ⟨τ,hτ,hb⟩:=hn;exact ⟨τ,hτ,ih (sqm (fun σ h=>ihn h) hq) hb⟩
 |ex i=>intro Q Q' σ hq h;exact hq _ _ h
 |rt=>intro Q Q' σ hq h;exact hq _ _ h
 |sc a ih=>intro Q Q' σ hq h;exact ih hq h
 |lb=>intro Q Q' σ hq h;exact hq _ _ h
 |no=>intro Q Q' σ hq h;exact h
 |fz s l=>intro Q Q' σ hq h;obtain ⟨b,n,sz,rows,tl,q1,q2,q3⟩:=h;exact ⟨b,n,sz,rows,tl,q1,q2,mL (fun σ h=>hq _ _ h) q3⟩

theorem zc {S:Nat→Nat→In→cK→Prop}: ∀ {l:List bz} {K K':St→Prop} {σ:St},(∀σ,K σ→K' σ)→mm S l K σ→mm S l K' σ:=by
 intro l;induction l with
 |nil=>intro K K' σ hk h;exact hk _ h
 |cons o r ih=>intro K K' σ hk h;exact se (fun σ h=>ih hk h) h
theorem G6 {S SP:Nat→Nat→In→cK→Prop} {R:AV→St→Prop} {K K':St→Prop} (hk: ∀σ,K σ→K' σ): ∀ {o:AP} {σ:St},BC S SP R o K σ→BC S SP R o K' σ:=by
 intro o σ h;cases o with
 |ce d f xs=>
  rcases h with ⟨I,O,h1,h2,h3⟩|h
  ·exact .inl ⟨I,O,h1,h2,hk _ h3⟩
  ·exact .inr h
 |cd d x xs=>
  simp only [BC] at h ⊢;split at h
  ·rcases h with ⟨I,O,h1,h2,h3⟩|h
   ·exact .inl ⟨I,O,h1,h2,hk _ h3⟩
   ·exact .inr h
  ·cases h
 |pn d x=>exact h
theorem DA {B B':St→Prop} {Q Q':AE→St→Prop} (hb: ∀σ,B σ→B' σ) (hq: ∀e σ,Q e σ→Q' e σ): ∀e σ,AE.sq B Q e σ→AE.sq B' Q' e σ:=by
 intro e σ h;cases e
 ·exact hb _ h
 ·exact hq _ _ h
 ·exact hq _ _ h
theorem EZ {S SP:Nat→Nat→In→cK→Prop} {R:AV→St→Prop}: ∀ {c:wJ} {Q Q':AE→St→Prop} {σ:St},(∀e σ,Q e σ→Q' e σ)→cN S SP R c Q σ→cN S SP R c Q' σ:=by
 intro c;induction c with
 |c a=>intro Q Q' σ hq h;exact sj hq h
 |rp l o l'=>intro Q Q' σ hq h;exact zc (fun σ h=>G6 (fun σ h=>zc (fun σ h=>hq _ _ h) h) h) h
 |sq a b iha ihb=>intro Q Q' σ hq h;exact iha (DA (fun σ h=>ihb hq h) hq) h
 |cd x a b iha ihb=>
  intro Q Q' σ hq h;unfold cN at h ⊢;split at h
  ·rename_i t ht;split at h
   ·rename_i e;rw [if_pos e];exact iha hq h
   ·rename_i e;rw [if_neg e];exact ihb hq h
  ·cases h
 |bl i a ih=>
  intro Q Q' σ hq h;refine ih (fun e σ h=>?_) h;cases e
  ·exact hq _ _ h
  ·rename_i j;unfold AE.bl at h ⊢;by_cases e:j=i
   ·simp only [if_pos e] at h ⊢;exact hq _ _ h
   ·simp only [if_neg e] at h ⊢;exact hq _ _ h
  ·exact hq _ _ h
 |lp a ih=>
  intro Q Q' σ hq h;obtain ⟨n,hn⟩:=h;refine ⟨n,?_⟩;induction n generalizing σ with
  |zero=>exact hn
  |succ n ihn=>
   obtain ⟨τ,hτ,hb⟩:=hn;exact ⟨τ,hτ,ih (DA (fun σ h=>ihn h) hq) hb⟩
 |sc a ih=>intro Q Q' σ hq h;exact ih hq h
theorem MQ {S SP:Nat→Nat→In→cK→Prop} {R:AV→St→Prop} {α:Type} {c:wJ} {Q:AE→St→Prop} (st:α→St) (I:α→Prop) (μ:α→Nat)
  (step: ∀x,I x→cN S SP R c (AE.sq (Pp st I μ x) Q) (st x)) {σ:St} (x:α) (hx:I x) (hw:dL σ (st x)):cN S SP R (.lp c) Q σ:=by
 have key: ∀n x,μ x<n→I x→ ∀σ,uR σ (st x)→Dk (cN S SP R c) Q n σ:=by
  intro n;induction n with
  |zero=>intro x h;omega
  |succ n ih=>
   intro x hn hx σ hw;refine ⟨st x,hw,EZ ?_ (step x hx)⟩;intro e σ' h;cases e
   ·obtain ⟨y,hy,hlt,hwy⟩:=h;exact ih y (by omega) hy σ' hwy
   ·exact h
   ·exact h
 exact ⟨μ x+1,key _ x (by omega) hx σ (.inl hw)⟩
theorem DB {S SP:Nat→Nat→In→cK→Prop} {R:AV→St→Prop} {α:Type} {c:wJ} {Q:AE→St→Prop} (st:α→St) (I:α→Prop) (μ:α→Nat)
  (step: ∀(K:St→Prop) (x:α),(∀(y:α) (σ':St),I y→μ y<μ x→dL σ' (st y)→K σ')→I x→cN S SP R c (AE.sq K Q) (st x)) {σ:St} (x:α) (hx:I x) (hw:dL σ (st x)):cN S SP R (.lp c) Q σ:=
 MQ st I μ (fun x hx=>step (Pp st I μ x) x (fun y σ' h1 h2 h3=>sd y h1 h2 h3) hx) x hx hw

def Ps (P:Program) (GL:List (Nat×List Value)) (N:Nat) (o:Oper):AP→Bool
 | .ce d f xs=>o.guard.isNone&&dM P GL N o (.ce d f xs)
 | .cd d x xs=>o.guard.isNone&&dM P GL N o (.cd d x xs)
 | .pn _ x=>o.guard.isNone&&(match o.op with | .panic y=>mX GL x y|_=>false)
def MR (P:Program) (GL:List (Nat×List Value)) (N:Nat) (ops:Array Oper) (os:List Oper) (l:List bz) (p:AP) (l':List bz):Bool:=match os.drop l.length with
 |o::r=>lM P GL N ops (os.take l.length) l&&Ps P GL N o p&&lM P GL N ops r l'
 |[]=>false
def qd (P:Program) (GL:List (Nat×List Value)) (N:Nat) (dr:Array Oper→List (List Nat)→List bz→Bool):Code→wJ→Bool
 |c,.c a=>mC P GL N dr c a
 | .region _ ops false,.rp l o l'=>MR P GL N ops ops.toList l o l'
 | .seq x y,.sq x' y'=>qd P GL N dr x x'&&qd P GL N dr y y'
 | .cond c x y,.cd c' x' y'=>mX GL c' c&&qd P GL N dr x x'&&qd P GL N dr y y'
 | .block i x,.bl j x'=>i==j&&qd P GL N dr x x'
 | .loop x,.lp x'=>qd P GL N dr x x'
 | .scope x,.sc x'=>qd P GL N dr x x'
 |_,_=>false
theorem aI.unput {e:List (Nat×AV)} {bx:List (Id×List AV)} {pm:List (Pl×Nat)} {d:Nat} {u:Value} (hd:d<F.N) (h:aI F S gb ⟨e,bx,pm⟩ (a.put (some d) u) w):aI F S gb ⟨(d,.undef)::e,bx,gU pm d⟩ a w:=by
 have hs:a.tmps.size=F.N:=by have:=h.size;simpa [Act.put] using this
 have hd':d<a.tmps.size:=by rw [hs];exact hd
 have hat: ∀p k,aD (gU pm d) p=some k→p.at d=false∧aD pm p=some k:=by
  intro p k hk;rw [jW] at hk;split at hk
  ·cases hk
  ·rename_i hne;exact ⟨by simpa using hne,hk⟩
 refine ⟨h.defers,hs,h.bw,h.ext,h.le,?_,⟨h.hr.agree,h.hr.box,h.hr.its,h.hr.inj,?_,?_,?_,?_⟩,h.newb,?_,h.dom,h.up,h.glo⟩
 ·intro t;simp only [lk];split
  ·simp [PR]
  ·rename_i ne
   have:=h.env t
   rwa [iD hd',if_neg ne] at this
 ·intro p k hk;obtain ⟨h1,h2⟩:=hat p k hk
  have:=h.hr.own p k h2
  rwa [cL hd' h1] at this
 ·intro p q k l b hk hl h1 h2;obtain ⟨p1,p2⟩:=hat p k hk;obtain ⟨q1,q2⟩:=hat q l hl;rw [←cL (u:=u) hd' p1] at h1;rw [←cL (u:=u) hd' q1] at h2;exact h.hr.ownd p q k l b p2 q2 h1 h2
 ·intro p k b d' z hk h1;obtain ⟨p1,p2⟩:=hat p k hk;rw [←cL (u:=u) hd' p1] at h1;exact h.hr.ownb p k b d' z p2 h1
 ·intro e off k hk;exact h.hr.pmb e off k (hat _ k hk).2
 ·intro p k g hk hg;obtain ⟨p1,p2⟩:=hat p k hk;rw [←cL (u:=u) hd' p1] at hg;exact h.newo p k g p2 hg
theorem qe (h:aI F S gb σ a w) {o:Oper} {d f:Nat} (h2:d<F.N) (h1:o.dst=some d) {xs:List X} {vs:List Value} (hl:aa S gb (xs.map σ.v) vs) (hsl: ∀(i t:Nat),xs[i]?=some (X.s t)→vs[i]?=some (tv a t))
  (hrun:(execOp a.eval o).run P w=(callFunc f vs.toArray).run P w) {R:AV→St→Prop} (hw:Kg (fW P F.GL) R f d xs σ) {K':Act→World→Prop} {Q:Exit→Act→World→Prop}
  (hR: ∀v u S gb σ a w,aI F S gb σ a w→R v σ→PR S gb v u→v.ids=[]→Q (.panic (kd u)) a w):o.wp P a w K' Q:=by
 obtain ⟨I,O,hspec,hc,hi,hr⟩:=hw;have hent:=gn h hc hl hsl;have hvs:aa S gb I.vs vs:=o6 hc.vs hl;have hglo: ∀i us,F.GL.lookup i=some us→ ∀(o:Nat) (u:Value),us[o]?=some u→S i o=some u∧u.oneCell'=true:=fun i us hi o u hu=>⟨h.le _ _ _ (h.glo i us hi o u hu).1,(h.glo i us hi o u hu).2⟩
 have hgn: ∀i,i.isNw d=true→gb i=none:=by
  intro i hi;cases hg:gb i with
  |none=>rfl
  |some x=>
   rcases h.dom i (by rw [hg];simp) with h1|h1
   ·obtain ⟨cs,hcs⟩:=iT.1 h1
    have:=hc.free _ (cM _ _ _ hcs)
    simp only at this;rw [this] at hi;cases hi
   ·cases i<;>simp [Id.isUp,Id.isNw] at h1 hi
 have hd:=hspec S gb w vs hvs hent hglo hgn;unfold Oper.wp;rw [hrun];unfold G5 at hd;split at hd
 ·rename_i f' as' w' he;rw [he];simp only [Oper.upon_enter];refine hd.mono ?_;rintro e w'' ⟨u,rfl,S',gb',hp⟩;exact hR O.r u S' gb' _ a w'' ((h.call h2 hc hl hsl hp).unput h2) hr hp.r hi
 ·exact hd.elim
theorem E0 (h:aI F S gb σ a w) {o:Oper} {p:AP} (hm:Ps P F.GL F.N o p=true) {R:AV→St→Prop} {K:St→Prop} (hw:BC (bc P F.GL) (fW P F.GL) R p K σ) {K':Act→World→Prop} {Q:Exit→Act→World→Prop}
  (hK: ∀S gb σ a w,aI F S gb σ a w→K σ→K' a w) (hR: ∀v u S gb σ a w,aI F S gb σ a w→R v σ→PR S gb v u→v.ids=[]→Q (.panic (kd u)) a w):o.guard=none∧o.wp P a w K' Q:=by
 cases p with
 |ce d f xs=>
  simp only [Ps,aE,Option.isNone_iff_eq_none] at hm;refine ⟨hm.1,?_⟩;rcases hw with hw|hw
  ·exact lL h hm.2 (ao:= .ce d f xs) (K:=K) (by simpa only [bD] using hw) hK
  ·have hm:=hm.2;simp only [dM,aE,an] at hm;obtain ⟨⟨h1,h2⟩,hm⟩:=hm;split at hm<;>(try cases hm);rename_i f' as ts hop;simp only [aE,bP] at hm;obtain ⟨rfl,hxs⟩:=hm;refine qe h h2 h1 (dy h hxs) (fun i t hi=>iG hxs hi) ?_ hw hR;have harr:(List.map a.eval as.toList).toArray=as.map a.eval:=by
    apply Array.ext';simp
   rw [harr];unfold execOp;simp [hop,resolve,Act.eval,Deferred.ofValue,invoke]
 |cd d x xs=>
  simp only [Ps,aE,Option.isNone_iff_eq_none] at hm;refine ⟨hm.1,?_⟩;simp only [BC] at hw;split at hw
  ·rename_i f caps hv;rcases hw with hw|hw
   ·exact lL h hm.2 (ao:= .cd d x xs) (K:=K) (by simp only [bD,hv];exact hw) hK
   ·have hm:=hm.2;simp only [dM,aE,an] at hm;obtain ⟨⟨h1,h2⟩,hm⟩:=hm;split at hm<;>(try cases hm);rename_i f' as ts hop;simp only [aE] at hm;obtain ⟨hx,hxs⟩:=hm;have hx:=aq h hx;rw [hv] at hx;simp only [PR] at hx;obtain ⟨us,hx,hcaps⟩:=hx;have hl:=dy h hxs;have hall:aa S gb ((xs++caps.map X.c).map σ.v) (List.map a.eval as.toList++us.toList):=by
     rw [List.map_append];refine hl.append ?_
     have:(List.map σ.v (caps.map X.c))=caps:=by
      rw [List.map_map];exact (List.map_congr_left (fun c _=>rfl)).trans (List.map_id _)
     rw [this];exact hcaps
    have hlen:(List.map a.eval as.toList).length=xs.length:=by
     have:=hl.length
     simpa using this.symm
    refine qe h h2 h1 hall (fun i t hi=>?_) ?_ hw hR
    ·rw [List.getElem?_append] at hi;split at hi
     ·rename_i hlt;rw [List.getElem?_append_left (by omega)];exact iG hxs hi
     ·rw [xP] at hi;cases hq:caps[i - xs.length]? with
      |none=>rw [hq] at hi;cases hi
      |some c=>rw [hq] at hi;cases hi
    ·have harr:(List.map a.eval as.toList++us.toList).toArray=as.map a.eval++us:=by
      apply Array.ext';simp
     rw [harr];unfold execOp;simp [hop,resolve,hx,Deferred.ofValue,invoke]
  ·cases hw
 |pn d x=>
  simp only [Ps,aE,Option.isNone_iff_eq_none] at hm;obtain ⟨hg,hm⟩:=hm;refine ⟨hg,?_⟩;split at hm<;>(try cases hm);rename_i y hop;have hx:=aq h hm;simp only [BC] at hw;split at hw
  ·rename_i T v hv;obtain ⟨hi,hr⟩:=hw;rw [hv] at hx;have hx':=hx;simp only [PR] at hx;obtain ⟨u,hu,_⟩:=hx;unfold Oper.wp execOp;simp only [hop];rw [hu] at hx' ⊢;simp [Instr.panic,goPanic];exact hR _ _ S gb σ a w h hr hx' (by simpa [AV.ids] using hi)
  ·cases hw
theorem iJ {ops:Array Oper} {rest:List Oper} {K:St→Prop} {Q:Exit→Act→World→Prop} (hQ: ∀S gb σ a w,aI F S gb σ a w→K σ→wpList P ops Q rest a w):
  ∀ {l:List Oper} {al:List bz},lM P F.GL F.N ops l al=true→ ∀ {S:aM} {gb:Gb} {σ:St} {a:Act} {w:World},aI F S gb σ a w→mm (bc P F.GL) al K σ→wpList P ops Q (l++rest) a w
 |[],al,hm,S,gb,σ,a,w,h,hw=>by
  cases al<;>simp [lM] at hm;exact hQ _ _ _ _ _ h hw
 |o::r,al,hm,S,gb,σ,a,w,h,hw=>by
  cases al with
  |nil=>simp [lM] at hm
  |cons ao s=>
   simp only [lM,aE] at hm;simp only [mm] at hw
   have:=ir h hm.1 hw (K':=wpList P ops Q (r++rest)) (Q:=Q) (fun S gb σ a w h' hk=>iJ hQ hm.2 h' hk)
   rw [bH];simp only [wpList];split
   ·rename_i hc;rw [if_pos hc] at this;exact .inl this
   ·rename_i hc;rw [if_neg hc] at this;exact this
theorem zd {ops:Array Oper} {os:List Oper} {l:List bz} {p:AP} {l':List bz} (hm:MR P F.GL F.N ops os l p l'=true) {R:AV→St→Prop} {K:St→Prop} {Q:Exit→Act→World→Prop} (hQ: ∀S gb σ a w,aI F S gb σ a w→K σ→Q .normal a w)
  (hR: ∀v u S gb σ a w,aI F S gb σ a w→R v σ→PR S gb v u→v.ids=[]→Q (.panic (kd u)) a w) (h:aI F S gb σ a w) (hw:mm (bc P F.GL) l (BC (bc P F.GL) (fW P F.GL) R p (mm (bc P F.GL) l' K)) σ):wpList P ops Q os a w:=by
 unfold MR at hm;split at hm
 ·rename_i o r hd;simp only [aE] at hm;have e:os=os.take l.length++o::r:=by rw [←hd,EF]
  rw [e];refine iJ (K:=BC (bc P F.GL) (fW P F.GL) R p (mm (bc P F.GL) l' K)) ?_ hm.1.1 h hw;intro S gb σ a w h hw;obtain ⟨hg,hwp⟩:=E0 (Q:=Q) (K':=wpList P ops Q r) h hm.1.2 hw (fun S gb σ a w h hk=>gp hQ hm.2 h hk) hR;simp only [wpList];rw [if_pos (by simp [Region.wanted,hg])];exact .inl hwp
 ·cases hm
theorem li {dr:Array Oper→List (List Nat)→List bz→Bool} (hd:bK P F.GL F.N dr) {R:AV→St→Prop}: ∀ {c:Code} {ac:wJ},qd P F.GL F.N dr c ac=true→ ∀ {Q:AE→St→Prop} {Q':Exit→Act→World→Prop},(∀e S gb σ a w,aI F S gb σ a w→Q e σ→Q' (yW e) a w)→
  (∀v u S gb σ a w,aI F S gb σ a w→R v σ→PR S gb v u→v.ids=[]→Q' (.panic (kd u)) a w)→
  ∀ {S:aM} {gb:Gb} {σ:St} {a:Act} {w:World},aI F S gb σ a w→cN (bc P F.GL) (fW P F.GL) R ac Q σ→c.wp P Q' a w:=by
 intro c;have plain: ∀(c:Code) {ac:wJ} {a':AC},ac= .c a'→qd P F.GL F.N dr c ac=true→ ∀ {Q:AE→St→Prop} {Q':Exit→Act→World→Prop},(∀e S gb σ a w,aI F S gb σ a w→Q e σ→Q' (yW e) a w)→
   ∀ {S:aM} {gb:Gb} {σ:St} {a:Act} {w:World},aI F S gb σ a w→cN (bc P F.GL) (fW P F.GL) R ac Q σ→c.wp P Q' a w:=by
  intro c ac a' e hm Q Q' hQ S gb σ a w h hw;subst e;have hm':mC P F.GL F.N dr c a'=true:=by cases c<;>simpa only [qd] using hm
  exact eA hd hm' hQ h hw
 induction c with
 |region id ops draw=>
  intro ac hm Q Q' hQ hR S gb σ a w h hw;cases ac
  case c a'=>exact plain _ rfl hm hQ h hw
  case rp l o l'=>
   cases draw<;>simp [qd] at hm;exact wp_region_list (zd hm (fun S gb σ a w h' hk=>hQ .n _ _ _ _ _ h' hk) hR h hw)
  all_goals (cases draw<;>simp [qd] at hm)
 |seq x y ihx ihy=>
  intro ac hm Q Q' hQ hR S gb σ a w h hw;cases ac
  case c a'=>exact plain _ rfl hm hQ h hw
  case sq x' y'=>
   simp only [qd,aE] at hm;refine wp_seq (ihx hm.1 (Q:=AE.sq (cN (bc P F.GL) (fW P F.GL) R y' Q) Q) ?_ ?_ h hw)
   ·intro e S gb σ a w h' hq;cases e
    ·exact ihy hm.2 hQ hR h' hq
    ·exact hQ (.x _) _ _ _ _ _ h' hq
    ·exact hQ .r _ _ _ _ _ h' hq
   ·exact hR
  all_goals simp [qd] at hm
 |cond c x y ihx ihy=>
  intro ac hm Q Q' hQ hR S gb σ a w h hw;cases ac
  case c a'=>exact plain _ rfl hm hQ h hw
  case cd c' x' y'=>
   simp only [qd,aE] at hm;obtain ⟨⟨hc,hx⟩,hy⟩:=hm;have hv:=aq h hc;simp only [cN] at hw;split at hw
   ·rename_i t ht;rw [ht] at hv;simp only [PR] at hv;refine wp_cond hv ?_;cases t
    ·exact ihy hy hQ hR h (by simpa using hw)
    ·exact ihx hx hQ hR h (by simpa using hw)
   ·cases hw
  all_goals simp [qd] at hm
 |block i x ih=>
  intro ac hm Q Q' hQ hR S gb σ a w h hw;cases ac
  case c a'=>exact plain _ rfl hm hQ h hw
  case bl j x'=>
   simp only [qd,aE,bP] at hm;obtain ⟨rfl,hx⟩:=hm;refine wp_block (ih hx (Q:=AE.bl i Q) ?_ ?_ h hw)
   ·intro e S gb σ a w h' hq;cases e
    ·exact hQ .n _ _ _ _ _ h' hq
    ·rename_i j;simp only [yW,Exit.inBlock];simp only [AE.bl] at hq;split at hq
     ·rename_i e;rw [if_pos e];exact hQ .n _ _ _ _ _ h' hq
     ·rename_i e;rw [if_neg e];exact hQ (.x _) _ _ _ _ _ h' hq
    ·exact hQ .r _ _ _ _ _ h' hq
   ·exact hR
  all_goals simp [qd] at hm
 |loop x ih=>
  intro ac hm Q Q' hQ hR S gb σ a w h hw;cases ac
  case c a'=>exact plain _ rfl hm hQ h hw
  case lp x'=>
   simp only [qd] at hm;simp only [cN] at hw;obtain ⟨n,hn⟩:=hw;intro b k cs;have key: ∀n S gb σ a w,aI F S gb σ a w→Dk (cN (bc P F.GL) (fW P F.GL) R x') Q n σ→ ∃e a' w',Q' e a' w'∧Arrives P (lone (b.at a (.code x:: .inLoop x::k)) cs w) b k cs e a' w':=by
    intro n;induction n with
    |zero=>intro S gb σ a w h hn;exact hn.elim
    |succ n ihn=>
     intro S gb σ a w h hn;obtain ⟨τ,hτ,hb⟩:=hn;obtain ⟨gb',h'⟩:=h.weakR hτ;obtain ⟨e,a₁,w₁,hq,harr⟩:=ih hm (Q:=AE.sq (Dk (cN (bc P F.GL) (fW P F.GL) R x') Q n) Q) (Q':=Exit.then (fun a w=> ∃S gb σ,aI F S gb σ a w∧Dk (cN (bc P F.GL) (fW P F.GL) R x') Q n σ) Q') (by
      intro e S gb σ a w h'' hq;cases e
      ·exact ⟨_,_,_,h'',hq⟩
      ·exact hQ (.x _) _ _ _ _ _ h'' hq
      ·exact hQ .r _ _ _ _ _ h'' hq) hR h' hb b (.inLoop x::k) cs
     cases e with
     |normal=>
      obtain ⟨S1,gb1,σ1,h1,hi1⟩:=hq;obtain ⟨e₂,a₂,w₂,hq₂,harr₂⟩:=ihn _ _ _ _ _ h1 hi1;exact ⟨e₂,a₂,w₂,hq₂,.of_steps (Steps.trans harr (.one step_inLoop)) harr₂⟩
     |exit id=>exact ⟨_,a₁,w₁,hq,.pass (x:= .inLoop x) rfl (fun _ _=> .inl (by simp)) harr⟩
     |goto l=>exact ⟨_,a₁,w₁,hq,.pass (x:= .inLoop x) rfl (fun _ _=> .inl (by simp)) harr⟩
     |ret=>exact ⟨_,a₁,w₁,hq,.pass (x:= .inLoop x) rfl (fun _ _=> .inl (by simp)) harr⟩
     |panic ch=>exact ⟨_,a₁,w₁,hq,.pass (x:= .inLoop x) rfl (fun _ _=> .inl (by simp)) harr⟩
     |outgrown=>exact ⟨_,a₁,w₁,hq,.pass (x:= .inLoop x) rfl (fun _ _=> .inl (by simp)) harr⟩
   obtain ⟨e,a',w',hq,harr⟩:=key n _ _ _ _ _ h hn;exact ⟨e,a',w',hq,.of_steps (.one step_loop) harr⟩
  all_goals simp [qd] at hm
 |scope x ih=>
  intro ac hm Q Q' hQ hR S gb σ a w h hw;cases ac
  case c a'=>exact plain _ rfl hm hQ h hw
  case sc x'=>
   simp only [qd] at hm;refine wp_scope_straight (ih hm (Q:=Q) ?_ ?_ h hw)
   ·intro e S gb σ a w h' hq;cases e<;>exact hQ _ _ _ _ _ _ h' hq
   ·exact hR
  all_goals simp [qd] at hm
 |_=>
  intro ac hm Q Q' hQ hR S gb σ a w h hw;cases ac
  case c a'=>exact plain _ rfl hm hQ h hw
  all_goals simp [qd] at hm

structure LU where
 c:wJ
 rs:List AR
 np:Nat
 N:Nat
def Kh (P:Program) (GL:List (Nat×List Value)) (dr:Array Oper→List (List Nat)→List bz→Bool) (fn:Func) (f:LU):Bool:=
 fn.name != "runtime.NumGoroutine"&&fn.params.size+fn.nfree==f.np&&fn.ntmps==f.N&&Nat.ble f.np f.N&&AS P f.rs fn.results.toList&&(match fn.body with |some c=>qd P GL f.N dr c f.c|none=>false)
@[irreducible] def ue (P:Program) (GL:List (Nat×List Value)) (f d:Nat) (I:In) (O:cK):Prop:=fW P GL f d I O
theorem wK (P:Program) (GL:List (Nat×List Value)):ue P GL=fW P GL:=by funext f d I O;unfold ue;rfl
def qf (d:Nat) (O:cK) (v:AV) (σ:St):Prop:=v=O.r∧(∀p∈O.pm,∃b o,p.1= .b b o)∧iY d [] ⟨.tup [],O.bx,O.pm⟩ σ
theorem HR.svB {bx:List (Id×List AV)} {pm:List (Pl×Nat)} {sv sv':Nat→Value} (h:HR S gb bx pm sv w) (hp: ∀p k,aD pm p=some k→ ∃b o,p= .b b o):HR S gb bx pm sv' w:=by
 have e: ∀p k,aD pm p=some k→cf gb sv' w p=cf gb sv w p:=by
  intro p k hk;obtain ⟨b,o,rfl⟩:=hp p k hk;rfl
 refine ⟨h.agree,h.box,h.its,h.inj,?_,?_,?_,h.pmb⟩
 ·intro p k hk;rw [e p k hk];exact h.own p k hk
 ·intro p q k l b hk hl h1 h2;rw [e p k hk] at h1;rw [e q l hl] at h2;exact h.ownd p q k l b hk hl h1 h2
 ·intro p k b d z hk h1;rw [e p k hk] at h1;exact h.ownb p k b d z hk h1
theorem BD {GL:List (Nat×List Value)} {dr:Array Oper→List (List Nat)→List bz→Bool} {f:Nat} {fn:Func} {af:LU} (hf:P.funcs[f]?=some fn) (hm:Kh P GL dr fn af=true) (hd:bK P GL af.N dr) {d:Nat} {I:In} {O:cK} (hl:I.vs.length=af.np)
  (hw:cN (bc P GL) (fW P GL) (qf d O) af.c (fun _ _=>False) (aF I)):fW P GL f d I O:=by
 simp only [Kh,aE,bne_iff_ne,bP] at hm;obtain ⟨⟨⟨⟨⟨h1,h2⟩,h3⟩,h4⟩,h5⟩,h6⟩:=hm;split at h6<;>(try cases h6);rename_i c hb;have h4:=Nat.le_of_ble_eq_true h4;intro S gb w vs hvs hhr hglo hnw;have hlen:vs.length=I.vs.length:=hvs.length.symm;unfold G5;have hcall:(callFunc f vs.toArray).run P w= .ok (.enter f vs.toArray) w:=by
  simp [callFunc,hf,hb,h1]
 rw [hcall];refine calls_of_wp hf hb ?_
 let F:Fr:=⟨S,w,MS I gb (fun t=>vs.getD t undef) w,gb,af.N,GL,[]⟩
 have hsv:tv {tmps:=vs.toArray++Array.replicate (fn.ntmps - vs.toArray.size) undef,defers:=[]}=fun t=>vs.getD t undef:=by
  funext t;exact dQ
 have hup:=hhr.up;have hrel:aI F S (eB gb) (aF I) {tmps:=vs.toArray++Array.replicate (fn.ntmps - vs.toArray.size) undef,defers:=[]} w:=by
  refine ⟨rfl,?_,Bw.refl _ _,fun _ _ _ _=>rfl,aM.le.refl _,?_,by rw [hsv];exact hup,?_,?_,?_,fun d=>rfl,hglo⟩
  ·show (vs.toArray++Array.replicate (fn.ntmps - vs.toArray.size) undef).size=af.N;simp;omega
  ·intro t
   have:=(fU (dA _ _ hvs) 0 t).2 t (by omega)
   rw [dQ];exact this
  ·intro i g z hi hq;obtain ⟨c1,hc1⟩:=iT.1 hi;obtain ⟨j,cs,rfl,hj,_⟩:=bu cD hc1;exact .inr (.inl ⟨j,z,by rw [hj];rfl,hq⟩)
  ·intro p k g hp hg;obtain ⟨q,rfl,hq⟩:=eO cD hp;rw [hsv,j9] at hg;exact .inr (.inr ⟨q,k,hq,hg⟩)
  ·intro i hi;cases i<;>simp [eB,Id.isUp] at hi ⊢
 refine li (F:=F) hd h6 (Q:=fun _ _=>False) (R:=qf d O) (fun _ _ _ _ _ _ _ hq=>hq.elim) ?_ hrel hw;rintro v u S' gb' σ' a' w' hr ⟨rfl,hpm,hok⟩ hp hi;have hv:gr σ' []=some []:=rfl;obtain ⟨o1,o2,o3,o4⟩:=hr.out hok hv (us:=[]) (by simp [aa]) (fun i s hi=>by simp at hi) rfl;refine ⟨hr.defers,u,rfl,S',cY d gb' O.bx,hr.bw,hr.ext,hr.le,?_,?_,PR.noids _ _ hi hp,o2.svB (fun p k hk=>hpm _ (eJ _ _ _ hk)),o3,?_⟩
 ·intro i hi
  have:cY d gb' O.bx i=gb' (i.inn d):=fi (fun e=>by rw [hi] at e;cases e)
  rw [this,aV hi];exact hr.up i
 ·intro i hi hne;simp only [cY] at hne;split at hne
  ·exact absurd rfl hne
  ·rename_i hno;cases hs:(aw O.bx i).isSome with
   |true=>rfl
   |false=>exact absurd ⟨hi,hs⟩ hno
 ·intro p k g hk hg;obtain ⟨b,o,e⟩:=hpm _ (eJ _ _ _ hk);simp only at e;subst e;exact o4 _ k g hk hg
theorem BE {GL:List (Nat×List Value)} {dr:Array Oper→List (List Nat)→List bz→Bool} {f:Nat} {fn:Func} {af:LU} (hf:P.funcs[f]?=some fn) (hm:Kh P GL dr fn af=true) (hd:bK P GL af.N dr) {d:Nat} {I:In} {O:cK} (hl:I.vs.length=af.np)
  (hw:cN (bc P GL) (fW P GL) (fun _ _=>False) af.c (cZ d af.rs O) (aF I)):bc P GL f d I O:=by
 simp only [Kh,aE,bne_iff_ne,bP] at hm;obtain ⟨⟨⟨⟨⟨h1,h2⟩,h3⟩,h4⟩,h5⟩,h6⟩:=hm;split at h6<;>(try cases h6);rename_i c hb;have h4:=Nat.le_of_ble_eq_true h4;intro S gb w vs hvs hhr hglo hnw;have hlen:vs.length=I.vs.length:=hvs.length.symm;unfold k9;have hcall:(callFunc f vs.toArray).run P w= .ok (.enter f vs.toArray) w:=by
  simp [callFunc,hf,hb,h1]
 rw [hcall];refine calls_of_wp hf hb ?_
 let F:Fr:=⟨S,w,MS I gb (fun t=>vs.getD t undef) w,gb,af.N,GL,[]⟩
 have hsv:tv {tmps:=vs.toArray++Array.replicate (fn.ntmps - vs.toArray.size) undef,defers:=[]}=fun t=>vs.getD t undef:=by
  funext t;exact dQ
 have hup:=hhr.up;have hrel:aI F S (eB gb) (aF I) {tmps:=vs.toArray++Array.replicate (fn.ntmps - vs.toArray.size) undef,defers:=[]} w:=by
  refine ⟨rfl,?_,Bw.refl _ _,fun _ _ _ _=>rfl,aM.le.refl _,?_,by rw [hsv];exact hup,?_,?_,?_,fun d=>rfl,hglo⟩
  ·show (vs.toArray++Array.replicate (fn.ntmps - vs.toArray.size) undef).size=af.N;simp;omega
  ·intro t
   have:=(fU (dA _ _ hvs) 0 t).2 t (by omega)
   rw [dQ];exact this
  ·intro i g z hi hq;obtain ⟨c1,hc1⟩:=iT.1 hi;obtain ⟨j,cs,rfl,hj,_⟩:=bu cD hc1;exact .inr (.inl ⟨j,z,by rw [hj];rfl,hq⟩)
  ·intro p k g hp hg;obtain ⟨q,rfl,hq⟩:=eO cD hp;rw [hsv,j9] at hg;exact .inr (.inr ⟨q,k,hq,hg⟩)
  ·intro i hi;cases i<;>simp [eB,Id.isUp] at hi ⊢
 refine li (F:=F) hd h6 (Q:=cZ d af.rs O) (R:=fun _ _=>False) ?_ (fun _ _ _ _ _ _ _ _ hq=>hq.elim) hrel hw;intro e S0' gb0' σ0 a' w' hr0 hq0;have fin: ∀σ0,aI F S0' gb0' σ0 a' w'→(∃τ,nU σ0 τ∧iY d af.rs O τ)→a'.defers=[]∧ ∃v,(results fn a'.tmps).run P w'= .ok v w'∧(∃u,Ending.returned v= .returned u∧ ∃S'' gb'',dH d I O S gb (fun t=>vs.getD t undef) w S'' gb'' u w'):=by
  rintro σ0 hr0 ⟨τ,hfz,hok⟩;obtain ⟨S',gb',hr⟩:=hr0.frzs hfz;refine ⟨hr.defers,?_⟩;have hr':=hok.r;split at hr'
  ·rename_i vs' hv;obtain ⟨us,hrun,g2,g3⟩:=j8 (P:=P) hr h5 hv;obtain ⟨o1,o2,o3,o4⟩:=hr.out hok hv g2 g3 (by rw [←g2.length];exact (fA (qs:=[]) hv).symm);refine ⟨_,hrun,_,rfl,S',cY d gb' O.bx,hr.bw,hr.ext,hr.le,?_,?_,o1,o2,o3,o4⟩
   ·intro i hi
    have:cY d gb' O.bx i=gb' (i.inn d):=fi (fun e=>by rw [hi] at e;cases e)
    rw [this,aV hi];exact hr.up i
   ·intro i hi hne;simp only [cY] at hne;split at hne
    ·exact absurd rfl hne
    ·rename_i hno;cases hs:(aw O.bx i).isSome with
     |true=>rfl
     |false=>exact absurd ⟨hi,hs⟩ hno
  ·cases hr'
 cases e
 ·exact fin _ hr0 hq0
 ·exact hq0.elim
 ·exact fin _ hr0 hq0
theorem wL {P:Program} {GL:List (Nat×List Value)} {dr:Array Oper→List (List Nat)→List bz→Bool} {f:Nat} {fn:Func} {af:LU} (hf:P.funcs[f]?=some fn) (hm:Kh P GL dr fn af=true) (hd:bK P GL af.N dr) {d:Nat} {I:In} {O:cK} (hl:I.vs.length=af.np)
  (hw:cN (cB P GL) (ue P GL) (qf d O) af.c (fun _ _=>False) (aF I)):ue P GL f d I O:=by
 rw [fy,wK] at hw;rw [wK];exact BD hf hm hd hl hw
theorem DC {P:Program} {GL:List (Nat×List Value)} {dr:Array Oper→List (List Nat)→List bz→Bool} {f:Nat} {fn:Func} {af:LU} (hf:P.funcs[f]?=some fn) (hm:Kh P GL dr fn af=true) (hd:bK P GL af.N dr) {d:Nat} {I:In} {O:cK} (hl:I.vs.length=af.np)
  (hw:cN (cB P GL) (ue P GL) (fun _ _=>False) af.c (cZ d af.rs O) (aF I)):cB P GL f d I O:=by
 rw [fy,wK] at hw;rw [fy];exact BE hf hm hd hl hw
section
variable {S SP:Nat→Nat→In→cK→Prop} {R:AV→St→Prop} {Q:AE→St→Prop} {σ:St} {K:St→Prop}
@[simp] theorem T9 {a}:cN S SP R (.c a) Q σ=dG S a Q σ:=rfl
@[simp] theorem Qw {l o l'}:cN S SP R (.rp l o l') Q σ=mm S l (BC S SP R o (mm S l' (Q .n))) σ:=rfl
@[simp] theorem Qx {a b}:cN S SP R (.sq a b) Q σ=cN S SP R a (AE.sq (cN S SP R b Q) Q) σ:=rfl
@[simp] theorem Qy {i a}:cN S SP R (.bl i a) Q σ=cN S SP R a (AE.bl i Q) σ:=rfl
@[simp] theorem Qz {a}:cN S SP R (.sc a) Q σ=cN S SP R a Q σ:=rfl
@[simp] theorem QA {x a b}:cN S SP R (.cd x a b) Q σ=ML (cN S SP R a Q) (cN S SP R b Q) σ (σ.v x):=rfl
def Ok (S SP:Nat→Nat→In→cK→Prop) (R:AV→St→Prop) (f d:Nat) (xs:List X) (K:St→Prop) (σ:St):Prop:=MC S f d xs K σ∨Kg SP R f d xs σ
def MT (S SP:Nat→Nat→In→cK→Prop) (R:AV→St→Prop) (d:Nat) (xs:List X) (K:St→Prop) (σ:St):AV→Prop
 | .fn f caps=>Ok S SP R f d (xs++caps.map X.c) K σ
 |_=>False
def Ua (R:AV→St→Prop) (σ:St):AV→Prop
 | .ifc T v=>v.ids=[]∧R (.ifc T v) σ
 |_=>False
@[simp] theorem Ub {d f xs}:BC S SP R (.ce d f xs) K σ=Ok S SP R f d xs K σ:=rfl
@[simp] theorem Uc {d x xs}:BC S SP R (.cd d x xs) K σ=MT S SP R d xs K σ (σ.v x):=by
 simp only [BC];unfold MT Ok;cases σ.v x<;>rfl
@[simp] theorem QB {d xs f caps}:MT S SP R d xs K σ (.fn f caps)=Ok S SP R f d (xs++caps.map X.c) K σ:=rfl
@[simp] theorem Ud {d x}:BC S SP R (.pn d x) K σ=Ua R σ (σ.v x):=by
 simp only [BC];unfold Ua;cases σ.v x<;>rfl
@[simp] theorem QC {T v}:Ua R σ (.ifc T v)=(v.ids=[]∧R (.ifc T v) σ):=rfl
end
theorem G7 {P:Program} {GL:List (Nat×List Value)} {SP:Nat→Nat→In→cK→Prop} {R:AV→St→Prop} {K:St→Prop} {σ:St} {f d:Nat} {xs:List X} (I:In) (O:cK) (h:cB P GL f d I O) (hc:dt d σ xs I O) (hk:K (bm d σ xs I O)):Ok (cB P GL) SP R f d xs K σ:= .inl ⟨I,O,h,hc,hk⟩
theorem nV {P:Program} {GL:List (Nat×List Value)} {S:Nat→Nat→In→cK→Prop} {R:AV→St→Prop} {K:St→Prop} {σ:St} {f d:Nat} {xs:List X} (I:In) (O:cK) (h:ue P GL f d I O) (hc:dt d σ xs I O) (hi:O.r.ids=[]) (hk:R O.r (Dz d σ xs I O)):Ok S (ue P GL) R f d xs K σ:= .inr ⟨I,O,h,hc,hi,hk⟩
attribute [simp] Dz
end Go.Ai
