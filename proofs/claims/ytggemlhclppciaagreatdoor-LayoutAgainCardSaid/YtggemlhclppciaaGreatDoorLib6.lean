/- Lib6: a part of the proof. Conditions: as each theorem says. -/
import Derived.Test.YtggemlhclppciaaGreatDoorLib5
set_option linter.unusedSimpArgs false
set_option linter.unusedVariables false
namespace Go.Ai
open Go.RowKit
variable {P:Program} {F:Fr} {S:aI} {gb:Gb} {σ:St} {a:Act} {w:World} {ops:Array Oper}
inductive yW (P:Program) (w:World) (e:TypeId) (z:Value) (sz:Nat) (us:List Value) (m:Nat):Value→Value→World→Prop
 |grow {base:Option Addr} {n cap:Nat} {olds:List Value}:cap<n+m→olds.length=n*sz→(Builtin.firstCells sz n (.slice base n cap)).run P w.drew= .ok olds.toArray w.drew→
  yW P w e z sz us m (.slice base n cap) (.slice (some ⟨w.heap.size,0,none⟩) (n+m) (grownCap w (n+m) cap e)) (w.drew.alloc (.cells ((olds++us).toArray++Builtin.zeroCells z.cells (grownCap w (n+m) cap e - (n+m))) e))
 |room {g n cap:Nat} {cur:Array Value} {T:TypeId}:n+m≤cap→w.heap[g]?=some (.cells cur T (0,0))→n*sz+us.length≤cur.size→
  yW P w e z sz us m (.slice (some ⟨g,0,none⟩) n cap) (.slice (some ⟨g,0,none⟩) (n+m) cap) (w.setRow g (cur.toList.take (n*sz)++us++cur.toList.drop (n*sz+us.length)).toArray)
theorem yW.run {e:TypeId} {i:TypeInfo} {z:Value} {us:List Value} {m:Nat} {sv u yv:Value} {w':World} (h:yW P w e z i.size us m sv u w') {t ty:TypeId} (ht:P.underlying t=some (.slice e)) (hi:P.info? e=some i) (hz:i.zero=some z)
  (h3: ∀v∈us,v.oneCell'=true) (hy:(Builtin.lenOf yv).run P w= .ok m w) (hf:(Builtin.firstCells i.size m yv).run P w= .ok us.toArray w) (hf':(Builtin.firstCells i.size m yv).run P w.drew= .ok us.toArray w.drew)
  (hlim: ∀b n c,sv= .slice b n c→(n+m)*i.bytes≤rM∧n+m≤9223372036854775807):(Builtin.append_ #[t,t] ty #[sv,yv]).run P w= .ok u w':=by
 cases h with
 | @grow base n cap olds hcap hl hfo=>
  obtain ⟨l1,l2⟩:=hlim _ _ _ rfl;have hfit:=growslice_fits (need:=n+m) (old:=cap) (bytes:=i.bytes) hcap (by unfold rM at l1;exact l1);exact fZ (P:=P) (w:=w) (ty:=ty) ht (.inl ht) hi hz hy hf' hfo hcap hfit l2
 | @room g n cap cur T hr hg hs=>
  have hst:=run_storeCells_at P g (n*i.size) T us 0 cur w hg (by simpa using hs) h3;simp only [rE] at hst;exact fY (P:=P) (w:=w) (ty:=ty) ht (.inl ht) hi (base:=some ⟨g,0,none⟩) (n:=n) (cap:=cap) (us:=us) hy hf hr (fun b hb=>by
   cases hb;rw [Addr.add_lit,na];exact hst) (fun hb=>by cases hb)
theorem t7 (w:World) (A B:Array Value) (e:TypeId):(w.alloc (.cells A e)).setRow w.heap.size B=w.alloc (.cells B e):=by
 unfold World.setRow World.alloc;simp only;congr 1
 apply Array.ext_getElem?;intro k;simp only [Array.getElem?_modify,Array.getElem?_push];by_cases hk:k=w.heap.size
 ·subst hk;simp
 ·simp [hk,Ne.symm hk]
theorem AG {α:Type} (A B C D:List α) (n:Nat) (hn:A.length=n) (h:B.length=C.length):(A++B++D).take n++C++(A++B++D).drop (n+C.length)=A++C++D:=by
 subst hn;have h1:(A++B++D).take A.length=A:=by rw [lJ,List.take_left]
 have h2:(A++B++D).drop (A.length+C.length)=D:=by
  rw [←h,show A.length+B.length=(A++B).length by simp,List.drop_left]
 rw [h1,h2]
theorem yW.split {e:TypeId} {z:Value} {sz:Nat} {us zs:List Value} {m:Nat} {sv u:Value} {w2:World} (h:yW P w e z sz us m sv u w2) (hl:zs.length=us.length):
  ∃g n cap c1 T w1,(∃b c,sv= .slice b n c)∧u= .slice (some ⟨g,0,none⟩) (n+m) cap∧yW P w e z sz zs m sv u w1∧w1.heap[g]?=some (.cells c1 T (0,0))∧n*sz+us.length≤c1.size∧
   w2=w1.setRow g (c1.toList.take (n*sz)++us++c1.toList.drop (n*sz+us.length)).toArray∧w1.heap.size=w2.heap.size:=by
 cases h with
 | @grow base n cap olds hcap ho hfo=>
  refine ⟨w.heap.size,n,_,(olds++zs).toArray++Builtin.zeroCells z.cells (grownCap w (n+m) cap e - (n+m)),e,_,⟨_,_,rfl⟩,rfl,.grow (us:=zs) hcap ho hfo,?_,by simp [ho,hl],?_,(by show (w.drew.heap.push _).size=(w.drew.heap.push _).size;rw [Array.size_push,Array.size_push])⟩
  ·show (w.drew.heap.push _)[w.drew.heap.size]?=_;rw [Array.getElem?_push_size]
  have:=t7 w.drew ((olds++zs).toArray++Builtin.zeroCells z.cells (grownCap w (n+m) cap e - (n+m))) (((olds++zs).toArray++Builtin.zeroCells z.cells (grownCap w (n+m) cap e - (n+m))).toList.take (n*sz)++us++((olds++zs).toArray++Builtin.zeroCells z.cells (grownCap w (n+m) cap e - (n+m))).toList.drop (n*sz+us.length)).toArray e
  rw [show w.drew.heap.size=w.heap.size from rfl] at this;rw [this];congr 2
  apply Array.ext';simp only [Array.toList_append,List.toList_toArray];exact (AG olds zs us _ (n*sz) ho hl).symm
 | @room g n cap cur T hr hg hs=>
  refine ⟨g,n,cap,_,T,_,⟨_,_,rfl⟩,rfl,.room (us:=zs) hr hg (by omega),setRow_heap w g cur _ T _ hg,by simp;omega,?_,by simp⟩;rw [setRow_setRow];congr 1
  apply Array.ext';simp only [List.toList_toArray];have h1:(cur.toList.take (n*sz)).length=n*sz:=by simp;omega
  rw [←hl]
  have:=(AG (cur.toList.take (n*sz)) zs us (cur.toList.drop (n*sz+zs.length)) (n*sz) h1 hl).symm
  rw [←hl] at this;exact this

inductive Mn (P:Program) (ops:Array Oper):List Nat→Act→Act→Prop
 |nil {a:Act}:Mn P ops [] a a
 |cons {i:Nat} {is:List Nat} {o:Oper} {v:Value} {a a':Act}:ops[i]?=some o→Yields P ops o v a→Mn P ops is (a.put o.dst v) a'→Mn P ops (i::is) a a'
def vX (ops:Array Oper) (B:Array Bool→Bool):List Nat→Array Bool→Bool
 |[],l=>B l
 |i::r,l=>Region.free .any ops l i&&(Region.ready .any ops l).contains i&&vX ops B r (l.setIfInBounds i true)
theorem Lx {Q:Exit→Act→World→Prop} (hs:Region.noSelect ops=true) (hQ: ∀c a w,¬Q (.panic c) a w) {B:Array Bool→Bool} {fuel:Nat} {w:World}: ∀ {is:List Nat} {listed:Array Bool} {a a':Act},vX ops B is listed=true→Mn P ops is a a'→
  (∀l',B l'=true→wpAny P .any ops Q fuel l' a' w)→wpAny P .any ops Q (fuel+is.length) listed a w
 |[],listed,a,a',hb,hc,h=>by
  cases hc;exact h _ hb
 |i::is,listed,a,a',hb,hc,h=>by
  simp only [vX,aC] at hb;cases hc with
  |cons ho hy hc=>
   exact wpAny_take ho hs hb.1.1 hb.1.2 (fun c a w q=>absurd q (hQ _ _ _)) hy (Lx hs hQ hb.2 hc h)
def Ov (ops:Array Oper) (i j:Nat) (l:Array Bool):Bool:=
 Region.ready .any ops l==[i,j]&&Region.ready .any ops (l.setIfInBounds i true)==[j]&&Region.ready .any ops (l.setIfInBounds j true)==[i]&&Region.ready .any ops ((l.setIfInBounds i true).setIfInBounds j true)==[]&&Region.ready .any ops ((l.setIfInBounds j true).setIfInBounds i true)==[]
def Ly (ops:Array Oper) (j:Nat) (l:Array Bool):Bool:=Region.ready .any ops l==[j]&&Region.ready .any ops (l.setIfInBounds j true)==[]
def ua (m n:Nat):Array Bool:=(List.replicate m true++List.replicate (n - m) false).toArray
def Ow (ops:Array Oper) (m q:Nat):Bool:=
 Region.noSelect ops&&ops.size==m+(4+q)&&Region.ready .any ops (ua m ops.size)==[m]&&vX ops (Ov ops (m+2) (m+3+q)) ((m+1)::List.range' (m+3) q) ((ua m ops.size).setIfInBounds m true)
def Ox (ops:Array Oper) (m q:Nat):Bool:=
 Region.noSelect ops&&ops.size==m+(2+q)&&Region.ready .any ops (ua m ops.size)==[m]&&vX ops (Ly ops (m+1+q)) (List.range' (m+1) q) ((ua m ops.size).setIfInBounds m true)
structure Re (P:Program) (F:Fr) (ops:Array Oper) (A E T H:Oper) (Ads:List Oper) (p:PA):Prop where
 m:Rc P F.GL F.N A E T p=true
 ads:kx P F.GL F.N ops Ads p.ad=true
 h:H.guard=none∧dc P F.GL F.N H (.so p.ta p.d)=true
def Qm (ops:Array Oper) (us:List (List Nat)) (l:List be) (two:Bool):Bool:=
 let A:=GS ops.toList []
 D0 ops.toList A&&us.length==l.length&&l.all Gm&&((List.range l.length).all fun j=>(List.range j).all fun i=>lj us l A i j)&&((List.range ops.size).all fun i=>Nat.blt i l.length||(List.range l.length).all fun k=>(A.getD i 0).testBit k)&&
  (if two then Ox ops l.length (ops.size - l.length - 2) else Ow ops l.length (ops.size - l.length - 4))
def oy (ops:Array Oper) (us:List (List Nat)) (l:List be):Bool:=match l.reverse with
 | .gd _ _ _ (.gd _ _ _ _):: .gd _ _ _ (.gd _ _ _ _)::r=>Qm ops us r.reverse true
 | .gd _ _ _ (.gd _ _ _ _)::r=>Qm ops us r.reverse false
 |_=>GT ops us l
theorem JB: ∀ {ol:List Oper} {al:List be},kx P F.GL F.N ops ol al=true→ ∀(i:Nat) (o:Oper),ol[i]?=some o→ ∃ao,al[i]?=some ao∧mt P F.GL F.N ops o ao=true:=by
 intro ol;induction ol with
 |nil=>intro al _ i o h;simp at h
 |cons x r ih=>
  intro al hm i o h;cases al with
  |nil=>simp [kx] at hm
  |cons y s=>
   simp only [kx,aC] at hm;cases i with
   |zero=>simp at h;subst h;exact ⟨y,by simp,hm.1⟩
   |succ i=>simp at h ⊢;exact ih hm.2 i o h
theorem GW: ∀ {ol:List Oper} {al:List be},kx P F.GL F.N ops ol al=true→ol.length=al.length:=by
 intro ol;induction ol with
 |nil=>intro al h;cases al with
  |nil=>rfl
  |cons=>simp [kx] at h
 |cons x r ih=>intro al h;cases al with
  |nil=>simp [kx] at h
  |cons y s=>simp only [kx,aC] at h;simp [ih h.2]
structure gH (P:Program) (GL:List (Nat×List Value)) (N:Nat) (dr:Array Oper→List (List Nat)→List be→Bool):Prop where
 rd: ∀(F:Fr),F.GL=GL→F.N=N→ ∀(ops:Array Oper) (us:List (List Nat)) (l:List be),kx P F.GL F.N ops ops.toList l=true→dr ops us l=true→ ∀(K:St→Prop) (Q:Exit→Act→World→Prop),(∀S gb σ a w,aE F S gb σ a w→K σ→Q .normal a w)→
  ∀ {S:aI} {gb:Gb} {σ:St} {a:Act} {w:World},aE F S gb σ a w→jM (aX P F.GL) us l 0 [] K σ→wpAny P .any ops Q ops.size (Array.replicate ops.size false) a {w with drawn:=w.drawn+1}
theorem sM {GL:List (Nat×List Value)} {N:Nat}:gH P GL N oy where
 rd:=by
  intro F hGL hN ops us l hmts hdr K Q hQ S gb σ a w hrel hw;have no: ∀ {r:List be} {x1 x2 x3 y1 y2 y3 z},l.reverse= .gd x1 x2 x3 (.gd y1 y2 y3 z)::r→False:=by
   intro r x1 x2 x3 y1 y2 y3 z e;have e2:l=r.reverse++[.gd x1 x2 x3 (.gd y1 y2 y3 z)]:=by rw [←List.reverse_reverse l,e];simp
   have hl:=GW hmts;have hlen:l.length=r.length+1:=by rw [e2];simp
   obtain ⟨o,ho⟩: ∃o,ops.toList[r.length]?=some o:=⟨ops.toList[r.length]'(by omega),by rw [rC]⟩;obtain ⟨ao,h1,h2⟩:=JB hmts _ _ ho;rw [e2,List.getElem?_append_right (by simp)] at h1;simp at h1;subst h1;simp [mt,dc] at h2
  have:GT ops us l=true:=by
   unfold oy at hdr;split at hdr
   ·rename_i e;exact (no e).elim
   ·rename_i e;exact (no e).elim
   ·exact hdr
  exact yV F hGL hN ops us l hmts this K Q hQ hrel hw
theorem D2 {GL:List (Nat×List Value)} {N:Nat} (hmix:P.follows .mixedOrders=true):bI P GL N oy where
 rd:=fun F hGL hN id ops us l hmts hdr K Q hQ {S gb σ a w} hrel hw=>wp_region_any hmix (sM.rd F hGL hN ops us l hmts hdr K Q hQ hrel hw)
end Go.Ai
namespace Go.Ai

attribute [simp] ev lk ar Dj aA dl vo fU St.v St.put St.puto Mk tP bG dU su AV.cs dB jy pK jK il pM ss jb vB eb DF GE yI Iz Dn AE.sq AE.bl fQ vS p0 dP AV.ids bc Pl.ids pd Dm jL jc fD byteCells ja rF ng Dk Pl.lt Id.isUp Id.isIt As AV.mk AV.mkk MK.av
def jJ (K:St→Prop) (σ:St):Option (Nat×AV)→Prop
 |some (d,v)=>K (σ.put d v)
 |none=>False
def KL (A B:St→Prop) (σ:St):AV→Prop
 | .bool t=>if t=true then A σ else B σ
 |_=>False
def Oy (S:Nat→Nat→In→bW→Prop) (f d:Nat) (K:St→Prop) (σ:St):Option (List AV)→Prop
 |some l=> ∃r,sy S f l r∧K (σ.put d r)
 |none=>False
def Qn (K:St→Prop) (d:Nat) (σ:St):Prop:=K (σ.put d (.tup []))
def Oz (b:Bool) (A U:St→Prop) (σ:St) (v:AV):Prop:=match GB v b with
 |some true=>A σ
 |some false=>U σ
 |none=>False
attribute [simp] bh.eq_1 bh.eq_2 bh.eq_3 bh.eq_4 bh.eq_5 bh.eq_6 bh.eq_7 bh.eq_8 bh.eq_9 bh.eq_10 bh.eq_11 bh.eq_12 bh.eq_13 bh.eq_14 bh.eq_15 bh.eq_16 bh.eq_17 bh.eq_18 bh.eq_19 bh.eq_20 bh.eq_21 bh.eq_22 bh.eq_23 bh.eq_24 bh.eq_25 bh.eq_26 bh.eq_27
def Rf (S:Nat→Nat→In→bW→Prop) (f d:Nat) (s:Option X) (ps:List X) (K:St→Prop) (σ:St):Prop:= ∃k out,GC S f σ s ps k out∧K (yH d s (.sl out) k σ)
@[simp] theorem OA {K:St→Prop} {d:Nat} {σ:St}:Qn K d σ=K (σ.put d (.tup [])):=rfl
section
variable {S:Nat→Nat→In→bW→Prop} {Q:AE→St→Prop} {σ:St} {B:St→Prop}
@[simp] theorem OB:dz S .sk Q σ=Q .n σ:=rfl
@[simp] theorem OC {l}:dz S (.rg l) Q σ=kT S l (Q .n) σ:=rfl
@[simp] theorem OD {us l}:dz S (.rd us l) Q σ=jM S us l 0 [] (Q .n) σ:=rfl
@[simp] theorem OE {a b}:dz S (.sq a b) Q σ=dz S a (AE.sq (dz S b Q) Q) σ:=rfl
@[simp] theorem OF {i a}:dz S (.bl i a) Q σ=dz S a (AE.bl i Q) σ:=rfl
@[simp] theorem OG {i}:dz S (.ex i) Q σ=Q (.x i) σ:=rfl
@[simp] theorem OH:dz S .rt Q σ=Q .r σ:=rfl
@[simp] theorem OI {a}:dz S (.sc a) Q σ=dz S a Q σ:=rfl
@[simp] theorem OJ:dz S .lb Q σ=Q .n σ:=rfl
@[simp] theorem OK:dz S .no Q σ=False:=rfl
def Qo (K:St→Prop) (s:Nat) (σ:St):Prop:= ∃b n sz rows tl,ld σ s b n sz rows tl∧sz<4294967296∧K (gC σ s b sz rows)
theorem ub {K:St→Prop} {s:Nat} {σ:St} (b:Id) (n sz:Nat) (rows:List (List AV)) (tl:List AV) (h:ld σ s b n sz rows tl) (hz:sz<4294967296) (hk:K (gC σ s b sz rows)):Qo K s σ:=⟨b,n,sz,rows,tl,h,hz,hk⟩
@[simp] theorem OL {s l}:dz S (.fz s l) Q σ=Qo (kT S l (Q .n)) s σ:=rfl
@[simp] theorem OM {x a b}:dz S (.cd x a b) Q σ=KL (dz S a Q) (dz S b Q) σ (σ.v x):=rfl
variable {K A:St→Prop}
@[simp] theorem Lz {d v}:jJ K σ (some (d,v))=K (σ.put d v):=rfl
@[simp] theorem LA:jJ K σ none=False:=rfl
@[simp] theorem LB:KL A B σ (.bool true)=A σ:=rfl
@[simp] theorem KM:KL A B σ (.bool false)=B σ:=rfl
theorem uc {t:Bool} (h1:t=true→A σ) (h2:t=false→B σ):KL A B σ (.bool t):=by cases t;exact h2 rfl;exact h1 rfl
@[simp] theorem Mo:kT S [] K σ=K σ:=rfl
@[simp] theorem LC {o r}:kT S (o::r) K σ=bh S o (kT S r K) σ:=rfl
@[simp] theorem LD {j h}:jM S [] [] j h K σ=K σ:=rfl
@[simp] theorem KN {u us o r j h}:jM S (u::us) (o::r) j h K σ=(GE h u (eb σ o)∧bh S o (xR h u (jM S us r (j+1) (yI h j (eb σ o)) K)) σ):=rfl
@[simp] theorem Mp {u}:xR [] u K=K:=rfl
@[simp] theorem Mq {i b h u}:xR ((i,.one b)::h) u K=xR h u K:=rfl
@[simp] theorem ON {i l h u}:xR ((i,.fr l)::h) u K=xR h u K:=rfl
@[simp] theorem Mr {i b off v h u}:xR ((i,.cel b off v)::h) u K σ=((i∈u→dU σ.bx (.ptr b off)=some v)∧xR h u K σ):=rfl
@[simp] theorem OO {d f xs}:bh S (.cl d f xs) K σ=Oy S f d K σ (jy (xs.map σ.v)):=rfl
@[simp] theorem OP {d f s ps}:bh S (.ca d f s ps) K σ=Rf S f d s ps K σ:=rfl
attribute [simp] bh.eq_32 bh.eq_33
def Rn (S:Nat→Nat→In→bW→Prop) (f d:Nat) (K:St→Prop) (σ:St):List AV→Prop
 | .ptr b o::r=>match ar σ.bx b with
  |some cs=> ∃v,(∀e,b.isNw e=false→S f e ⟨.ptr b o::r,[(b,cs)],[]⟩ ⟨v,[(b,cs)],[]⟩)∧K ⟨(d,v)::σ.e,σ.bx,fU (rF σ.pm b) d⟩
  |none=>False
 |_=>False
def Qp (S:Nat→Nat→In→bW→Prop) (f d:Nat) (xs:List X) (fr:List Nat) (K:St→Prop) (σ:St):Prop:= ∃I O,S f d I O∧cD d σ xs I O∧(GA fr I O∧fr.contains d=false)∧K (a6 d σ xs I O)
@[simp] theorem OQ {d f xs fr}:bh S (.cq d f xs fr) K σ=Qp S f d xs fr K σ:=by rw [bh];rfl
@[simp] theorem OS {s b d o}:bh S (.gd s b d o) K σ=Oz b (bh S o K) (Qn K d) σ (lk σ.e s):=by
 rw [bh];rfl
@[simp] theorem LE {b t:Bool} {A U:St→Prop}:Oz b A U σ (.bool t)=KL (if true=b then A else U) (if false=b then A else U) σ (.bool t):=by
 cases t<;>cases b<;>rfl
@[simp] theorem Mt {b:Bool} {A U:St→Prop}:Oz b A U σ (.tup [])=U σ:=rfl
@[simp] theorem OT {d x}:bh S (.mv d x) K σ=jJ K σ (ev σ (.mv d x)):=rfl
@[simp] theorem OU {d c a b}:bh S (.pk d c a b) K σ=jJ K σ (ev σ (.pk d c a b)):=rfl
@[simp] theorem OV {d op x y}:bh S (.bi d op x y) K σ=jJ K σ (ev σ (.bi d op x y)):=rfl
@[simp] theorem OW {d n x y}:bh S (.bb d n x y) K σ=jJ K σ (ev σ (.bb d n x y)):=rfl
@[simp] theorem OX {d n ks x y}:bh S (.ea d n ks x y) K σ=jJ K σ (ev σ (.ea d n ks x y)):=rfl
@[simp] theorem OY {d x}:bh S (.bq d x) K σ=jJ K σ (ev σ (.bq d x)):=rfl
@[simp] theorem OZ {d n x}:bh S (.pn d n x) K σ=jJ K σ (ev σ (.pn d n x)):=rfl
@[simp] theorem O0 {d op x}:bh S (.un d op x) K σ=jJ K σ (ev σ (.un d op x)):=rfl
@[simp] theorem O1 {d k x}:bh S (.cv d k x) K σ=jJ K σ (ev σ (.cv d k x)):=rfl
@[simp] theorem Mu {d x}:bh S (.lns d x) K σ=jJ K σ (ev σ (.lns d x)):=rfl
@[simp] theorem O3 {d x}:bh S (.ln d x) K σ=jJ K σ (ev σ (.ln d x)):=rfl
@[simp] theorem O4 {d x o}:bh S (.fa d x o) K σ=jJ K σ (ev σ (.fa d x o)):=rfl
@[simp] theorem O5 {d s x i}:bh S (.ia d s x i) K σ=jJ K σ (ev σ (.ia d s x i)):=rfl
@[simp] theorem Mw {d s n x i}:bh S (.iaa d s n x i) K σ=jJ K σ (ev σ (.iaa d s n x i)):=rfl
@[simp] theorem Mx {d x}:bh S (.lds d x) K σ=jJ K σ (ev σ (.lds d x)):=rfl
@[simp] theorem My {d x}:bh S (.ldf d x) K σ=jJ K σ (ev σ (.ldf d x)):=rfl
@[simp] theorem Mz {d n x}:bh S (.lda d n x) K σ=jJ K σ (ev σ (.lda d n x)):=rfl
@[simp] theorem O6 {d z ps}:bh S (.bd d z ps) K σ=jJ K σ (ev σ (.bd d z ps)):=rfl
@[simp] theorem MA {d o x}:bh S (.fls d o x) K σ=jJ K σ (ev σ (.fls d o x)):=rfl
@[simp] theorem MB {d o n x}:bh S (.fla d o n x) K σ=jJ K σ (ev σ (.fla d o n x)):=rfl
@[simp] theorem MC {d x i}:bh S (.ixs d x i) K σ=jJ K σ (ev σ (.ixs d x i)):=rfl
@[simp] theorem MD {d x i}:bh S (.exq d x i) K σ=jJ K σ (ev σ (.exq d x i)):=rfl
@[simp] theorem O7 {d f xs}:bh S (.mf d f xs) K σ=jJ K σ (ev σ (.mf d f xs)):=rfl
@[simp] theorem ME {d x}:bh S (.b2s d x) K σ=jJ K σ (ev σ (.b2s d x)):=rfl
@[simp] theorem MF {d x}:bh S (.i2s d x) K σ=jJ K σ (ev σ (.i2s d x)):=rfl
@[simp] theorem MG {d n x}:bh S (.inl d n x) K σ=jJ K σ (ev σ (.inl d n x)):=rfl
@[simp] theorem MH {d s n g x i}:bh S (.ixa d s n g x i) K σ=jJ K σ (ev σ (.ixa d s n g x i)):=rfl
@[simp] theorem MI {d x}:bh S (.mpl d x) K σ=jJ K σ (ev σ (.mpl d x)):=rfl
@[simp] theorem MJ {d q z m k ok}:bh S (.mlk d q z m k ok) K σ=jJ K σ (ev σ (.mlk d q z m k ok)):=rfl
@[simp] theorem O8 {d x y}:bh S (.mn d x y) K σ=jJ K σ (ev σ (.mn d x y)):=rfl
@[simp] theorem O9 {d x y}:bh S (.mx d x y) K σ=jJ K σ (ev σ (.mx d x y)):=rfl
@[simp] theorem Pa {d T x}:bh S (.mi d T x) K σ=jJ K σ (ev σ (.mi d T x)):=rfl
@[simp] theorem Pb {d T z x ok}:bh S (.ta d T z x ok) K σ=jJ K σ (ev σ (.ta d T z x ok)):=rfl
@[simp] theorem Pd {d x}:bh S (.nc d x) K σ=jJ K σ (ev σ (.nc d x)):=rfl
end
@[simp] theorem ML (v:AV):wk v v:= .inl rfl
@[simp] theorem Pe:wk .nils (.sl []):= .inr ⟨rfl,rfl⟩
@[simp] theorem KO (z:List AV) (off:Nat) (vs:List AV):eX z off vs=z.take off++vs++z.drop (off+vs.length):=rfl

@[simp] theorem Qq {a u}:wk (.sl a) u=(AV.sl a=u):=by simp [wk]
@[simp] theorem Pf {k a u}:wk (.int k a) u=(AV.int k a=u):=by simp [wk]
@[simp] theorem MN {a u}:wk (.bool a) u=(AV.bool a=u):=by simp [wk]
@[simp] theorem Pg {a u}:wk (.str a) u=(AV.str a=u):=by simp [wk]
@[simp] theorem Ph {a u}:wk (.agg a) u=(AV.agg a=u):=by simp [wk]
@[simp] theorem Pi {a u}:wk (.pin a) u=(AV.pin a=u):=by simp [wk]
@[simp] theorem Pj {a b u}:wk (.ptr a b) u=(AV.ptr a b=u):=by simp [wk]
@[simp] theorem LF {a}:wk .nils (.sl a)=(a=[]):=by simp [wk]
theorem am {σ τ:St} (e: ∀p∈τ.e,wk (lk σ.e p.1) p.2) (b: ∀p∈τ.bx,Dm σ.bx p.1 p.2) (p: ∀p∈τ.pm,aA σ.pm p.1=some p.2∨jL σ p.1)
 (ei: ∀p∈τ.e,∀d∈p.2.ids,(ar τ.bx d).isSome∨d.isUp=true) (bi: ∀p∈τ.bx,∀d∈bc p.2,(ar τ.bx d).isSome∨d.isUp=true) (pi: ∀p∈τ.pm,∀d∈p.1.ids,(ar τ.bx d).isSome):e7 σ τ:=⟨e,b,p,ei,bi,pi⟩

def LG {α:Type} (st:α→St) (I:α→Prop) (μ:α→Nat) (x:α) (σ:St):Prop:= ∃y,I y∧μ y<μ x∧sA σ (st y)
theorem D3 {α:Type} {st:α→St} {I:α→Prop} {μ:α→Nat} {x:α} {σ:St} (y:α) (h1:I y) (h2:μ y<μ x) (h3:e7 σ (st y)):LG st I μ x σ:=⟨y,h1,h2,.inl h3⟩
theorem an {n:Int} (h1: -9223372036854775808≤n) (h2:n<9223372036854775808):IntKind.i64.wrap n=n:=by
 have e1:(2:Int)^64=18446744073709551616:=by decide
 have e2:(2:Int)^(64 - 1)=9223372036854775808:=by decide
 have:IntKind.i64.wrap n=if (true&&decide (n%2^64≥2^(64 - 1)))=true then n%2^64 - 2^64 else n%2^64:=rfl
 rw [this];simp only [e1,e2,kL,rD];split<;>omega
theorem cN {n:Int} (h1:0≤n) (h2:n<18446744073709551616):IntKind.u64.wrap n=n:=by
 have e1:(2:Int)^64=18446744073709551616:=by decide
 have e2:(2:Int)^(64 - 1)=9223372036854775808:=by decide
 have:IntKind.u64.wrap n=if (false&&decide (n%2^64≥2^(64 - 1)))=true then n%2^64 - 2^64 else n%2^64:=rfl
 rw [this];simp only [e1,e2,lQ];simp;omega
theorem gI {n:Int} (h1:0≤n) (h2:n<4294967296):IntKind.u32.wrap n=n:=by
 have e1:(2:Int)^32=4294967296:=by decide
 have:IntKind.u32.wrap n=if (false&&decide (n%2^32≥2^(32 - 1)))=true then n%2^32 - 2^32 else n%2^32:=rfl
 rw [this];simp only [e1,lQ];simp;omega
theorem fi {n:Int}:IntKind.u32.wrap n=n%4294967296:=by
 have e1:(2:Int)^32=4294967296:=by decide
 have:IntKind.u32.wrap n=if (false&&decide (n%2^32≥2^(32 - 1)))=true then n%2^32 - 2^32 else n%2^32:=rfl
 rw [this];simp only [e1,lQ];simp
theorem AH {n:Int} (h1:0≤n) (h2:n<256):IntKind.u8.wrap n=n:=by
 have e1:(2:Int)^8=256:=by decide
 have:IntKind.u8.wrap n=if (false&&decide (n%2^8≥2^(8 - 1)))=true then n%2^8 - 2^8 else n%2^8:=rfl
 rw [this];simp only [e1,lQ];simp;omega
theorem B4 {n:Int}:IntKind.u64.wrap n=n%18446744073709551616:=by
 have e1:(2:Int)^64=18446744073709551616:=by decide
 have:IntKind.u64.wrap n=if (false&&decide (n%2^64≥2^(64 - 1)))=true then n%2^64 - 2^64 else n%2^64:=rfl
 rw [this];simp only [e1,lQ];simp
theorem p7 {S:Nat→Nat→In→bW→Prop} {K K':St→Prop} (hk: ∀σ,K σ→K' σ): ∀ {o:be} {σ:St},bh S o K σ→bh S o K' σ:=by
 intro o;induction o with
 |gd s b d o ih=>
  intro σ h;simp only [bh] at h ⊢;split at h
  ·exact ih h
  ·exact hk _ h
  ·cases h
 |ce d f xs=>intro σ h;obtain ⟨I,O,h1,h2,h3⟩:=h;exact ⟨I,O,h1,h2,hk _ h3⟩
 |cq d f xs fr=>intro σ h;obtain ⟨I,O,h1,h2,h3,h4⟩:=h;exact ⟨I,O,h1,h2,h3,hk _ h4⟩
 |cd d x xs=>
  intro σ h;simp only [bh] at h ⊢;split at h
  ·obtain ⟨I,O,h1,h2,h3⟩:=h;exact ⟨I,O,h1,h2,hk _ h3⟩
  ·cases h
 |nx d x=>
  intro σ h;simp only [bh] at h ⊢;split at h
  ·split at h
   ·split at h
    ·rename_i e;rw [if_pos e];exact hk _ h
    ·rename_i e;rw [if_neg e];exact hk _ h
   ·cases h
  ·cases h
 |_=>
  intro σ h;simp only [bh] at h ⊢;repeat' (first|(split at h)|contradiction)
  all_goals first
   |exact hk _ h
   |(obtain ⟨g1,g2⟩:=h;exact ⟨g1,hk _ g2⟩)
   |(obtain ⟨g1,g2,g3⟩:=h;exact ⟨g1,g2,hk _ g3⟩)
   |(obtain ⟨g1,g2,g3,g4⟩:=h;exact ⟨g1,g2,g3,hk _ g4⟩)
   |(obtain ⟨g1,g2,g3,g4,g5⟩:=h;exact ⟨g1,g2,g3,g4,hk _ g5⟩)
   |(obtain ⟨g1,g2,g3,g4,g5,g6⟩:=h;exact ⟨g1,g2,g3,g4,g5,hk _ g6⟩)
   |(obtain ⟨g1,g2,g3,g4,g5,g6,g7,g8⟩:=h;exact ⟨g1,g2,g3,g4,g5,g6,g7,hk _ g8⟩)
   |(obtain ⟨g1,g2,g3,g4,g5,g6,g7,g8,g9,g10,g11⟩:=h;exact ⟨g1,g2,g3,g4,g5,g6,g7,g8,g9,g10,hk _ g11⟩)
   |(obtain ⟨g1,g2,g3,g4,g5,g6,g7,g8,g9,g10,g11,g12,g13,g14⟩:=h;exact ⟨g1,g2,g3,g4,g5,g6,g7,g8,g9,g10,g11,g12,g13,hk _ g14⟩)
theorem LH {S:Nat→Nat→In→bW→Prop} {α:Type} {c:AC} {Q:AE→St→Prop} (st:α→St) (I:α→Prop) (μ:α→Nat)
  (step: ∀x,I x→dz S c (AE.sq (LG st I μ x) Q) (st x)) {σ:St} (x:α) (hx:I x) (hw:e7 σ (st x)):dz S (.lp c) Q σ:=by
 have mono: ∀ {c:AC} {Q Q':AE→St→Prop} {σ:St},(∀e σ,Q e σ→Q' e σ)→dz S c Q σ→dz S c Q' σ:=by
  intro c;have m1: ∀ {o:be} {K K':St→Prop} {σ:St},(∀σ,K σ→K' σ)→bh S o K σ→bh S o K' σ:=fun hk h=>p7 hk h
  have mL: ∀ {l:List be} {K K':St→Prop} {σ:St},(∀σ,K σ→K' σ)→kT S l K σ→kT S l K' σ:=by
   intro l;induction l with
   |nil=>intro K K' σ hk h;exact hk _ h
   |cons o r ih=>intro K K' σ hk h;exact m1 (fun σ h=>ih hk h) h
  have mD: ∀ {us:List (List Nat)} {l:List be} {j:Nat} {h:List (Nat×Bx)} {K K':St→Prop} {σ:St},(∀σ,K σ→K' σ)→jM S us l j h K σ→jM S us l j h K' σ:=by
   intro us;induction us with
   |nil=>intro l j h K K' σ hk hw;cases l with
    |nil=>exact hk _ hw
    |cons=>exact hw.elim
   |cons u us ih=>intro l j h K K' σ hk hw;cases l with
    |nil=>exact hw.elim
    |cons o r=>exact ⟨hw.1,m1 (fun σ h=>eL.2 ⟨(eL.1 h).1,ih hk (eL.1 h).2⟩) hw.2⟩
  have sqm: ∀ {B B':St→Prop} {Q Q':AE→St→Prop},(∀σ,B σ→B' σ)→(∀e σ,Q e σ→Q' e σ)→ ∀e σ,AE.sq B Q e σ→AE.sq B' Q' e σ:=by
   intro B B' Q Q' hb hq e σ h;cases e
   ·exact hb _ h
   ·exact hq _ _ h
   ·exact hq _ _ h
  induction c with
  |sk=>intro Q Q' σ hq h;exact hq _ _ h
  |rg l=>intro Q Q' σ hq h;exact mL (fun σ h=>hq _ _ h) h
  |rd us l=>intro Q Q' σ hq h;exact mD (fun σ h=>hq _ _ h) h
  |sq a b iha ihb=>intro Q Q' σ hq h;exact iha (sqm (fun σ h=>ihb hq h) hq) h
  |cd x a b iha ihb=>
   intro Q Q' σ hq h;unfold dz at h ⊢;split at h
   ·rename_i t ht;split at h
    ·rename_i e;rw [if_pos e];exact iha hq h
    ·rename_i e;rw [if_neg e];exact ihb hq h
   ·cases h
  |bl i a ih=>
   intro Q Q' σ hq h;refine ih (fun e σ h=>?_) h;cases e
   ·exact hq _ _ h
   ·rename_i j;unfold AE.bl at h ⊢;by_cases e:j=i
    ·simp only [if_pos e] at h ⊢;exact hq _ _ h
    ·simp only [if_neg e] at h ⊢;exact hq _ _ h
   ·exact hq _ _ h
  |lp a ih=>
   intro Q Q' σ hq h;obtain ⟨n,hn⟩:=h;refine ⟨n,?_⟩;induction n generalizing σ with
   |zero=>exact hn
   |succ n ihn=>
    obtain ⟨τ,hτ,hb⟩:=hn;exact ⟨τ,hτ,ih (sqm (fun σ h=>ihn h) hq) hb⟩
  |ex i=>intro Q Q' σ hq h;exact hq _ _ h
  |rt=>intro Q Q' σ hq h;exact hq _ _ h
  |sc a ih=>intro Q Q' σ hq h;exact ih hq h
  |lb=>intro Q Q' σ hq h;exact hq _ _ h
  |no=>intro Q Q' σ hq h;exact h
  |fz s l=>intro Q Q' σ hq h;obtain ⟨b,n,sz,rows,tl,q1,q2,q3⟩:=h;exact ⟨b,n,sz,rows,tl,q1,q2,mL (fun σ h=>hq _ _ h) q3⟩
 have key: ∀n x,μ x<n→I x→ ∀σ,sA σ (st x)→Au (dz S c) Q n σ:=by
  intro n;induction n with
  |zero=>intro x h;omega
  |succ n ih=>
   intro x hn hx σ hw;refine ⟨st x,hw,mono ?_ (step x hx)⟩;intro e σ' h;cases e
   ·obtain ⟨y,hy,hlt,hwy⟩:=h;exact ih y (by omega) hy σ' hwy
   ·exact h
   ·exact h
 exact ⟨μ x+1,key _ x (by omega) hx σ (.inl hw)⟩

theorem bT {S:Nat→Nat→In→bW→Prop} {α:Type} {c:AC} {Q:AE→St→Prop} (st:α→St) (I:α→Prop) (μ:α→Nat)
  (step: ∀(K:St→Prop) (x:α),(∀(y:α) (σ':St),I y→μ y<μ x→e7 σ' (st y)→K σ')→I x→dz S c (AE.sq K Q) (st x)) {σ:St} (x:α) (hx:I x) (hw:e7 σ (st x)):dz S (.lp c) Q σ:=
 LH st I μ (fun x hx=>step (LG st I μ x) x (fun y σ' h1 h2 h3=>D3 y h1 h2 h3) hx) x hx hw
def AC.tl:Nat→AC→AC
 |0,c=>c
 |n+1,.sq _ b=>b.tl n
 |_,c=>c
@[irreducible] def b7 (P:Program) (GL:List (Nat×List Value)) (f d:Nat) (I:In) (O:bW):Prop:=aX P GL f d I O
theorem eN (P:Program) (GL:List (Nat×List Value)):b7 P GL=aX P GL:=by funext f d I O;unfold b7;rfl
@[irreducible] def Sp (P:Program) (GL:List (Nat×List Value)) (f:Nat) (l:List AV) (r:AV):Prop:=sy (b7 P GL) f l r
theorem vY (P:Program) (GL:List (Nat×List Value)) {f:Nat} {l:List AV} {r:AV}:Sp P GL f l r↔sy (aX P GL) f l r:=by unfold Sp;rw [eN]
theorem aT {P:Program} {GL:List (Nat×List Value)} {K:St→Prop} {σ:St} {f d:Nat} {l:List AV} (r:AV) (h:Sp P GL f l r) (hk:K (σ.put d r)):Oy (b7 P GL) f d K σ (some l):=by
 unfold Sp at h;exact ⟨r,h,hk⟩
theorem ab {P:Program} {GL:List (Nat×List Value)} {K:St→Prop} {σ:St} {f d:Nat} {l:List AV} {r:AV} (h:Sp P GL f l r) (hk:K (σ.put d r)):Oy (b7 P GL) f d K σ (some l):=aT r h hk
theorem JC {P:Program} {GL:List (Nat×List Value)} {dr:Array Oper→List (List Nat)→List be→Bool} {f:Nat} {fn:Func} {af:AF} (hf:P.funcs[f]?=some fn) (hm:mF P GL dr fn af=true) (hd:bI P GL af.N dr) {l:List AV} {r:AV} (hl:l.length=af.np) (hi:bc l=[])
  (hw:dz (b7 P GL) af.c (p0 af.rs r) ⟨dP 0 l,[],[]⟩):Sp P GL f l r:=by
 rw [eN] at hw;exact (vY P GL).2 (BW hf hm hd hl hi hw)
end Go.Ai
namespace Go.Ai
open Go.RowKit
variable {P:Program} {F:Fr} {S:aI} {gb:Gb} {σ:St} {a:Act} {w:World}

end Go.Ai
namespace Go.Ai
open Go.RowKit
variable {P:Program} {F:Fr} {S:aI} {gb:Gb} {σ:St} {a:Act} {w:World}

mutual
def nz:AV→AV
 | .nils=> .sl []
 | .fn g cs=> .fn g (Gn cs)
 | .agg cs=> .agg (Gn cs)
 | .tup cs=> .tup (Gn cs)
 |v=>v
def Gn:List AV→List AV
 |[]=>[]
 |v::r=>nz v::Gn r
end
def az (I:In):St:=⟨dP 0 (a7 Id.up I.vs),bE Id.up I.bx,bK Id.up I.pm⟩

mutual
theorem p8 {f:Id→Id}: ∀ {v:AV},v.ids=[]→v.mp f=v
 | .ptr _ _,h=>by simp [AV.ids] at h
 | .ms _ _ _ _,h=>by simp [AV.ids] at h
 | .itp _,h=>by simp [AV.ids] at h
 | .mref _,h=>by simp [AV.ids] at h
 | .nilT _ _ _,h=>by simp [AV.ids] at h
 | .mpv _,_=>rfl
 | .fn g cs,h=>by simp only [AV.mp];rw [gp (by simpa [AV.ids] using h)]
 | .agg cs,h=>by simp only [AV.mp];rw [gp (by simpa [AV.ids] using h)]
 | .tup cs,h=>by simp only [AV.mp];rw [gp (by simpa [AV.ids] using h)]
 | .undef,_=>rfl
 | .int _ _,_=>rfl
 | .bool _,_=>rfl
 | .str _,_=>rfl
 | .nils,_=>rfl
 | .sl _,_=>rfl
 | .pin _,_=>rfl
 | .itr _ _,_=>rfl
 | .nilp,_=>rfl
 | .ifc _ v,h=>by simp only [AV.mp];rw [p8 (v:=v) (by simpa [AV.ids] using h)]
 | .nili,_=>rfl
 | .yv _,_=>rfl
theorem gp {f:Id→Id}: ∀ {l:List AV},bc l=[]→a7 f l=l
 |[],_=>rfl
 |v::r,h=>by
  simp only [bc,List.append_eq_nil_iff] at h;simp only [a7];rw [p8 h.1,gp h.2]
end
mutual
theorem AI {S:aI} {gb:Gb}: ∀(v:AV) (u:Value),PR S gb v u→PR S (dV gb) (v.mp Id.up) u
 | .ptr d o,u,h=>by simpa only [AV.mp,PR,dV,Id.isIt] using h
 | .ms d o n sz,u,h=>by simpa only [AV.mp,PR,dV,Id.isIt] using h
 | .itp _,u,_=>by simp [AV.mp,PR]
 | .mref d,u,h=>by simpa only [AV.mp,PR,dV,Id.isIt] using h
 | .nilT d _ _,u,h=>by simpa only [AV.mp,PR,dV] using h
 | .mpv _,_,h=>by simp only [PR] at h
 | .fn g cs,u,h=>by
  simp only [AV.mp,PR] at h ⊢;obtain ⟨us,h1,h2⟩:=h;exact ⟨us,h1,cO _ _ h2⟩
 | .agg cs,u,h=>by
  simp only [AV.mp,PR] at h ⊢;obtain ⟨us,h1,h0,h2⟩:=h;exact ⟨us,h1,h0,cO _ _ h2⟩
 | .tup cs,u,h=>by
  simp only [AV.mp,PR] at h ⊢;obtain ⟨us,h1,h2⟩:=h;exact ⟨us,h1,cO _ _ h2⟩
 | .undef,_,_=>by simp only [AV.mp,PR]
 | .int _ _,_,h=>by simpa only [AV.mp,PR] using h
 | .bool _,_,h=>by simpa only [AV.mp,PR] using h
 | .str _,_,h=>by simpa only [AV.mp,PR] using h
 | .nils,_,h=>by simpa only [AV.mp,PR] using h
 | .sl _,_,h=>by simpa only [AV.mp,PR] using h
 | .pin _,_,h=>by simpa only [AV.mp,PR] using h
 | .itr _ _,_,h=>by simp only [PR] at h
 | .nilp,_,h=>by simpa only [AV.mp,PR] using h
 | .ifc _ v,u,h=>by
  simp only [AV.mp,PR] at h ⊢;obtain ⟨us,h1,h2⟩:=h;exact ⟨us,h1,AI v _ h2⟩
 | .nili,_,h=>by simpa only [AV.mp,PR] using h
 | .yv _,_,h=>by simpa only [AV.mp,PR] using h
theorem cO {S:aI} {gb:Gb}: ∀(l:List AV) (us:List Value),aa S gb l us→aa S (dV gb) (a7 Id.up l) us
 |[],us,h=>by simpa only [a7,aa] using h
 |v::r,us,h=>by
  simp only [a7,aa] at h ⊢;obtain ⟨u,us',h1,h2,h3⟩:=h;exact ⟨u,us',h1,AI v u h2,cO r us' h3⟩
end
mutual
theorem ID {S:aI} {gb:Gb}: ∀(v:AV) (u:Value),PR S gb v u→PR S gb (nz v) u
 | .nils,u,h=>by simp only [nz,PR] at h ⊢;exact .inl ⟨h,trivial⟩
 | .fn g cs,u,h=>by
  simp only [nz,PR] at h ⊢;obtain ⟨us,h1,h2⟩:=h;exact ⟨us,h1,iL _ _ h2⟩
 | .agg cs,u,h=>by
  simp only [nz,PR] at h ⊢;obtain ⟨us,h1,h0,h2⟩:=h;exact ⟨us,h1,h0,iL _ _ h2⟩
 | .tup cs,u,h=>by
  simp only [nz,PR] at h ⊢;obtain ⟨us,h1,h2⟩:=h;exact ⟨us,h1,iL _ _ h2⟩
 | .ptr _ _,_,h=>h
 | .ms _ _ _ _,_,h=>h
 | .itp _,_,h=>h
 | .mref _,_,h=>h
 | .nilT _ _ _,_,h=>h
 | .mpv _,_,h=>h
 | .undef,_,h=>h
 | .int _ _,_,h=>h
 | .bool _,_,h=>h
 | .str _,_,h=>h
 | .sl _,_,h=>h
 | .pin _,_,h=>h
 | .itr _ _,_,h=>h
 | .nilp,_,h=>h
 | .ifc _ _,_,h=>h
 | .nili,_,h=>h
 | .yv _,_,h=>h
theorem iL {S:aI} {gb:Gb}: ∀(l:List AV) (us:List Value),aa S gb l us→aa S gb (Gn l) us
 |[],us,h=>h
 |v::r,us,h=>by
  simp only [Gn,aa] at h ⊢;obtain ⟨u,us',h1,h2,h3⟩:=h;exact ⟨u,us',h1,ID v u h2,iL r us' h3⟩
end
theorem qa: ∀(l:List AV),(Gn l).length=l.length
 |[]=>rfl
 |v::r=>by simp only [Gn,dT,qa r]
theorem fj {f:Id→Id}: ∀(l:List AV),(a7 f l).length=l.length
 |[]=>rfl
 |v::r=>by simp only [a7,dT,fj r]

def cp (d:Nat) (gbc:Gb) (ob:List (Id×List AV)):Gb:=fun i=>if i.isNw d=true∧(ar ob i).isSome=false then none else gbc (i.inn d)
def vZ (d:Nat) (ob:List (Id×List AV)) (i:Id):Prop:=i.isIt=false∧(i.isNw d=true→(ar ob i).isSome=true)
theorem dW {d:Nat} {gbc:Gb} {ob:List (Id×List AV)} {i:Id} (h:i.isNw d=true→(ar ob i).isSome=true):cp d gbc ob i=gbc (i.inn d):=by
 unfold cp;rw [if_neg];rintro ⟨h1,h2⟩;rw [h h1] at h2;cases h2
theorem v6 {d:Nat} {i:Id}:(i.inn d).isIt=i.isIt:=by
 cases i<;>simp only [Id.inn]<;>(try split)<;>simp_all [Id.isIt]
mutual
theorem yX {S:aI} {d:Nat} {gbc:Gb} {ob:List (Id×List AV)}: ∀(v:AV) (u:Value),(∀i∈v.ids,vZ d ob i)→PR S gbc (v.mp (Id.inn d)) u→PR S (cp d gbc ob) v u
 | .ptr i o,u,hi,h=>by
  obtain ⟨h1,h2⟩:=hi i (by simp [AV.ids]);simp only [AV.mp,PR] at h ⊢;obtain ⟨g,z,e1,e2,e3⟩:=h;exact ⟨g,z,by rw [dW h2];exact e1,h1,e3⟩
 | .ms i o n sz,u,hi,h=>by
  obtain ⟨h1,h2⟩:=hi i (by simp [AV.ids]);simp only [AV.mp,PR] at h ⊢;obtain ⟨g,z,cap,e1,e2,e3⟩:=h;exact ⟨g,z,cap,by rw [dW h2];exact e1,h1,e3⟩
 | .itp k,u,hi,_=>by
  have:=(hi (.it k) (by simp [AV.ids])).1
  simp [Id.isIt] at this
 | .mref i,u,hi,h=>by
  have h1:=(hi i (by simp [AV.ids])).1;simp only [AV.mp,PR] at h;obtain ⟨g,z,_,e2,_⟩:=h;rw [v6,h1] at e2;cases e2
 | .mpv _,_,_,h=>by simp only [AV.mp,PR] at h
 | .nilT i _ _,u,hi,h=>by
  obtain ⟨h1,h2⟩:=hi i (by simp [AV.ids]);simp only [AV.mp,PR] at h ⊢;obtain ⟨e0,g,e1⟩:=h;exact ⟨e0,g,by rw [dW h2];exact e1⟩
 | .fn g cs,u,hi,h=>by
  simp only [AV.mp,PR] at h ⊢;obtain ⟨us,h1,h2⟩:=h;exact ⟨us,h1,gJ _ _ (by simpa [AV.ids] using hi) h2⟩
 | .agg cs,u,hi,h=>by
  simp only [AV.mp,PR] at h ⊢;obtain ⟨us,h1,h0,h2⟩:=h;exact ⟨us,h1,h0,gJ _ _ (by simpa [AV.ids] using hi) h2⟩
 | .tup cs,u,hi,h=>by
  simp only [AV.mp,PR] at h ⊢;obtain ⟨us,h1,h2⟩:=h;exact ⟨us,h1,gJ _ _ (by simpa [AV.ids] using hi) h2⟩
 | .undef,_,_,_=>by simp only [AV.mp,PR]
 | .int _ _,_,_,h=>by simpa only [AV.mp,PR] using h
 | .bool _,_,_,h=>by simpa only [AV.mp,PR] using h
 | .str _,_,_,h=>by simpa only [AV.mp,PR] using h
 | .nils,_,_,h=>by simpa only [AV.mp,PR] using h
 | .sl _,_,_,h=>by simpa only [AV.mp,PR] using h
 | .pin _,_,_,h=>by simpa only [AV.mp,PR] using h
 | .itr _ _,_,_,h=>by simp only [AV.mp,PR] at h
 | .nilp,_,_,h=>by simpa only [AV.mp,PR] using h
 | .nili,_,_,h=>by simpa only [AV.mp,PR] using h
 | .yv _,_,_,h=>by simpa only [AV.mp,PR] using h
 | .ifc _ v,u,hi,h=>by
  simp only [AV.mp,PR] at h ⊢;obtain ⟨us,h1,h2⟩:=h;exact ⟨us,h1,yX v _ (by simpa [AV.ids] using hi) h2⟩
theorem gJ {S:aI} {d:Nat} {gbc:Gb} {ob:List (Id×List AV)}: ∀(l:List AV) (us:List Value),(∀i∈bc l,vZ d ob i)→aa S gbc (a7 (Id.inn d) l) us→aa S (cp d gbc ob) l us
 |[],us,_,h=>by simpa only [a7,aa] using h
 |v::r,us,hi,h=>by
  simp only [a7,aa] at h ⊢;obtain ⟨u,us',h1,h2,h3⟩:=h;exact ⟨u,us',h1,yX v u (fun i hm=>hi i (by simp [bc,hm])) h2,gJ r us' (fun i hm=>hi i (by simp [bc,hm])) h3⟩
end
theorem AJ {d:Nat} {i j:Id} (h:i.inn d=j.inn d):i=j:=by
 cases i<;>cases j<;>simp only [Id.inn] at h<;>(try split at h)<;>(try split at h)<;>simp_all [Id.isUp];all_goals (first|(subst h;simp_all [Id.isUp])|skip)
theorem yY {d:Nat} {i:Id} (h:i.isIt=true):(i.inn d).isIt=true:=by
 rw [v6];exact h
theorem aP {d:Nat} {i:Id} (h:i.isNw d=false):i.inn d= .up i:=by
 cases i with
 |nw d' j=>
  simp only [Id.inn];rw [if_neg];rintro ⟨rfl,h2⟩;cases j<;>simp_all [Id.isNw,Id.isUp]
 |_=>rfl
theorem AK {f:Id→Id} (hf: ∀i j,f i=f j→i=j): ∀(l:List (Id×List AV)) (i:Id),ar (bE f l) (f i)=(ar l i).map (a7 f)
 |[],i=>rfl
 |(d,cs)::r,i=>by
  simp only [bE,ar];by_cases e:d=i
  ·subst e;simp
  ·rw [if_neg (fun q=>e (hf _ _ q)),if_neg e,AK hf r i]
theorem ba {f:Id→Id} (hf: ∀i j,f i=f j→i=j): ∀ {l:List (Id×List AV)} {j:Id} {cs:List AV},ar (bE f l) j=some cs→ ∃i cs',j=f i∧ar l i=some cs'∧cs=a7 f cs'
 |[],j,cs,h=>by simp [bE,ar] at h
 |(d,c)::r,j,cs,h=>by
  simp only [bE,ar] at h;split at h
  ·rename_i e;simp only [bV] at h;exact ⟨d,c,e.symm,by simp [ar],h.symm⟩
  ·rename_i e;obtain ⟨i,cs',h1,h2,h3⟩:=ba hf h;exact ⟨i,cs',h1,by simp only [ar];rw [if_neg (fun q=>e (by rw [q,h1]))];exact h2,h3⟩
theorem dK {f:Id→Id} (hf: ∀i j,f i=f j→i=j): ∀ {l:List (Pl×Nat)} {q:Pl} {k:Nat},aA (bK f l) q=some k→ ∃p,q=p.mp f∧aA l p=some k
 |[],q,k,h=>by simp [bK,aA] at h
 |(p,k')::r,q,k,h=>by
  simp only [bK,aA] at h;split at h
  ·rename_i e;simp only [bV] at h;exact ⟨p,e.symm,by simp [aA,h]⟩
  ·rename_i e;obtain ⟨p',h1,h2⟩:=dK hf h;exact ⟨p',h1,by simp only [aA];rw [if_neg (fun q=>e (by rw [q,h1]))];exact h2⟩
theorem jk {gb:Gb} {sv:Nat→Value} {w:World} (p:Pl):bL (dV gb) sv w (p.mp Id.up)=bL gb sv w p:=by
 cases p<;>rfl
theorem bU (i j:Id) (h:Id.up i=Id.up j):i=j:=by cases h;rfl

theorem HR.up {bx:List (Id×List AV)} {pm:List (Pl×Nat)} {sv:Nat→Value} (h:HR S gb bx pm sv w):HR S (dV gb) (bE Id.up bx) (bK Id.up pm) sv w:=by
 refine ⟨h.agree,?_,?_,?_,?_,?_,?_,?_⟩
 ·intro d cs hcs hi;obtain ⟨i,cs',rfl,h2,rfl⟩:=ba bU hcs;obtain ⟨g,us,T,e1,e3,e0,e4,e5,e6⟩:=h.box i cs' h2 hi;exact ⟨g,us,T,e1,e3,by rw [fj];exact e0,by rw [fj];exact cO _ _ e4,e5,e6⟩
 ·intro d cs hcs hi;obtain ⟨i,cs',rfl,h2,rfl⟩:=ba bU hcs;obtain ⟨g,z,ob,e1,e2,e3,e6⟩:=h.its i cs' h2 hi;refine ⟨g,z,ob,e1,?_,e3,e6⟩;unfold DH at e2;split at e2
  ·exact e2
  ·exact e2
  ·cases e2
 ·intro d d' g z z' i1 i2 q1 q2;obtain ⟨c1,hc1⟩:=gU.1 i1;obtain ⟨c2,hc2⟩:=gU.1 i2;obtain ⟨i,cs,rfl,h2,rfl⟩:=ba bU hc1;obtain ⟨j,cs',rfl,h3,rfl⟩:=ba bU hc2;rw [h.inj i j g z z' (by rw [h2];rfl) (by rw [h3];rfl) q1 q2]
 ·intro p k hp;obtain ⟨q,rfl,h2⟩:=dK bU hp;rw [jk];exact h.own q k h2
 ·intro p q k l b hp hq h1 h2;obtain ⟨p',rfl,p2⟩:=dK bU hp;obtain ⟨q',rfl,q2⟩:=dK bU hq;rw [jk] at h1 h2;rw [h.ownd p' q' k l b p2 q2 h1 h2]
 ·intro p k b d z hp h1 hd;obtain ⟨p',rfl,p2⟩:=dK bU hp;rw [jk] at h1;obtain ⟨c1,hc1⟩:=gU.1 hd;obtain ⟨i,cs,rfl,h2,rfl⟩:=ba bU hc1;exact h.ownb p' k b i z p2 h1 (by rw [h2];rfl)
 ·intro d off k hp;obtain ⟨q,e,h2⟩:=dK bU hp;cases q with
  |b i o=>
   simp only [Pl.mp,Pl.b.injEq] at e;obtain ⟨rfl,rfl⟩:=e;obtain ⟨h3,h4⟩:=h.pmb i _ k h2;refine ⟨?_,h4⟩;rw [AK bU];simpa using h3
  |s t=>cases e
  |t t i=>cases e

def Pk (v u:AV):Prop:=v=u∨nz v=u
def JD (v u:List AV):Prop:=v=u∨Gn v=u
def LI (d:Nat) (σ:St) (i:Id) (cs:List AV):Prop:=match ar σ.bx (i.inn d) with
 |some c=>JD c (a7 (Id.inn d) cs)
 |none=>False
def sN (d:Nat) (rs:List AR) (ob:List (Id×List AV)) (σ:St):Pl×Nat→Prop
 |(.s t,k)=>t=0∧(match rs with |[.t s]=>aA σ.pm (.s s)=some k∨lk σ.e s= .nils|_=>False)
 |(.t t i,k)=>t=0∧2≤rs.length∧(match rs[i]? with |some (.t s)=>aA σ.pm (.s s)=some k∨lk σ.e s= .nils|_=>False)
 |(.b i o,k)=>(ar ob i).isSome=true∧(aA σ.pm (.b (i.inn d) o)=some k∨jL σ (.b (i.inn d) o))
def j5:List AR→Prop
 |[]=>True
 | .t s::r=>(∀x∈r,x≠ .t s)∧j5 r
 |_::r=>j5 r
structure gZ (d:Nat) (rs:List AR) (O:bW) (σ:St):Prop where
 r:match fQ σ rs with |some vs=>Pk (vS vs) (O.r.mp (Id.inn d))|none=>False
 ids: ∀i∈O.r.ids,vZ d O.bx i
 bx: ∀p∈O.bx,(p.1.inn d).isIt=false∧LI d σ p.1 p.2
 bi: ∀p∈O.bx,∀i∈bc p.2,vZ d O.bx i
 pm: ∀p∈O.pm,sN d rs O.bx σ p
 nd:O.pm=[]∨j5 rs
inductive mc:St→St→Prop
 |z (σ:St):mc σ σ
 |s {σ τ:St} (s:Nat) (b:Id) (n sz:Nat) (rows:List (List AV)):DG σ s b n sz rows→sz<KB→mc (gC σ s b sz rows) τ→mc σ τ
 |t {σ τ:St} (s:Nat) (b:Id) (n sz:Nat) (rows:List (List AV)) (tl:List AV):ld σ s b n sz rows tl→sz<KB→mc (gC σ s b sz rows) τ→mc σ τ
def ct (d:Nat) (rs:List AR) (O:bW):AE→St→Prop
 | .x _,_=>False
 |_,σ=> ∃τ,mc σ τ∧gZ d rs O τ
theorem aE.frzs {σ τ:St} (hf:mc σ τ): ∀ {S:aI} {gb:Gb},aE F S gb σ a w→ ∃S' gb',aE F S' gb' τ a w:=by
 induction hf with
 |z σ=>intro S gb h;exact ⟨S,gb,h⟩
 |s s b n sz rows h1 hk h2 ih=>
  intro S gb h;obtain ⟨S',gb',h3⟩:=h.freezeP h1.two hk;exact ih h3
 |t s b n sz rows tl h1 hk h2 ih=>
  intro S gb h;obtain ⟨S',gb',h3⟩:=h.freezeP h1 hk;exact ih h3
theorem v7: ∀ {rs:List AR},j5 rs→ ∀ {i j s:Nat},rs[i]?=some (.t s)→rs[j]?=some (.t s)→i=j
 |[],_,i,j,s,h,_=>by simp at h
 |x::r,ho,i,j,s,hi,hj=>by
  have hr:j5 r:=by cases x<;>simp only [j5] at ho<;>first|exact ho.2|exact ho
  cases i with
  |zero=>
   cases j with
   |zero=>rfl
   |succ j=>
    simp at hi hj;subst hi;simp only [j5] at ho;exact absurd rfl (ho.1 _ (List.mem_of_getElem? hj))
  |succ i=>
   cases j with
   |zero=>
    simp at hi hj;subst hj;simp only [j5] at ho;exact absurd rfl (ho.1 _ (List.mem_of_getElem? hi))
   |succ j=>
    simp at hi hj;rw [v7 hr hi hj]

theorem aE.out (h:aE F S gb σ a w) {d:Nat} {rs:List AR} {O:bW} (ho:gZ d rs O σ) {vs:List AV} (hv:fQ σ rs=some vs) {us:List Value} (hu:aa S gb vs us) (hs: ∀(i s:Nat),rs[i]?=some (AR.t s)→us[i]?=some (tv a s)) (hl:rs.length=us.length):
  let v:=if h:us.toArray.size=1 then us.toArray[0] else .tuple us.toArray
  PR S (cp d gb O.bx) O.r v∧HR S (cp d gb O.bx) O.bx O.pm (fun _=>v) w∧(∀i g z,(ar O.bx i).isSome→cp d gb O.bx i=some (g,z)→F.w0.heap.size≤g∨F.M g)∧
   (∀p k g,aA O.pm p=some k→(bL (cp d gb O.bx) (fun _=>v) w p).ownBlock=some g→F.w0.heap.size≤g∨F.M g):=by
 intro v;have hval: ∀i,(ar O.bx i).isSome=true→cp d gb O.bx i=gb (i.inn d):=fun i hi=>dW (fun _=>hi)
 have hbox: ∀i cs,ar O.bx i=some cs→ ∃c,ar σ.bx (i.inn d)=some c∧JD c (a7 (Id.inn d) cs)∧(i.inn d).isIt=false∧(∀j∈bc cs,vZ d O.bx j):=by
  intro i cs hcs;have hm:=bY _ _ _ hcs;obtain ⟨h1,h2⟩:=ho.bx _ hm;simp only [LI] at h2;split at h2
  ·rename_i c hc;exact ⟨c,hc,h2,h1,ho.bi _ hm⟩
  ·cases h2
 have hsome: ∀i,(ar O.bx i).isSome=true→(ar σ.bx (i.inn d)).isSome=true:=by
  intro i hi;obtain ⟨cs,hcs⟩:=gU.1 hi;obtain ⟨c,hc,_⟩:=hbox i cs hcs;rw [hc];rfl
 have hpl: ∀p k,aA O.pm p=some k→(∃q,aA σ.pm q=some k∧bL (cp d gb O.bx) (fun _=>v) w p=bL gb (tv a) w q∧
   ((p= .s 0∧ ∃s,q= .s s∧rs=[.t s])∨(∃i s,p= .t 0 i∧q= .s s∧rs[i]?=some (.t s)∧2≤rs.length)∨(∃i o,p= .b i o∧q= .b (i.inn d) o∧(ar O.bx i).isSome=true)))∨
   (bL (cp d gb O.bx) (fun _=>v) w p= .slice none 0 0∧ ∀i o,p= .b i o→(ar O.bx i).isSome=true):=by
  intro p k hp;have hm:=ho.pm _ (dH _ _ _ hp);cases p with
  |s t=>
   simp only [sN] at hm;obtain ⟨rfl,hm⟩:=hm;split at hm
   ·rename_i s;have h1:=hs 0 s rfl;have h2:us.length=1:=by rw [←hl];rfl
    have hvv:v=tv a s:=by
     simp only [v];rw [dif_pos (by simpa using h2)];rw [oU] at h1;obtain ⟨_,h1⟩:=h1;simpa using h1
    rcases hm with hm|hm
    ·exact .inl ⟨.s s,hm,by simp only [bL,hvv],.inl ⟨rfl,s,rfl,rfl⟩⟩
    ·right;refine ⟨?_,fun i o he=>by cases he⟩
     have:=h.env s
     rw [hm] at this;simp only [bL,hvv];simpa [PR] using this
   ·cases hm
  |t t i=>
   simp only [sN] at hm;obtain ⟨rfl,h2,hm⟩:=hm;split at hm
   ·rename_i s hi;have h1:=hs i s hi;have hvv:v= .tuple us.toArray:=by
     simp only [v];rw [dif_neg];simp;omega
    have hg:us.toArray.getD i undef=tv a s:=by
     rw [lc];simp [h1]
    rcases hm with hm|hm
    ·exact .inl ⟨.s s,hm,by simp only [bL,hvv];exact hg,.inr (.inl ⟨i,s,rfl,rfl,hi,h2⟩)⟩
    ·right;refine ⟨?_,fun i o he=>by cases he⟩
     have:=h.env s
     rw [hm] at this;simp only [bL,hvv];rw [hg];simpa [PR] using this
   ·cases hm
  |b i o=>
   simp only [sN] at hm;obtain ⟨h1,hm⟩:=hm;have he:bL (cp d gb O.bx) (fun _=>v) w (.b i o)=bL gb (tv a) w (.b (i.inn d) o):=by simp only [bL,hval i h1]
   rcases hm with hm|hm
   ·exact .inl ⟨_,hm,he,.inr (.inr ⟨i,o,rfl,rfl,h1⟩)⟩
   ·right;refine ⟨?_,fun i' o' e=>by cases e;exact h1⟩;rw [he];obtain ⟨cs,hcs⟩:=gU.1 h1;obtain ⟨_,_,_,h3,_⟩:=hbox i cs hcs;exact ni h hm (fun d' off e=>by cases e;exact h3)
 refine ⟨?_,⟨h.hr.agree,?_,?_,?_,?_,?_,?_,?_⟩,?_,?_⟩
 ·have h1:=DY hu;have h2:=ho.r;rw [hv] at h2;refine yX _ _ ho.ids ?_;rcases h2 with h2|h2
  ·rw [←h2];exact h1
  ·rw [←h2];exact ID _ _ h1
 ·intro i cs hcs hi;obtain ⟨c,hc,hw,h3,h4⟩:=hbox i cs hcs;obtain ⟨g,us',T,e1,e3,e0,e4,e5,e6⟩:=h.hr.box _ c hc h3;have hlen:c.length=cs.length:=by
   rcases hw with hw|hw
   ·rw [hw,fj]
   ·rw [←qa,hw,fj]
  refine ⟨g,us',T,by rw [hval i (by rw [hcs];rfl)];exact e1,e3,by omega,gJ _ _ h4 ?_,e5,e6⟩;rw [←hlen];rcases hw with hw|hw
  ·rw [←hw];exact e4
  ·rw [←hw];exact iL _ _ e4
 ·intro i cs hcs hi;obtain ⟨c,hc,hw,h3,h4⟩:=hbox i cs hcs;rw [yY hi] at h3;cases h3
 ·intro i j g z z' i1 i2 q1 q2;rw [hval i i1] at q1;rw [hval j i2] at q2;exact AJ (h.hr.inj _ _ g z z' (hsome i i1) (hsome j i2) q1 q2)
 ·intro p k hp;rcases hpl p k hp with ⟨q,q1,q2,_⟩|⟨q1,_⟩
  ·rw [q2];exact h.hr.own q k q1
  ·rw [q1];exact .inl rfl
 ·intro p q k l b hp hq hb1 hb2;have hne:O.pm≠[]:=fun e=>by rw [e] at hp;simp [aA] at hp
  have hnd:j5 rs:=by
   rcases ho.nd with h1|h1
   ·exact absurd h1 hne
   ·exact h1
  rcases hpl p k hp with ⟨p',p1,p2,p3⟩|⟨p1,_⟩
  ·rcases hpl q l hq with ⟨q',q1,q2,q3⟩|⟨q1,_⟩
   ·rw [p2] at hb1;rw [q2] at hb2;have e:=h.hr.ownd p' q' k l b p1 q1 hb1 hb2;subst e;rcases p3 with ⟨rfl,s,rfl,hr1⟩|⟨i,s,rfl,rfl,hr1,hr2⟩|⟨i,o,rfl,rfl,_⟩
    ·rcases q3 with ⟨rfl,_⟩|⟨j,s',rfl,e2,_,hr3⟩|⟨j,o',rfl,e2,_⟩
     ·rfl
     ·rw [hr1] at hr3;simp at hr3
     ·cases e2
    ·rcases q3 with ⟨rfl,s',e2,hr3⟩|⟨j,s',rfl,e2,hr3,_⟩|⟨j,o',rfl,e2,_⟩
     ·rw [hr3] at hr2;simp at hr2
     ·cases e2;rw [v7 hnd hr1 hr3]
     ·cases e2
    ·rcases q3 with ⟨rfl,s',e2,hr3⟩|⟨j,s',rfl,e2,hr3,_⟩|⟨j,o',rfl,e2,_⟩
     ·cases e2
     ·cases e2
     ·simp only [Pl.b.injEq] at e2;rw [AJ e2.1,e2.2]
   ·rw [q1] at hb2;simp [Value.ownBlock] at hb2
  ·rw [p1] at hb1;simp [Value.ownBlock] at hb1
 ·intro p k b i z hp hb hi;rcases hpl p k hp with ⟨q,q1,q2,_⟩|⟨q1,_⟩
  ·rw [q2] at hb;rw [hval i hi];exact h.hr.ownb q k b _ z q1 hb (hsome i hi)
  ·rw [q1] at hb;simp [Value.ownBlock] at hb
 ·intro i o k hp;have hi:(ar O.bx i).isSome=true:=by
   rcases hpl _ k hp with ⟨q,q1,q2,q3⟩|⟨_,q1⟩
   ·rcases q3 with ⟨e,_⟩|⟨_,_,e,_⟩|⟨i',o',e,_,h1⟩
    ·cases e
    ·cases e
    ·cases e;exact h1
   ·exact q1 i o rfl
  refine ⟨hi,?_⟩;obtain ⟨cs,hcs⟩:=gU.1 hi;obtain ⟨_,_,_,h3,_⟩:=hbox i cs hcs;cases hit:i.isIt with
  |false=>rfl
  |true=>rw [yY hit] at h3;cases h3
 ·intro i g z hi hq;rw [hval i hi] at hq;exact h.newb _ g z (hsome i hi) hq
 ·intro p k g hp hg;rcases hpl p k hp with ⟨q,q1,q2,_⟩|⟨q1,_⟩
  ·rw [q2] at hg;exact h.newo q k g q1 hg
  ·rw [q1] at hg;simp [Value.ownBlock] at hg

theorem em: ∀ {rs:List AR} {qs:List ResultVar} {σ:St} {vs:List AV},fQ σ rs=some vs→vs.length=rs.length
 |[],qs,σ,vs,h=>by simp only [fQ,bV] at h;subst h;rfl
 | .t s::r,qs,σ,vs,h=>by
  simp only [fQ] at h;split at h
  ·rename_i vs' hv;simp only [bV] at h;subst h;simp only [dT,em (qs:=qs) hv]
  ·cases h
 | .cs s::r,qs,σ,vs,h=>by
  simp only [fQ] at h;split at h
  ·rename_i v vs' _ hv;simp only [bV] at h;subst h;simp only [dT,em (qs:=qs) hv]
  ·cases h
 | .ca s n::r,qs,σ,vs,h=>by
  simp only [fQ] at h;split at h
  ·rename_i v vs' _ hv;simp only [bV] at h;subst h;simp only [dT,em (qs:=qs) hv]
  ·cases h

theorem yZ {GL:List (Nat×List Value)} {dr:Array Oper→List (List Nat)→List be→Bool} {f:Nat} {fn:Func} {af:AF} (hf:P.funcs[f]?=some fn) (hm:mF P GL dr fn af=true) (hd:bI P GL af.N dr) {d:Nat} {I:In} {O:bW} (hl:I.vs.length=af.np)
  (hw:dz (aX P GL) af.c (ct d af.rs O) (az I)):aX P GL f d I O:=by
 simp only [mF,aC,bne_iff_ne,bP] at hm;obtain ⟨⟨⟨⟨⟨h1,h2⟩,h3⟩,h4⟩,h5⟩,h6⟩:=hm;split at h6<;>(try cases h6);rename_i c hb;have h4:=Nat.le_of_ble_eq_true h4;intro S gb w vs hvs hhr hglo hnw;have hlen:vs.length=I.vs.length:=hvs.length.symm;unfold kP;have hcall:(callFunc f vs.toArray).run P w= .ok (.enter f vs.toArray) w:=by
  simp [callFunc,hf,hb,h1]
 rw [hcall];refine calls_of_wp hf hb ?_
 let F:Fr:=⟨S,w,MS I gb (fun t=>vs.getD t undef) w,gb,af.N,GL,[]⟩
 have hsv:tv {tmps:=vs.toArray++Array.replicate (fn.ntmps - vs.toArray.size) undef,defers:=[]}=fun t=>vs.getD t undef:=by
  funext t;exact dw
 have hup:=hhr.up;have hrel:aE F S (dV gb) (az I) {tmps:=vs.toArray++Array.replicate (fn.ntmps - vs.toArray.size) undef,defers:=[]} w:=by
  refine ⟨rfl,?_,Bw.refl _ _,fun _ _ _ _=>rfl,aI.le.refl _,?_,by rw [hsv];exact hup,?_,?_,?_,fun d=>rfl,hglo⟩
  ·show (vs.toArray++Array.replicate (fn.ntmps - vs.toArray.size) undef).size=af.N;simp;omega
  ·intro t
   have:=(fG (cO _ _ hvs) 0 t).2 t (by omega)
   rw [dw];exact this
  ·intro i g z hi hq;obtain ⟨c1,hc1⟩:=gU.1 hi;obtain ⟨j,cs,rfl,hj,_⟩:=ba bU hc1;exact .inr (.inl ⟨j,z,by rw [hj];rfl,hq⟩)
  ·intro p k g hp hg;obtain ⟨q,rfl,hq⟩:=dK bU hp;rw [hsv,jk] at hg;exact .inr (.inr ⟨q,k,hq,hg⟩)
  ·intro i hi;cases i<;>simp [dV,Id.isUp] at hi ⊢
 refine ek (F:=F) hd h6 (Q:=ct d af.rs O) ?_ hrel hw;intro e S0' gb0' σ0 a' w' hr0 hq0;have fin: ∀σ0,aE F S0' gb0' σ0 a' w'→(∃τ,mc σ0 τ∧gZ d af.rs O τ)→a'.defers=[]∧ ∃v,(results fn a'.tmps).run P w'= .ok v w'∧(∃u,Ending.returned v= .returned u∧ ∃S'' gb'',dD d I O S gb (fun t=>vs.getD t undef) w S'' gb'' u w'):=by
  rintro σ0 hr0 ⟨τ,hfz,hok⟩;obtain ⟨S',gb',hr⟩:=hr0.frzs hfz;refine ⟨hr.defers,?_⟩;have hr':=hok.r;split at hr'
  ·rename_i vs' hv;obtain ⟨us,hrun,g2,g3⟩:=kz (P:=P) hr h5 hv;obtain ⟨o1,o2,o3,o4⟩:=hr.out hok hv g2 g3 (by rw [←g2.length];exact (em (qs:=[]) hv).symm);refine ⟨_,hrun,_,rfl,S',cp d gb' O.bx,hr.bw,hr.ext,hr.le,?_,?_,o1,o2,o3,o4⟩
   ·intro i hi
    have:cp d gb' O.bx i=gb' (i.inn d):=dW (fun e=>by rw [hi] at e;cases e)
    rw [this,aP hi];exact hr.up i
   ·intro i hi hne;simp only [cp] at hne;split at hne
    ·exact absurd rfl hne
    ·rename_i hno;cases hs:(ar O.bx i).isSome with
     |true=>rfl
     |false=>exact absurd ⟨hi,hs⟩ hno
  ·cases hr'
 cases e
 ·exact fin _ hr0 hq0
 ·exact hq0.elim
 ·exact fin _ hr0 hq0
theorem GX {P:Program} {GL:List (Nat×List Value)} {dr:Array Oper→List (List Nat)→List be→Bool} {f:Nat} {fn:Func} {af:AF} (hf:P.funcs[f]?=some fn) (hm:mF P GL dr fn af=true) (hd:bI P GL af.N dr) {d:Nat} {I:In} {O:bW} (hl:I.vs.length=af.np)
  (hw:dz (b7 P GL) af.c (ct d af.rs O) (az I)):b7 P GL f d I O:=by
 rw [eN] at hw ⊢;exact yZ hf hm hd hl hw

def KP (S:Nat→Nat→In→bW→Prop) (f d:Nat) (xs:List X) (K:St→Prop) (σ:St):Prop:=Jt S f d xs K σ
@[simp] theorem Pm {S:Nat→Nat→In→bW→Prop} {d f xs} {K:St→Prop} {σ:St}:bh S (.ce d f xs) K σ=KP S f d xs K σ:=by rw [bh];rfl
def Pn (S:Nat→Nat→In→bW→Prop) (d:Nat) (xs:List X) (K:St→Prop) (σ:St):AV→Prop
 | .fn f caps=>KP S f d (xs++caps.map X.c) K σ
 |_=>False
@[simp] theorem Po {S:Nat→Nat→In→bW→Prop} {d x xs} {K:St→Prop} {σ:St}:bh S (.cd d x xs) K σ=Pn S d xs K σ (σ.v x):=by
 rw [bh];unfold Pn KP;cases σ.v x<;>rfl
@[simp] theorem Pp {S:Nat→Nat→In→bW→Prop} {d xs f caps} {K:St→Prop} {σ:St}:Pn S d xs K σ (.fn f caps)=KP S f d (xs++caps.map X.c) K σ:=rfl
theorem aK {P:Program} {GL:List (Nat×List Value)} {K:St→Prop} {σ:St} {f d:Nat} {xs:List X} (I:In) (O:bW) (h:b7 P GL f d I O) (hc:cD d σ xs I O) (hk:K (a6 d σ xs I O)):KP (b7 P GL) f d xs K σ:=⟨I,O,h,hc,hk⟩
theorem jl {P:Program} {GL:List (Nat×List Value)} {K:St→Prop} {σ:St} {f d:Nat} {xs:List X} {fr:List Nat} (I:In) (O:bW) (h:b7 P GL f d I O) (hc:cD d σ xs I O) (hq:GA fr I O) (hk:K (a6 d σ xs I O)) (hn:fr.contains d=false:=by decide):Qp (b7 P GL) f d xs fr K σ:=⟨I,O,h,hc,⟨hq,hn⟩,hk⟩
theorem f8 {d:Nat} {rs:List AR} {O:bW} {σ:St} (h:gZ d rs O σ):ct d rs O .n σ:=⟨σ,.z σ,h⟩
theorem GY {d:Nat} {rs:List AR} {O:bW} {σ:St} (h:gZ d rs O σ):ct d rs O .r σ:=⟨σ,.z σ,h⟩
theorem ai {d:Nat} {rs:List AR} {O:bW} {σ:St} (a:match fQ σ rs with |some vs=>Pk (vS vs) (O.r.mp (Id.inn d)) |none=>False) (b: ∀i∈O.r.ids,vZ d O.bx i) (c: ∀p∈O.bx,(p.1.inn d).isIt=false∧LI d σ p.1 p.2) (e: ∀p∈O.bx, ∀i∈bc p.2,vZ d O.bx i) (g: ∀p∈O.pm,sN d rs O.bx σ p) (h:O.pm=[]∨j5 rs):ct d rs O .r σ:=GY ⟨a,b,c,e,g,h⟩
theorem ax {P:Program} {GL:List (Nat×List Value)} {K:St→Prop} {σ:St} {f d:Nat} {xs:List X} (I:In) (O:bW) (h:b7 P GL f d I O) (hk:K (a6 d σ xs I O)) (hc:cD d σ xs I O:=by constructor<;>simp):KP (b7 P GL) f d xs K σ:=aK I O h hc hk
@[simp] theorem Pq {d i}:(Id.up i).inn d= .up (.up i):=rfl
@[simp] theorem Qr {d k}:(Id.n k).inn d= .up (.n k):=rfl
@[simp] theorem Ps {d i k}:(Id.ix i k).inn d= .up (.ix i k):=rfl
@[simp] theorem MP {d k}:(Id.it k).inn d= .up (.it k):=rfl
@[simp] theorem Pt {d d' i}:(Id.nw d' i).inn d=if d'=d∧i.isUp=false then i else .up (.nw d' i):=rfl
@[simp] theorem Qs {d i}:(Id.up i).isNw d=false:=rfl
@[simp] theorem Rg {d k}:(Id.n k).isNw d=false:=rfl
@[simp] theorem Qt {d i k}:(Id.ix i k).isNw d=false:=rfl
@[simp] theorem Pu {d k}:(Id.it k).isNw d=false:=rfl
@[simp] theorem Qu {d d' i}:(Id.nw d' i).isNw d=(d'==d&&!i.isUp):=rfl
attribute [simp] AV.mp a7 bE bK Pl.mp az nz Gn iD jF im jG a6 rN jz sN LI Pk JD vZ j5 fV gC St.puto
theorem b7.noPm {P:Program} {GL:List (Nat×List Value)} {f d:Nat} {I:In} {r:AV} {bx:List (Id×List AV)} {pm:List (Pl×Nat)} (h:b7 P GL f d I ⟨r,bx,pm⟩):b7 P GL f d I ⟨r,bx,[]⟩:=by
 rw [eN] at h ⊢;intro S gb w vs hvs hhr hglo hnw
 have:=h S gb w vs hvs hhr hglo hnw
 have hm: ∀v w',(∃S' gb',dD d I ⟨r,bx,pm⟩ S gb (fun t=>vs.getD t undef) w S' gb' v w')→ ∃S' gb',dD d I ⟨r,bx,[]⟩ S gb (fun t=>vs.getD t undef) w S' gb' v w':=by
  rintro v w' ⟨S',gb',q⟩;refine ⟨S',gb',q.bw,q.ext,q.le,q.same,q.nw,q.r,⟨q.hr.agree,q.hr.box,q.hr.its,q.hr.inj,?_,?_,?_,?_⟩,q.newb,?_⟩
  ·intro p k hk;simp [aA] at hk
  ·intro p q k l b hk;simp [aA] at hk
  ·intro p k b d z hk;simp [aA] at hk
  ·intro d off k hk;simp [aA] at hk
  ·intro p k g hk;simp [aA] at hk
 unfold kP at this ⊢;split at this
 ·exact hm _ _ this
 ·exact this.mono (fun e w' ⟨v,h1,h2⟩=>⟨v,h1,hm _ _ h2⟩)
 ·exact this
theorem Sp.of_h {P:Program} {GL:List (Nat×List Value)} {f:Nat} {l:List AV} {r:AV} (h: ∀d,b7 P GL f d ⟨l,[],[]⟩ ⟨r,[],[]⟩):Sp P GL f l r:=by unfold Sp;exact h
theorem Sp.h {P:Program} {GL:List (Nat×List Value)} {f d:Nat} {l:List AV} {r:AV} (h:Sp P GL f l r):b7 P GL f d ⟨l,[],[]⟩ ⟨r,[],[]⟩:=by unfold Sp at h;exact h d
end Go.Ai
namespace Go.Ai
open Go.RowKit
variable {P:Program} {F:Fr} {S:aI} {gb:Gb} {σ:St} {a:Act} {w:World}

abbrev jm (v:Value):List PanicEntry:=[{v,recovered:=false}]
def D4 (P:Program) (f:FuncId) (vs:Array Value) (w:World) (R:Value→World→Prop):Prop:=
 match (callFunc f vs).run P w with
 | .ok (.enter f' as') w'=>Calls P f' as' w' fun e w''=> ∃v,e= .panicked (jm v)∧R v w''
 |_=>False
def eO (P:Program) (GL:List (Nat×List Value)) (f d:Nat) (I:In) (O:bW):Prop:=
 ∀(S:aI) (gb:Gb) (w:World) (vs:List Value),aa S gb I.vs vs→HR S gb I.bx I.pm (fun t=>vs.getD t undef) w→
  (∀i us,GL.lookup i=some us→ ∀(o:Nat) (u:Value),us[o]?=some u→S i o=some u∧u.oneCell'=true)→(∀i,i.isNw d=true→gb i=none)→
  D4 P f vs.toArray w fun v w'=> ∃S' gb',dD d I O S gb (fun t=>vs.getD t undef) w S' gb' v w'

inductive AP where
 |ce (d f:Nat) (xs:List X)
 |cd (d:Nat) (x:X) (xs:List X)
 |pn (d:Nat) (x:X)
inductive ud where
 |c (a:AC)
 |rp (l:List be) (o:AP) (l':List be)
 |sq (a b:ud)
 |cd (x:X) (a b:ud)
 |bl (i:Nat) (a:ud)
 |lp (a:ud)
 |sc (a:ud)

section
variable (S:Nat→Nat→In→bW→Prop) (SP:Nat→Nat→In→bW→Prop) (R:AV→St→Prop)
def AL (d:Nat) (σ:St) (xs:List X) (I:In) (O:bW):St:=⟨(d,.undef)::(a6 d σ xs I O).e,(a6 d σ xs I O).bx,fU (a6 d σ xs I O).pm d⟩
def GZ (f d:Nat) (xs:List X) (σ:St):Prop:= ∃I O,SP f d I O∧cD d σ xs I O∧O.r.ids=[]∧R O.r (AL d σ xs I O)
def y6:AP→(St→Prop)→St→Prop
 | .ce d f xs,K,σ=>Jt S f d xs K σ∨GZ SP R f d xs σ
 | .cd d x xs,K,σ=>match σ.v x with
  | .fn f caps=>Jt S f d (xs++caps.map X.c) K σ∨GZ SP R f d (xs++caps.map X.c) σ
  |_=>False
 | .pn _ x,_,σ=>match σ.v x with
  | .ifc T v=>v.ids=[]∧R (.ifc T v) σ
  |_=>False
def bZ:ud→(AE→St→Prop)→St→Prop
 | .c a,Q,σ=>dz S a Q σ
 | .rp l o l',Q,σ=>kT S l (y6 S SP R o (kT S l' (Q .n))) σ
 | .sq a b,Q,σ=>bZ a (AE.sq (bZ b Q) Q) σ
 | .cd x a b,Q,σ=>match σ.v x with
  | .bool t=>if t=true then bZ a Q σ else bZ b Q σ
  |_=>False
 | .bl i a,Q,σ=>bZ a (AE.bl i Q) σ
 | .lp a,Q,σ=> ∃n,Au (bZ a) Q n σ
 | .sc a,Q,σ=>bZ a Q σ
end
theorem qd {S:Nat→Nat→In→bW→Prop}: ∀ {c:AC} {Q Q':AE→St→Prop} {σ:St},(∀e σ,Q e σ→Q' e σ)→dz S c Q σ→dz S c Q' σ:=by
 intro c;have m1: ∀ {o:be} {K K':St→Prop} {σ:St},(∀σ,K σ→K' σ)→bh S o K σ→bh S o K' σ:=fun hk h=>p7 hk h
 have mL: ∀ {l:List be} {K K':St→Prop} {σ:St},(∀σ,K σ→K' σ)→kT S l K σ→kT S l K' σ:=by
  intro l;induction l with
  |nil=>intro K K' σ hk h;exact hk _ h
  |cons o r ih=>intro K K' σ hk h;exact m1 (fun σ h=>ih hk h) h
 have mD: ∀ {us:List (List Nat)} {l:List be} {j:Nat} {h:List (Nat×Bx)} {K K':St→Prop} {σ:St},(∀σ,K σ→K' σ)→jM S us l j h K σ→jM S us l j h K' σ:=by
  intro us;induction us with
  |nil=>intro l j h K K' σ hk hw;cases l with
   |nil=>exact hk _ hw
   |cons=>exact hw.elim
  |cons u us ih=>intro l j h K K' σ hk hw;cases l with
   |nil=>exact hw.elim
   |cons o r=>exact ⟨hw.1,m1 (fun σ h=>eL.2 ⟨(eL.1 h).1,ih hk (eL.1 h).2⟩) hw.2⟩
 have sqm: ∀ {B B':St→Prop} {Q Q':AE→St→Prop},(∀σ,B σ→B' σ)→(∀e σ,Q e σ→Q' e σ)→ ∀e σ,AE.sq B Q e σ→AE.sq B' Q' e σ:=by
  intro B B' Q Q' hb hq e σ h;cases e
  ·exact hb _ h
  ·exact hq _ _ h
  ·exact hq _ _ h
 induction c with
 |sk=>intro Q Q' σ hq h;exact hq _ _ h
 |rg l=>intro Q Q' σ hq h;exact mL (fun σ h=>hq _ _ h) h
 |rd us l=>intro Q Q' σ hq h;exact mD (fun σ h=>hq _ _ h) h
 |sq a b iha ihb=>intro Q Q' σ hq h;exact iha (sqm (fun σ h=>ihb hq h) hq) h
 |cd x a b iha ihb=>
  intro Q Q' σ hq h;unfold dz at h ⊢;split at h
  ·rename_i t ht;split at h
   ·rename_i e;rw [if_pos e];exact iha hq h
   ·rename_i e;rw [if_neg e];exact ihb hq h
  ·cases h
 |bl i a ih=>
  intro Q Q' σ hq h;refine ih (fun e σ h=>?_) h;cases e
  ·exact hq _ _ h
  ·rename_i j;unfold AE.bl at h ⊢;by_cases e:j=i
   ·simp only [if_pos e] at h ⊢;exact hq _ _ h
   ·simp only [if_neg e] at h ⊢;exact hq _ _ h
  ·exact hq _ _ h
 |lp a ih=>
  intro Q Q' σ hq h;obtain ⟨n,hn⟩:=h;refine ⟨n,?_⟩;induction n generalizing σ with
  |zero=>exact hn
  |succ n ihn=>
   obtain ⟨τ,hτ,hb⟩:=hn;exact ⟨τ,hτ,ih (sqm (fun σ h=>ihn h) hq) hb⟩
 |ex i=>intro Q Q' σ hq h;exact hq _ _ h
 |rt=>intro Q Q' σ hq h;exact hq _ _ h
 |sc a ih=>intro Q Q' σ hq h;exact ih hq h
 |lb=>intro Q Q' σ hq h;exact hq _ _ h
 |no=>intro Q Q' σ hq h;exact h
 |fz s l=>intro Q Q' σ hq h;obtain ⟨b,n,sz,rows,tl,q1,q2,q3⟩:=h;exact ⟨b,n,sz,rows,tl,q1,q2,mL (fun σ h=>hq _ _ h) q3⟩

theorem v8 {S:Nat→Nat→In→bW→Prop}: ∀ {l:List be} {K K':St→Prop} {σ:St},(∀σ,K σ→K' σ)→kT S l K σ→kT S l K' σ:=by
 intro l;induction l with
 |nil=>intro K K' σ hk h;exact hk _ h
 |cons o r ih=>intro K K' σ hk h;exact p7 (fun σ h=>ih hk h) h
theorem D5 {S SP:Nat→Nat→In→bW→Prop} {R:AV→St→Prop} {K K':St→Prop} (hk: ∀σ,K σ→K' σ): ∀ {o:AP} {σ:St},y6 S SP R o K σ→y6 S SP R o K' σ:=by
 intro o σ h;cases o with
 |ce d f xs=>
  rcases h with ⟨I,O,h1,h2,h3⟩|h
  ·exact .inl ⟨I,O,h1,h2,hk _ h3⟩
  ·exact .inr h
 |cd d x xs=>
  simp only [y6] at h ⊢;split at h
  ·rcases h with ⟨I,O,h1,h2,h3⟩|h
   ·exact .inl ⟨I,O,h1,h2,hk _ h3⟩
   ·exact .inr h
  ·cases h
 |pn d x=>exact h
theorem AM {B B':St→Prop} {Q Q':AE→St→Prop} (hb: ∀σ,B σ→B' σ) (hq: ∀e σ,Q e σ→Q' e σ): ∀e σ,AE.sq B Q e σ→AE.sq B' Q' e σ:=by
 intro e σ h;cases e
 ·exact hb _ h
 ·exact hq _ _ h
 ·exact hq _ _ h
theorem B5 {S SP:Nat→Nat→In→bW→Prop} {R:AV→St→Prop}: ∀ {c:ud} {Q Q':AE→St→Prop} {σ:St},(∀e σ,Q e σ→Q' e σ)→bZ S SP R c Q σ→bZ S SP R c Q' σ:=by
 intro c;induction c with
 |c a=>intro Q Q' σ hq h;exact qd hq h
 |rp l o l'=>intro Q Q' σ hq h;exact v8 (fun σ h=>D5 (fun σ h=>v8 (fun σ h=>hq _ _ h) h) h) h
 |sq a b iha ihb=>intro Q Q' σ hq h;exact iha (AM (fun σ h=>ihb hq h) hq) h
 |cd x a b iha ihb=>
  intro Q Q' σ hq h;unfold bZ at h ⊢;split at h
  ·rename_i t ht;split at h
   ·rename_i e;rw [if_pos e];exact iha hq h
   ·rename_i e;rw [if_neg e];exact ihb hq h
  ·cases h
 |bl i a ih=>
  intro Q Q' σ hq h;refine ih (fun e σ h=>?_) h;cases e
  ·exact hq _ _ h
  ·rename_i j;unfold AE.bl at h ⊢;by_cases e:j=i
   ·simp only [if_pos e] at h ⊢;exact hq _ _ h
   ·simp only [if_neg e] at h ⊢;exact hq _ _ h
  ·exact hq _ _ h
 |lp a ih=>
  intro Q Q' σ hq h;obtain ⟨n,hn⟩:=h;refine ⟨n,?_⟩;induction n generalizing σ with
  |zero=>exact hn
  |succ n ihn=>
   obtain ⟨τ,hτ,hb⟩:=hn;exact ⟨τ,hτ,ih (AM (fun σ h=>ihn h) hq) hb⟩
 |sc a ih=>intro Q Q' σ hq h;exact ih hq h
theorem JE {S SP:Nat→Nat→In→bW→Prop} {R:AV→St→Prop} {α:Type} {c:ud} {Q:AE→St→Prop} (st:α→St) (I:α→Prop) (μ:α→Nat)
  (step: ∀x,I x→bZ S SP R c (AE.sq (LG st I μ x) Q) (st x)) {σ:St} (x:α) (hx:I x) (hw:e7 σ (st x)):bZ S SP R (.lp c) Q σ:=by
 have key: ∀n x,μ x<n→I x→ ∀σ,sA σ (st x)→Au (bZ S SP R c) Q n σ:=by
  intro n;induction n with
  |zero=>intro x h;omega
  |succ n ih=>
   intro x hn hx σ hw;refine ⟨st x,hw,B5 ?_ (step x hx)⟩;intro e σ' h;cases e
   ·obtain ⟨y,hy,hlt,hwy⟩:=h;exact ih y (by omega) hy σ' hwy
   ·exact h
   ·exact h
 exact ⟨μ x+1,key _ x (by omega) hx σ (.inl hw)⟩
theorem AN {S SP:Nat→Nat→In→bW→Prop} {R:AV→St→Prop} {α:Type} {c:ud} {Q:AE→St→Prop} (st:α→St) (I:α→Prop) (μ:α→Nat)
  (step: ∀(K:St→Prop) (x:α),(∀(y:α) (σ':St),I y→μ y<μ x→e7 σ' (st y)→K σ')→I x→bZ S SP R c (AE.sq K Q) (st x)) {σ:St} (x:α) (hx:I x) (hw:e7 σ (st x)):bZ S SP R (.lp c) Q σ:=
 JE st I μ (fun x hx=>step (LG st I μ x) x (fun y σ' h1 h2 h3=>D3 y h1 h2 h3) hx) x hx hw

def LJ (P:Program) (GL:List (Nat×List Value)) (N:Nat) (o:Oper):AP→Bool
 | .ce d f xs=>o.guard.isNone&&dc P GL N o (.ce d f xs)
 | .cd d x xs=>o.guard.isNone&&dc P GL N o (.cd d x xs)
 | .pn _ x=>o.guard.isNone&&(match o.op with | .panic y=>mX GL x y|_=>false)
def JF (P:Program) (GL:List (Nat×List Value)) (N:Nat) (ops:Array Oper) (os:List Oper) (l:List be) (p:AP) (l':List be):Bool:=match os.drop l.length with
 |o::r=>kx P GL N ops (os.take l.length) l&&LJ P GL N o p&&kx P GL N ops r l'
 |[]=>false
def oz (P:Program) (GL:List (Nat×List Value)) (N:Nat) (dr:Array Oper→List (List Nat)→List be→Bool):Code→ud→Bool
 |c,.c a=>mC P GL N dr c a
 | .region _ ops false,.rp l o l'=>JF P GL N ops ops.toList l o l'
 | .seq x y,.sq x' y'=>oz P GL N dr x x'&&oz P GL N dr y y'
 | .cond c x y,.cd c' x' y'=>mX GL c' c&&oz P GL N dr x x'&&oz P GL N dr y y'
 | .block i x,.bl j x'=>i==j&&oz P GL N dr x x'
 | .loop x,.lp x'=>oz P GL N dr x x'
 | .scope x,.sc x'=>oz P GL N dr x x'
 |_,_=>false
theorem aE.unput {e:List (Nat×AV)} {bx:List (Id×List AV)} {pm:List (Pl×Nat)} {d:Nat} {u:Value} (hd:d<F.N) (h:aE F S gb ⟨e,bx,pm⟩ (a.put (some d) u) w):aE F S gb ⟨(d,.undef)::e,bx,fU pm d⟩ a w:=by
 have hs:a.tmps.size=F.N:=by have:=h.size;simpa [Act.put] using this
 have hd':d<a.tmps.size:=by rw [hs];exact hd
 have hat: ∀p k,aA (fU pm d) p=some k→p.at d=false∧aA pm p=some k:=by
  intro p k hk;rw [jd] at hk;split at hk
  ·cases hk
  ·rename_i hne;exact ⟨by simpa using hne,hk⟩
 refine ⟨h.defers,hs,h.bw,h.ext,h.le,?_,⟨h.hr.agree,h.hr.box,h.hr.its,h.hr.inj,?_,?_,?_,?_⟩,h.newb,?_,h.dom,h.up,h.glo⟩
 ·intro t;simp only [lk];split
  ·simp [PR]
  ·rename_i ne
   have:=h.env t
   rwa [gD hd',if_neg ne] at this
 ·intro p k hk;obtain ⟨h1,h2⟩:=hat p k hk
  have:=h.hr.own p k h2
  rwa [bX hd' h1] at this
 ·intro p q k l b hk hl h1 h2;obtain ⟨p1,p2⟩:=hat p k hk;obtain ⟨q1,q2⟩:=hat q l hl;rw [←bX (u:=u) hd' p1] at h1;rw [←bX (u:=u) hd' q1] at h2;exact h.hr.ownd p q k l b p2 q2 h1 h2
 ·intro p k b d' z hk h1;obtain ⟨p1,p2⟩:=hat p k hk;rw [←bX (u:=u) hd' p1] at h1;exact h.hr.ownb p k b d' z p2 h1
 ·intro e off k hk;exact h.hr.pmb e off k (hat _ k hk).2
 ·intro p k g hk hg;obtain ⟨p1,p2⟩:=hat p k hk;rw [←bX (u:=u) hd' p1] at hg;exact h.newo p k g p2 hg
theorem oA (h:aE F S gb σ a w) {o:Oper} {d f:Nat} (h2:d<F.N) (h1:o.dst=some d) {xs:List X} {vs:List Value} (hl:aa S gb (xs.map σ.v) vs) (hsl: ∀(i t:Nat),xs[i]?=some (X.s t)→vs[i]?=some (tv a t))
  (hrun:(execOp a.eval o).run P w=(callFunc f vs.toArray).run P w) {R:AV→St→Prop} (hw:GZ (eO P F.GL) R f d xs σ) {K':Act→World→Prop} {Q:Exit→Act→World→Prop}
  (hR: ∀v u S gb σ a w,aE F S gb σ a w→R v σ→PR S gb v u→v.ids=[]→Q (.panic (jm u)) a w):o.wp P a w K' Q:=by
 obtain ⟨I,O,hspec,hc,hi,hr⟩:=hw;have hent:=e8 h hc hl hsl;have hvs:aa S gb I.vs vs:=nh hc.vs hl;have hglo: ∀i us,F.GL.lookup i=some us→ ∀(o:Nat) (u:Value),us[o]?=some u→S i o=some u∧u.oneCell'=true:=fun i us hi o u hu=>⟨h.le _ _ _ (h.glo i us hi o u hu).1,(h.glo i us hi o u hu).2⟩
 have hgn: ∀i,i.isNw d=true→gb i=none:=by
  intro i hi;cases hg:gb i with
  |none=>rfl
  |some x=>
   rcases h.dom i (by rw [hg];simp) with h1|h1
   ·obtain ⟨cs,hcs⟩:=gU.1 h1
    have:=hc.free _ (bY _ _ _ hcs)
    simp only at this;rw [this] at hi;cases hi
   ·cases i<;>simp [Id.isUp,Id.isNw] at h1 hi
 have hd:=hspec S gb w vs hvs hent hglo hgn;unfold Oper.wp;rw [hrun];unfold D4 at hd;split at hd
 ·rename_i f' as' w' he;rw [he];simp only [Oper.upon_enter];refine hd.mono ?_;rintro e w'' ⟨u,rfl,S',gb',hp⟩;exact hR O.r u S' gb' _ a w'' ((h.call h2 hc hl hsl hp).unput h2) hr hp.r hi
 ·exact hd.elim
theorem B6 (h:aE F S gb σ a w) {o:Oper} {p:AP} (hm:LJ P F.GL F.N o p=true) {R:AV→St→Prop} {K:St→Prop} (hw:y6 (aX P F.GL) (eO P F.GL) R p K σ) {K':Act→World→Prop} {Q:Exit→Act→World→Prop}
  (hK: ∀S gb σ a w,aE F S gb σ a w→K σ→K' a w) (hR: ∀v u S gb σ a w,aE F S gb σ a w→R v σ→PR S gb v u→v.ids=[]→Q (.panic (jm u)) a w):o.guard=none∧o.wp P a w K' Q:=by
 cases p with
 |ce d f xs=>
  simp only [LJ,aC,Option.isNone_iff_eq_none] at hm;refine ⟨hm.1,?_⟩;rcases hw with hw|hw
  ·exact kv h hm.2 (ao:= .ce d f xs) (K:=K) (by simpa only [bh] using hw) hK
  ·have hm:=hm.2;simp only [dc,aC,aj] at hm;obtain ⟨⟨h1,h2⟩,hm⟩:=hm;split at hm<;>(try cases hm);rename_i f' as ts hop;simp only [aC,bP] at hm;obtain ⟨rfl,hxs⟩:=hm;refine oA h h2 h1 (cL h hxs) (fun i t hi=>gG hxs hi) ?_ hw hR;have harr:(List.map a.eval as.toList).toArray=as.map a.eval:=by
    apply Array.ext';simp
   rw [harr];unfold execOp;simp [hop,resolve,Act.eval,Deferred.ofValue,invoke]
 |cd d x xs=>
  simp only [LJ,aC,Option.isNone_iff_eq_none] at hm;refine ⟨hm.1,?_⟩;simp only [y6] at hw;split at hw
  ·rename_i f caps hv;rcases hw with hw|hw
   ·exact kv h hm.2 (ao:= .cd d x xs) (K:=K) (by simp only [bh,hv];exact hw) hK
   ·have hm:=hm.2;simp only [dc,aC,aj] at hm;obtain ⟨⟨h1,h2⟩,hm⟩:=hm;split at hm<;>(try cases hm);rename_i f' as ts hop;simp only [aC] at hm;obtain ⟨hx,hxs⟩:=hm;have hx:=ak h hx;rw [hv] at hx;simp only [PR] at hx;obtain ⟨us,hx,hcaps⟩:=hx;have hl:=cL h hxs;have hall:aa S gb ((xs++caps.map X.c).map σ.v) (List.map a.eval as.toList++us.toList):=by
     rw [List.map_append];refine hl.append ?_
     have:(List.map σ.v (caps.map X.c))=caps:=by
      rw [List.map_map];exact (List.map_congr_left (fun c _=>rfl)).trans (List.map_id _)
     rw [this];exact hcaps
    have hlen:(List.map a.eval as.toList).length=xs.length:=by
     have:=hl.length
     simpa using this.symm
    refine oA h h2 h1 hall (fun i t hi=>?_) ?_ hw hR
    ·rw [List.getElem?_append] at hi;split at hi
     ·rename_i hlt;rw [List.getElem?_append_left (by omega)];exact gG hxs hi
     ·rw [vm] at hi;cases hq:caps[i - xs.length]? with
      |none=>rw [hq] at hi;cases hi
      |some c=>rw [hq] at hi;cases hi
    ·have harr:(List.map a.eval as.toList++us.toList).toArray=as.map a.eval++us:=by
      apply Array.ext';simp
     rw [harr];unfold execOp;simp [hop,resolve,hx,Deferred.ofValue,invoke]
  ·cases hw
 |pn d x=>
  simp only [LJ,aC,Option.isNone_iff_eq_none] at hm;obtain ⟨hg,hm⟩:=hm;refine ⟨hg,?_⟩;split at hm<;>(try cases hm);rename_i y hop;have hx:=ak h hm;simp only [y6] at hw;split at hw
  ·rename_i T v hv;obtain ⟨hi,hr⟩:=hw;rw [hv] at hx;have hx':=hx;simp only [PR] at hx;obtain ⟨u,hu,_⟩:=hx;unfold Oper.wp execOp;simp only [hop];rw [hu] at hx' ⊢;simp [Instr.panic,goPanic];exact hR _ _ S gb σ a w h hr hx' (by simpa [AV.ids] using hi)
  ·cases hw
theorem gK {ops:Array Oper} {rest:List Oper} {K:St→Prop} {Q:Exit→Act→World→Prop} (hQ: ∀S gb σ a w,aE F S gb σ a w→K σ→wpList P ops Q rest a w):
  ∀ {l:List Oper} {al:List be},kx P F.GL F.N ops l al=true→ ∀ {S:aI} {gb:Gb} {σ:St} {a:Act} {w:World},aE F S gb σ a w→kT (aX P F.GL) al K σ→wpList P ops Q (l++rest) a w
 |[],al,hm,S,gb,σ,a,w,h,hw=>by
  cases al<;>simp [kx] at hm;exact hQ _ _ _ _ _ h hw
 |o::r,al,hm,S,gb,σ,a,w,h,hw=>by
  cases al with
  |nil=>simp [kx] at hm
  |cons ao s=>
   simp only [kx,aC] at hm;simp only [kT] at hw
   have:=gn h hm.1 hw (K':=wpList P ops Q (r++rest)) (Q:=Q) (fun S gb σ a w h' hk=>gK hQ hm.2 h' hk)
   rw [bt];simp only [wpList];split
   ·rename_i hc;rw [if_pos hc] at this;exact .inl this
   ·rename_i hc;rw [if_neg hc] at this;exact this
theorem wa {ops:Array Oper} {os:List Oper} {l:List be} {p:AP} {l':List be} (hm:JF P F.GL F.N ops os l p l'=true) {R:AV→St→Prop} {K:St→Prop} {Q:Exit→Act→World→Prop} (hQ: ∀S gb σ a w,aE F S gb σ a w→K σ→Q .normal a w)
  (hR: ∀v u S gb σ a w,aE F S gb σ a w→R v σ→PR S gb v u→v.ids=[]→Q (.panic (jm u)) a w) (h:aE F S gb σ a w) (hw:kT (aX P F.GL) l (y6 (aX P F.GL) (eO P F.GL) R p (kT (aX P F.GL) l' K)) σ):wpList P ops Q os a w:=by
 unfold JF at hm;split at hm
 ·rename_i o r hd;simp only [aC] at hm;have e:os=os.take l.length++o::r:=by rw [←hd,Gj]
  rw [e];refine gK (K:=y6 (aX P F.GL) (eO P F.GL) R p (kT (aX P F.GL) l' K)) ?_ hm.1.1 h hw;intro S gb σ a w h hw;obtain ⟨hg,hwp⟩:=B6 (Q:=Q) (K':=wpList P ops Q r) h hm.1.2 hw (fun S gb σ a w h hk=>fb hQ hm.2 h hk) hR;simp only [wpList];rw [if_pos (by simp [Region.wanted,hg])];exact .inl hwp
 ·cases hm
theorem j6 {dr:Array Oper→List (List Nat)→List be→Bool} (hd:bI P F.GL F.N dr) {R:AV→St→Prop}: ∀ {c:Code} {ac:ud},oz P F.GL F.N dr c ac=true→ ∀ {Q:AE→St→Prop} {Q':Exit→Act→World→Prop},(∀e S gb σ a w,aE F S gb σ a w→Q e σ→Q' (BV e) a w)→
  (∀v u S gb σ a w,aE F S gb σ a w→R v σ→PR S gb v u→v.ids=[]→Q' (.panic (jm u)) a w)→
  ∀ {S:aI} {gb:Gb} {σ:St} {a:Act} {w:World},aE F S gb σ a w→bZ (aX P F.GL) (eO P F.GL) R ac Q σ→c.wp P Q' a w:=by
 intro c;have plain: ∀(c:Code) {ac:ud} {a':AC},ac= .c a'→oz P F.GL F.N dr c ac=true→ ∀ {Q:AE→St→Prop} {Q':Exit→Act→World→Prop},(∀e S gb σ a w,aE F S gb σ a w→Q e σ→Q' (BV e) a w)→
   ∀ {S:aI} {gb:Gb} {σ:St} {a:Act} {w:World},aE F S gb σ a w→bZ (aX P F.GL) (eO P F.GL) R ac Q σ→c.wp P Q' a w:=by
  intro c ac a' e hm Q Q' hQ S gb σ a w h hw;subst e;have hm':mC P F.GL F.N dr c a'=true:=by cases c<;>simpa only [oz] using hm
  exact ek hd hm' hQ h hw
 induction c with
 |region id ops draw=>
  intro ac hm Q Q' hQ hR S gb σ a w h hw;cases ac
  case c a'=>exact plain _ rfl hm hQ h hw
  case rp l o l'=>
   cases draw<;>simp [oz] at hm;exact wp_region_list (wa hm (fun S gb σ a w h' hk=>hQ .n _ _ _ _ _ h' hk) hR h hw)
  all_goals (cases draw<;>simp [oz] at hm)
 |seq x y ihx ihy=>
  intro ac hm Q Q' hQ hR S gb σ a w h hw;cases ac
  case c a'=>exact plain _ rfl hm hQ h hw
  case sq x' y'=>
   simp only [oz,aC] at hm;refine wp_seq (ihx hm.1 (Q:=AE.sq (bZ (aX P F.GL) (eO P F.GL) R y' Q) Q) ?_ ?_ h hw)
   ·intro e S gb σ a w h' hq;cases e
    ·exact ihy hm.2 hQ hR h' hq
    ·exact hQ (.x _) _ _ _ _ _ h' hq
    ·exact hQ .r _ _ _ _ _ h' hq
   ·exact hR
  all_goals simp [oz] at hm
 |cond c x y ihx ihy=>
  intro ac hm Q Q' hQ hR S gb σ a w h hw;cases ac
  case c a'=>exact plain _ rfl hm hQ h hw
  case cd c' x' y'=>
   simp only [oz,aC] at hm;obtain ⟨⟨hc,hx⟩,hy⟩:=hm;have hv:=ak h hc;simp only [bZ] at hw;split at hw
   ·rename_i t ht;rw [ht] at hv;simp only [PR] at hv;refine wp_cond hv ?_;cases t
    ·exact ihy hy hQ hR h (by simpa using hw)
    ·exact ihx hx hQ hR h (by simpa using hw)
   ·cases hw
  all_goals simp [oz] at hm
 |block i x ih=>
  intro ac hm Q Q' hQ hR S gb σ a w h hw;cases ac
  case c a'=>exact plain _ rfl hm hQ h hw
  case bl j x'=>
   simp only [oz,aC,bP] at hm;obtain ⟨rfl,hx⟩:=hm;refine wp_block (ih hx (Q:=AE.bl i Q) ?_ ?_ h hw)
   ·intro e S gb σ a w h' hq;cases e
    ·exact hQ .n _ _ _ _ _ h' hq
    ·rename_i j;simp only [BV,Exit.inBlock];simp only [AE.bl] at hq;split at hq
     ·rename_i e;rw [if_pos e];exact hQ .n _ _ _ _ _ h' hq
     ·rename_i e;rw [if_neg e];exact hQ (.x _) _ _ _ _ _ h' hq
    ·exact hQ .r _ _ _ _ _ h' hq
   ·exact hR
  all_goals simp [oz] at hm
 |loop x ih=>
  intro ac hm Q Q' hQ hR S gb σ a w h hw;cases ac
  case c a'=>exact plain _ rfl hm hQ h hw
  case lp x'=>
   simp only [oz] at hm;simp only [bZ] at hw;obtain ⟨n,hn⟩:=hw;intro b k cs;have key: ∀n S gb σ a w,aE F S gb σ a w→Au (bZ (aX P F.GL) (eO P F.GL) R x') Q n σ→ ∃e a' w',Q' e a' w'∧Arrives P (lone (b.at a (.code x:: .inLoop x::k)) cs w) b k cs e a' w':=by
    intro n;induction n with
    |zero=>intro S gb σ a w h hn;exact hn.elim
    |succ n ihn=>
     intro S gb σ a w h hn;obtain ⟨τ,hτ,hb⟩:=hn;obtain ⟨gb',h'⟩:=h.weakR hτ;obtain ⟨e,a₁,w₁,hq,harr⟩:=ih hm (Q:=AE.sq (Au (bZ (aX P F.GL) (eO P F.GL) R x') Q n) Q) (Q':=Exit.then (fun a w=> ∃S gb σ,aE F S gb σ a w∧Au (bZ (aX P F.GL) (eO P F.GL) R x') Q n σ) Q') (by
      intro e S gb σ a w h'' hq;cases e
      ·exact ⟨_,_,_,h'',hq⟩
      ·exact hQ (.x _) _ _ _ _ _ h'' hq
      ·exact hQ .r _ _ _ _ _ h'' hq) hR h' hb b (.inLoop x::k) cs
     cases e with
     |normal=>
      obtain ⟨S1,gb1,σ1,h1,hi1⟩:=hq;obtain ⟨e₂,a₂,w₂,hq₂,harr₂⟩:=ihn _ _ _ _ _ h1 hi1;exact ⟨e₂,a₂,w₂,hq₂,.of_steps (Steps.trans harr (.one step_inLoop)) harr₂⟩
     |exit id=>exact ⟨_,a₁,w₁,hq,.pass (x:= .inLoop x) rfl (fun _ _=> .inl (by simp)) harr⟩
     |goto l=>exact ⟨_,a₁,w₁,hq,.pass (x:= .inLoop x) rfl (fun _ _=> .inl (by simp)) harr⟩
     |ret=>exact ⟨_,a₁,w₁,hq,.pass (x:= .inLoop x) rfl (fun _ _=> .inl (by simp)) harr⟩
     |panic ch=>exact ⟨_,a₁,w₁,hq,.pass (x:= .inLoop x) rfl (fun _ _=> .inl (by simp)) harr⟩
     |outgrown=>exact ⟨_,a₁,w₁,hq,.pass (x:= .inLoop x) rfl (fun _ _=> .inl (by simp)) harr⟩
   obtain ⟨e,a',w',hq,harr⟩:=key n _ _ _ _ _ h hn;exact ⟨e,a',w',hq,.of_steps (.one step_loop) harr⟩
  all_goals simp [oz] at hm
 |scope x ih=>
  intro ac hm Q Q' hQ hR S gb σ a w h hw;cases ac
  case c a'=>exact plain _ rfl hm hQ h hw
  case sc x'=>
   simp only [oz] at hm;refine wp_scope_straight (ih hm (Q:=Q) ?_ ?_ h hw)
   ·intro e S gb σ a w h' hq;cases e<;>exact hQ _ _ _ _ _ _ h' hq
   ·exact hR
  all_goals simp [oz] at hm
 |_=>
  intro ac hm Q Q' hQ hR S gb σ a w h hw;cases ac
  case c a'=>exact plain _ rfl hm hQ h hw
  all_goals simp [oz] at hm

structure IE where
 c:ud
 rs:List AR
 np:Nat
 N:Nat
def G1 (P:Program) (GL:List (Nat×List Value)) (dr:Array Oper→List (List Nat)→List be→Bool) (fn:Func) (f:IE):Bool:=
 fn.name != "runtime.NumGoroutine"&&fn.params.size+fn.nfree==f.np&&fn.ntmps==f.N&&Nat.ble f.np f.N&&xS P f.rs fn.results.toList&&(match fn.body with |some c=>oz P GL f.N dr c f.c|none=>false)
@[irreducible] def rG (P:Program) (GL:List (Nat×List Value)) (f d:Nat) (I:In) (O:bW):Prop:=eO P GL f d I O
theorem ue (P:Program) (GL:List (Nat×List Value)):rG P GL=eO P GL:=by funext f d I O;unfold rG;rfl
def oB (d:Nat) (O:bW) (v:AV) (σ:St):Prop:=v=O.r∧(∀p∈O.pm,∃b o,p.1= .b b o)∧gZ d [] ⟨.tup [],O.bx,O.pm⟩ σ
theorem HR.svB {bx:List (Id×List AV)} {pm:List (Pl×Nat)} {sv sv':Nat→Value} (h:HR S gb bx pm sv w) (hp: ∀p k,aA pm p=some k→ ∃b o,p= .b b o):HR S gb bx pm sv' w:=by
 have e: ∀p k,aA pm p=some k→bL gb sv' w p=bL gb sv w p:=by
  intro p k hk;obtain ⟨b,o,rfl⟩:=hp p k hk;rfl
 refine ⟨h.agree,h.box,h.its,h.inj,?_,?_,?_,h.pmb⟩
 ·intro p k hk;rw [e p k hk];exact h.own p k hk
 ·intro p q k l b hk hl h1 h2;rw [e p k hk] at h1;rw [e q l hl] at h2;exact h.ownd p q k l b hk hl h1 h2
 ·intro p k b d z hk h1;rw [e p k hk] at h1;exact h.ownb p k b d z hk h1
theorem y7 {GL:List (Nat×List Value)} {dr:Array Oper→List (List Nat)→List be→Bool} {f:Nat} {fn:Func} {af:IE} (hf:P.funcs[f]?=some fn) (hm:G1 P GL dr fn af=true) (hd:bI P GL af.N dr) {d:Nat} {I:In} {O:bW} (hl:I.vs.length=af.np)
  (hw:bZ (aX P GL) (eO P GL) (oB d O) af.c (fun _ _=>False) (az I)):eO P GL f d I O:=by
 simp only [G1,aC,bne_iff_ne,bP] at hm;obtain ⟨⟨⟨⟨⟨h1,h2⟩,h3⟩,h4⟩,h5⟩,h6⟩:=hm;split at h6<;>(try cases h6);rename_i c hb;have h4:=Nat.le_of_ble_eq_true h4;intro S gb w vs hvs hhr hglo hnw;have hlen:vs.length=I.vs.length:=hvs.length.symm;unfold D4;have hcall:(callFunc f vs.toArray).run P w= .ok (.enter f vs.toArray) w:=by
  simp [callFunc,hf,hb,h1]
 rw [hcall];refine calls_of_wp hf hb ?_
 let F:Fr:=⟨S,w,MS I gb (fun t=>vs.getD t undef) w,gb,af.N,GL,[]⟩
 have hsv:tv {tmps:=vs.toArray++Array.replicate (fn.ntmps - vs.toArray.size) undef,defers:=[]}=fun t=>vs.getD t undef:=by
  funext t;exact dw
 have hup:=hhr.up;have hrel:aE F S (dV gb) (az I) {tmps:=vs.toArray++Array.replicate (fn.ntmps - vs.toArray.size) undef,defers:=[]} w:=by
  refine ⟨rfl,?_,Bw.refl _ _,fun _ _ _ _=>rfl,aI.le.refl _,?_,by rw [hsv];exact hup,?_,?_,?_,fun d=>rfl,hglo⟩
  ·show (vs.toArray++Array.replicate (fn.ntmps - vs.toArray.size) undef).size=af.N;simp;omega
  ·intro t
   have:=(fG (cO _ _ hvs) 0 t).2 t (by omega)
   rw [dw];exact this
  ·intro i g z hi hq;obtain ⟨c1,hc1⟩:=gU.1 hi;obtain ⟨j,cs,rfl,hj,_⟩:=ba bU hc1;exact .inr (.inl ⟨j,z,by rw [hj];rfl,hq⟩)
  ·intro p k g hp hg;obtain ⟨q,rfl,hq⟩:=dK bU hp;rw [hsv,jk] at hg;exact .inr (.inr ⟨q,k,hq,hg⟩)
  ·intro i hi;cases i<;>simp [dV,Id.isUp] at hi ⊢
 refine j6 (F:=F) hd h6 (Q:=fun _ _=>False) (R:=oB d O) (fun _ _ _ _ _ _ _ hq=>hq.elim) ?_ hrel hw;rintro v u S' gb' σ' a' w' hr ⟨rfl,hpm,hok⟩ hp hi;have hv:fQ σ' []=some []:=rfl;obtain ⟨o1,o2,o3,o4⟩:=hr.out hok hv (us:=[]) (by simp [aa]) (fun i s hi=>by simp at hi) rfl;refine ⟨hr.defers,u,rfl,S',cp d gb' O.bx,hr.bw,hr.ext,hr.le,?_,?_,PR.noids _ _ hi hp,o2.svB (fun p k hk=>hpm _ (dH _ _ _ hk)),o3,?_⟩
 ·intro i hi
  have:cp d gb' O.bx i=gb' (i.inn d):=dW (fun e=>by rw [hi] at e;cases e)
  rw [this,aP hi];exact hr.up i
 ·intro i hi hne;simp only [cp] at hne;split at hne
  ·exact absurd rfl hne
  ·rename_i hno;cases hs:(ar O.bx i).isSome with
   |true=>rfl
   |false=>exact absurd ⟨hi,hs⟩ hno
 ·intro p k g hk hg;obtain ⟨b,o,e⟩:=hpm _ (dH _ _ _ hk);simp only at e;subst e;exact o4 _ k g hk hg
theorem y8 {GL:List (Nat×List Value)} {dr:Array Oper→List (List Nat)→List be→Bool} {f:Nat} {fn:Func} {af:IE} (hf:P.funcs[f]?=some fn) (hm:G1 P GL dr fn af=true) (hd:bI P GL af.N dr) {d:Nat} {I:In} {O:bW} (hl:I.vs.length=af.np)
  (hw:bZ (aX P GL) (eO P GL) (fun _ _=>False) af.c (ct d af.rs O) (az I)):aX P GL f d I O:=by
 simp only [G1,aC,bne_iff_ne,bP] at hm;obtain ⟨⟨⟨⟨⟨h1,h2⟩,h3⟩,h4⟩,h5⟩,h6⟩:=hm;split at h6<;>(try cases h6);rename_i c hb;have h4:=Nat.le_of_ble_eq_true h4;intro S gb w vs hvs hhr hglo hnw;have hlen:vs.length=I.vs.length:=hvs.length.symm;unfold kP;have hcall:(callFunc f vs.toArray).run P w= .ok (.enter f vs.toArray) w:=by
  simp [callFunc,hf,hb,h1]
 rw [hcall];refine calls_of_wp hf hb ?_
 let F:Fr:=⟨S,w,MS I gb (fun t=>vs.getD t undef) w,gb,af.N,GL,[]⟩
 have hsv:tv {tmps:=vs.toArray++Array.replicate (fn.ntmps - vs.toArray.size) undef,defers:=[]}=fun t=>vs.getD t undef:=by
  funext t;exact dw
 have hup:=hhr.up;have hrel:aE F S (dV gb) (az I) {tmps:=vs.toArray++Array.replicate (fn.ntmps - vs.toArray.size) undef,defers:=[]} w:=by
  refine ⟨rfl,?_,Bw.refl _ _,fun _ _ _ _=>rfl,aI.le.refl _,?_,by rw [hsv];exact hup,?_,?_,?_,fun d=>rfl,hglo⟩
  ·show (vs.toArray++Array.replicate (fn.ntmps - vs.toArray.size) undef).size=af.N;simp;omega
  ·intro t
   have:=(fG (cO _ _ hvs) 0 t).2 t (by omega)
   rw [dw];exact this
  ·intro i g z hi hq;obtain ⟨c1,hc1⟩:=gU.1 hi;obtain ⟨j,cs,rfl,hj,_⟩:=ba bU hc1;exact .inr (.inl ⟨j,z,by rw [hj];rfl,hq⟩)
  ·intro p k g hp hg;obtain ⟨q,rfl,hq⟩:=dK bU hp;rw [hsv,jk] at hg;exact .inr (.inr ⟨q,k,hq,hg⟩)
  ·intro i hi;cases i<;>simp [dV,Id.isUp] at hi ⊢
 refine j6 (F:=F) hd h6 (Q:=ct d af.rs O) (R:=fun _ _=>False) ?_ (fun _ _ _ _ _ _ _ _ hq=>hq.elim) hrel hw;intro e S0' gb0' σ0 a' w' hr0 hq0;have fin: ∀σ0,aE F S0' gb0' σ0 a' w'→(∃τ,mc σ0 τ∧gZ d af.rs O τ)→a'.defers=[]∧ ∃v,(results fn a'.tmps).run P w'= .ok v w'∧(∃u,Ending.returned v= .returned u∧ ∃S'' gb'',dD d I O S gb (fun t=>vs.getD t undef) w S'' gb'' u w'):=by
  rintro σ0 hr0 ⟨τ,hfz,hok⟩;obtain ⟨S',gb',hr⟩:=hr0.frzs hfz;refine ⟨hr.defers,?_⟩;have hr':=hok.r;split at hr'
  ·rename_i vs' hv;obtain ⟨us,hrun,g2,g3⟩:=kz (P:=P) hr h5 hv;obtain ⟨o1,o2,o3,o4⟩:=hr.out hok hv g2 g3 (by rw [←g2.length];exact (em (qs:=[]) hv).symm);refine ⟨_,hrun,_,rfl,S',cp d gb' O.bx,hr.bw,hr.ext,hr.le,?_,?_,o1,o2,o3,o4⟩
   ·intro i hi
    have:cp d gb' O.bx i=gb' (i.inn d):=dW (fun e=>by rw [hi] at e;cases e)
    rw [this,aP hi];exact hr.up i
   ·intro i hi hne;simp only [cp] at hne;split at hne
    ·exact absurd rfl hne
    ·rename_i hno;cases hs:(ar O.bx i).isSome with
     |true=>rfl
     |false=>exact absurd ⟨hi,hs⟩ hno
  ·cases hr'
 cases e
 ·exact fin _ hr0 hq0
 ·exact hq0.elim
 ·exact fin _ hr0 hq0
theorem uf {P:Program} {GL:List (Nat×List Value)} {dr:Array Oper→List (List Nat)→List be→Bool} {f:Nat} {fn:Func} {af:IE} (hf:P.funcs[f]?=some fn) (hm:G1 P GL dr fn af=true) (hd:bI P GL af.N dr) {d:Nat} {I:In} {O:bW} (hl:I.vs.length=af.np)
  (hw:bZ (b7 P GL) (rG P GL) (oB d O) af.c (fun _ _=>False) (az I)):rG P GL f d I O:=by
 rw [eN,ue] at hw;rw [ue];exact y7 hf hm hd hl hw
theorem AO {P:Program} {GL:List (Nat×List Value)} {dr:Array Oper→List (List Nat)→List be→Bool} {f:Nat} {fn:Func} {af:IE} (hf:P.funcs[f]?=some fn) (hm:G1 P GL dr fn af=true) (hd:bI P GL af.N dr) {d:Nat} {I:In} {O:bW} (hl:I.vs.length=af.np)
  (hw:bZ (b7 P GL) (rG P GL) (fun _ _=>False) af.c (ct d af.rs O) (az I)):b7 P GL f d I O:=by
 rw [eN,ue] at hw;rw [eN];exact y8 hf hm hd hl hw
section
variable {S SP:Nat→Nat→In→bW→Prop} {R:AV→St→Prop} {Q:AE→St→Prop} {σ:St} {K:St→Prop}
@[simp] theorem Pv {a}:bZ S SP R (.c a) Q σ=dz S a Q σ:=rfl
@[simp] theorem MQ {l o l'}:bZ S SP R (.rp l o l') Q σ=kT S l (y6 S SP R o (kT S l' (Q .n))) σ:=rfl
@[simp] theorem MR {a b}:bZ S SP R (.sq a b) Q σ=bZ S SP R a (AE.sq (bZ S SP R b Q) Q) σ:=rfl
@[simp] theorem MT {i a}:bZ S SP R (.bl i a) Q σ=bZ S SP R a (AE.bl i Q) σ:=rfl
@[simp] theorem MU {a}:bZ S SP R (.sc a) Q σ=bZ S SP R a Q σ:=rfl
@[simp] theorem MV {x a b}:bZ S SP R (.cd x a b) Q σ=KL (bZ S SP R a Q) (bZ S SP R b Q) σ (σ.v x):=rfl
def KQ (S SP:Nat→Nat→In→bW→Prop) (R:AV→St→Prop) (f d:Nat) (xs:List X) (K:St→Prop) (σ:St):Prop:=Jt S f d xs K σ∨GZ SP R f d xs σ
def JG (S SP:Nat→Nat→In→bW→Prop) (R:AV→St→Prop) (d:Nat) (xs:List X) (K:St→Prop) (σ:St):AV→Prop
 | .fn f caps=>KQ S SP R f d (xs++caps.map X.c) K σ
 |_=>False
def Pw (R:AV→St→Prop) (σ:St):AV→Prop
 | .ifc T v=>v.ids=[]∧R (.ifc T v) σ
 |_=>False
@[simp] theorem Px {d f xs}:y6 S SP R (.ce d f xs) K σ=KQ S SP R f d xs K σ:=rfl
@[simp] theorem Py {d x xs}:y6 S SP R (.cd d x xs) K σ=JG S SP R d xs K σ (σ.v x):=by
 simp only [y6];unfold JG KQ;cases σ.v x<;>rfl
@[simp] theorem MW {d xs f caps}:JG S SP R d xs K σ (.fn f caps)=KQ S SP R f d (xs++caps.map X.c) K σ:=rfl
@[simp] theorem Pz {d x}:y6 S SP R (.pn d x) K σ=Pw R σ (σ.v x):=by
 simp only [y6];unfold Pw;cases σ.v x<;>rfl
@[simp] theorem MX {T v}:Pw R σ (.ifc T v)=(v.ids=[]∧R (.ifc T v) σ):=rfl
end
theorem D6 {P:Program} {GL:List (Nat×List Value)} {SP:Nat→Nat→In→bW→Prop} {R:AV→St→Prop} {K:St→Prop} {σ:St} {f d:Nat} {xs:List X} (I:In) (O:bW) (h:b7 P GL f d I O) (hc:cD d σ xs I O) (hk:K (a6 d σ xs I O)):KQ (b7 P GL) SP R f d xs K σ:= .inl ⟨I,O,h,hc,hk⟩
theorem md {P:Program} {GL:List (Nat×List Value)} {S:Nat→Nat→In→bW→Prop} {R:AV→St→Prop} {K:St→Prop} {σ:St} {f d:Nat} {xs:List X} (I:In) (O:bW) (h:rG P GL f d I O) (hc:cD d σ xs I O) (hi:O.r.ids=[]) (hk:R O.r (AL d σ xs I O)):KQ S (rG P GL) R f d xs K σ:= .inr ⟨I,O,h,hc,hi,hk⟩
attribute [simp] AL
end Go.Ai
