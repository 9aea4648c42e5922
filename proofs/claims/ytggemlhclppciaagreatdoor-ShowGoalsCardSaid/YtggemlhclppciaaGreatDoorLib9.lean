/- Lib9: a part of the proof: the rules, or what functions compute. Conditions: as each theorem says. -/
import Derived.Test.YtggemlhclppciaaGreatDoorLib8
set_option linter.unusedSimpArgs false
set_option linter.unusedVariables false
namespace Go.Ai
open Go.RowKit
variable {P:Program} {F:Fr} {S:Mem} {gb:Gb} {σ:St} {a:Act} {w:World}
def ToldPost (S:Mem) (G:(Nat→Prop)→Mem→World→Prop) (Gx:(Nat→Prop)→Mem→World→Prop) (T:Nat→Prop) (W:World):Ending→World→Prop:=fun e W'=>
 W.heap.size≤W'.heap.size∧W'.os=W.os∧W'.tape=W.tape∧W'.output=W.output∧(∀g,T g→W'.heap[g]?=W.heap[g]?)∧
 ∃S':Mem,S.le S'∧Agrees S' W'∧(∀g,T g→ ∀o,S' g o=none)∧((e= .returned (.bool true)∧G T S' W')∨(e= .returned (.bool false)∧Gx T S' W'))
def GlOk (GL:List (Nat×List Value)) (S:Mem):Prop:= ∀i us,GL.lookup i=some us→ ∀(o:Nat) (u:Value),us[o]?=some u→S i o=some u∧u.oneCell'=true
def TellS (P:Program) (GL:List (Nat×List Value)) (f:Nat) (args:List AV) (us:List (List AV)):Prop:=
 (∀args w,(callFunc f args).run P w= .ok (.enter f args) w)∧
 ∀(S:Mem) (vs:List Value) (l:Nat) (xs:List (List AV)) (J:Nat→(Nat→Prop)→Mem→World→Prop) (Jx:(Nat→Prop)→Mem→World→Prop),Tells P l xs J Jx→PRlist S gb0 args vs→GlOk GL S→
  ∀(k:Nat),(∀j,j<us.length→xs[k+j]?=us[j]?)→ ∀(T:Nat→Prop) (W:World),(∀g,T g→g<W.heap.size∧ ∀o,S g o=none)→J k T S W→Agrees S W→
   CallsIn Fence.wide 0 P f (vs++[Value.func (.yield l) #[] #[]]).toArray W (ToldPost S (J (k+us.length)) Jx T W)
structure YI (T0:Nat→Prop) (Win:World) (Sin:Mem) (G:(Nat→Prop)→Mem→World→Prop) (F:Fr) (S:Mem) (gb:Gb) (σ:St) (a:Act) (W:World):Prop where
 rel:Rel F S gb σ a W
 g:G (fun x=>T0 x∨F.M x) F.S0 F.w0
 t0: ∀x,T0 x→x<F.w0.heap.size∧ ¬F.M x∧ ∀o,F.S0 x o=none
 m: ∀x,F.M x→x<F.w0.heap.size∧ ∀o,F.S0 x o=none
 le:Sin.le F.S0
 size:Win.heap.size≤F.w0.heap.size
 os:F.w0.os=Win.os
 tape:F.w0.tape=Win.tape
 output:F.w0.output=Win.output
 old: ∀x,T0 x→F.w0.heap[x]?=Win.heap[x]?
theorem MO.lt (h:Rel F S gb σ a w) {g:Nat} (hg:MO gb σ a w g):g<w.heap.size:=by
 rcases hg with ⟨d,z,hd,he⟩|⟨p,k,hp,he⟩
 ·exact HR.gblt h.hr hd he
 ·exact (h.hr.own p k hp).lt he
theorem MO.none (h:Rel F S gb σ a w) (hp:σ.pm=[]) {g:Nat} (hg:MO gb σ a w g) (o:Nat):S g o=none:=by
 rcases hg with ⟨d,z,hd,he⟩|⟨p,k,hp',he⟩
 ·obtain ⟨cs,hcs⟩:=Option.isSome_iff_exists.1 hd
  cases hi:d.isIt with
  |false=>
   obtain ⟨g',us,T,e1,_,_,_,_,e6⟩:=h.hr.box d cs hcs hi
   rw [he] at e1;cases e1
   exact e6 o
  |true=>
   obtain ⟨g',z',ob,e1,_,_,e4⟩:=h.hr.its d cs hcs hi
   rw [he] at e1;cases e1
   exact e4 o
 ·rw [hp] at hp';cases hp'
def GMove (G:(Nat→Prop)→Mem→World→Prop):Prop:= ∀T T' S S' W W',G T S W→Mv T T' S S' W W'→G T' S' W'
theorem YI.now {T0:Nat→Prop} {Win:World} {Sin:Mem} {G:(Nat→Prop)→Mem→World→Prop} {W:World} (h:YI T0 Win Sin G F S gb σ a W) (hG:GMove G) (hp:σ.pm=[]):YI T0 Win Sin G (F.at S gb σ a W a.defers) S gb σ a W:=by
 have hb:=h.rel.bw
 have hS: ∀x,T0 x→ ∀o,S x o=none:=fun x hx o=>by
  obtain ⟨q1,q2,q3⟩:=h.t0 x hx
  exact (h.rel.ext x o q1 q2).trans (q3 o)
 refine ⟨h.rel.rebase a.defers,hG _ _ _ _ _ _ h.g ⟨⟨hb.os,hb.tape,hb.output,hb.size,fun k hk hn=>hb.block k hk (fun hm=>hn (.inr hm))⟩,h.rel.le,h.rel.hr.agree,fun g o hg hn=>h.rel.ext g o hg (fun hm=>hn (.inr hm)),fun g hg=>?_,fun g hg o=>?_⟩,
  fun x hx=>⟨Nat.lt_of_lt_of_le (h.t0 x hx).1 hb.size,fun hm=>?_,hS x hx⟩,fun x hx=>⟨MO.lt h.rel hx,MO.none h.rel hp hx⟩,Mem.le.trans h.le h.rel.le,Nat.le_trans h.size hb.size,hb.os.trans h.os,hb.tape.trans h.tape,hb.output.trans h.output,fun x hx=>?_⟩
 ·rcases hg with hg|hg
  ·exact .inl (.inl hg)
  ·rcases MO.of h.rel hg with q|q
   ·exact .inr ⟨q,MO.lt h.rel hg⟩
   ·exact .inl (.inr q)
 ·rcases hg with hg|hg
  ·exact hS g hg o
  ·exact MO.none h.rel hp hg o
 ·rcases MO.of h.rel hm with q|q
  ·have:=(h.t0 x hx).1;omega
  ·exact (h.t0 x hx).2.1 q
 ·exact (hb.block x (h.t0 x hx).1 (h.t0 x hx).2.1).trans (h.old x hx)
theorem YI.after {T0:Nat→Prop} {Win:World} {Sin:Mem} {G G':(Nat→Prop)→Mem→World→Prop} {W:World} (h:YI T0 Win Sin G (F.at S gb σ a W a.defers) S gb σ a W) (hp:σ.pm=[])
  {W':World} (hsz:W.heap.size≤W'.heap.size) (hos:W'.os=W.os) (hta:W'.tape=W.tape) (hou:W'.output=W.output) (hT: ∀g,T0 g∨MO gb σ a W g→W'.heap[g]?=W.heap[g]?) {S':Mem} (hle:S.le S') (hag:Agrees S' W') (hno: ∀g,T0 g∨MO gb σ a W g→ ∀o,S' g o=none)
  (hG:G' (fun g=>T0 g∨MO gb σ a W g) S' W'):YI T0 Win Sin G' {F.at S gb σ a W a.defers with w0:=W',S0:=S'} S' gb σ a W':=by
 have hB: ∀d g z,(lkB σ.bx d).isSome→gb d=some (g,z)→MO gb σ a W g:=fun d g z hd hg=> .inl ⟨d,z,hd,hg⟩
 have hr:HR S' gb σ.bx σ.pm (tv a) W':=by
  refine ⟨hag,?_,?_,h.rel.hr.inj,?_,?_,?_,h.rel.hr.pmb⟩
  ·intro d cs hcs hi
   obtain ⟨g,us,T',e1,e3,e0,e4,e5,e6⟩:=h.rel.hr.box d cs hcs hi
   have hm:=hB d g _ (by rw [hcs];rfl) e1
   exact ⟨g,us,T',e1,(hT g (.inr hm)).trans e3,e0,PRlist.mono hle (Gb.le.refl _) _ _ e4,e5,hno g (.inr hm)⟩
  ·intro d cs hcs hi
   obtain ⟨g,z,ob,e1,e2,e3,e4⟩:=h.rel.hr.its d cs hcs hi
   have hm:=hB d g _ (by rw [hcs];rfl) e1
   exact ⟨g,z,ob,e1,e2,(hT g (.inr hm)).trans e3,hno g (.inr hm)⟩
  ·intro p k hp';rw [hp] at hp';cases hp'
  ·intro p q k l b hp';rw [hp] at hp';cases hp'
  ·intro p k b d z hp';rw [hp] at hp';cases hp'
 have hn: ∀ {g:Nat},W.heap.size≤g∨MO gb σ a W g→g<W.heap.size→MO gb σ a W g:=fun {g} hg hl=>hg.elim (fun q=>by omega) id
 refine ⟨⟨h.rel.defers,h.rel.size,Bw.refl _ _,fun g o _ _=>rfl,Mem.le.refl _,fun t=>PR.mono hle (Gb.le.refl _) _ _ (h.rel.env t),hr,fun d g z hd hg=> .inr (hB d g z hd hg),fun p k g hp'=>?_,h.rel.dom,h.rel.up,fun i us hi o u hu=>⟨hle _ _ _ (h.rel.glo i us hi o u hu).1,(h.rel.glo i us hi o u hu).2⟩⟩,
  hG,fun x hx=>⟨?_,(h.t0 x hx).2.1,hno x (.inl hx)⟩,fun x hx=>⟨Nat.lt_of_lt_of_le (MO.lt h.rel hx) hsz,hno x (.inr hx)⟩,Mem.le.trans h.le hle,Nat.le_trans h.size hsz,hos.trans h.os,hta.trans h.tape,hou.trans h.output,fun x hx=>(hT x (.inl hx)).trans (h.old x hx)⟩
 ·rw [hp] at hp';cases hp'
 ·exact Nat.lt_of_lt_of_le (h.t0 x hx).1 hsz
end Go.Ai
namespace Go.Ai
open Go.RowKit
variable {P:Program} {F:Fr} {S:Mem} {gb:Gb} {σ:St} {a:Act} {w:World}
inductive YOp where
 |o (a:AOp)
 |yl (g:Option (Nat×Bool)) (d:Nat) (y:X) (xs:List X)
 |rc (g:Option (Nat×Bool)) (d f:Nat) (xs:List X) (y:X)
inductive ACY where
 |c (a:AC)
 |rg (l:List YOp)
 |sq (x y:ACY)
 |cd (x:X) (a b:ACY)
 |bl (i:Nat) (x:ACY)
 |lp (x:ACY)
def gdo (σ:St):Option (Nat×Bool)→Option Bool
 |none=>some true
 |some (s,b)=>gdv (lk σ.e s) b
section
variable (Sp:Nat→Nat→In→Out→Prop) (Tl:Nat→List AV→List (List AV)→Prop) (l:Nat) (ts:List (List AV))
def wpYl:List YOp→(Option Nat→St→Prop)→Option Nat→St→Prop
 |[],K,k,σ=>K k σ
 | .o a::r,K,k,σ=>wp1 Sp a (fun τ=>wpYl r K k τ) σ
 | .yl g d y ys::r,K,k,σ=>match gdo σ g with
  |some true=> ∃j,k=some j∧σ.pm=[]∧σ.v y= .yv l∧ts[j]?=some (ys.map σ.v)∧idsL (ys.map σ.v)=[]∧wpYl r K (some (j+1)) (σ.put d (.bool true))∧wpYl r K none (σ.put d (.bool false))
  |some false=>wpYl r K k (σ.put d (.tup []))
  |none=>False
 | .rc g d f ys y::r,K,k,σ=>match gdo σ g with
  |some true=> ∃j us,k=some j∧σ.pm=[]∧σ.v y= .yv l∧Tl f (ys.map σ.v) us∧(∀i,i<us.length→ts[j+i]?=us[i]?)∧idsL (ys.map σ.v)=[]∧wpYl r K (some (j+us.length)) (σ.put d (.bool true))∧wpYl r K none (σ.put d (.bool false))
  |some false=>wpYl r K k (σ.put d (.tup []))
  |none=>False
def itY (F:(AE→Option Nat→St→Prop)→Option Nat→St→Prop) (Q:AE→Option Nat→St→Prop):Nat→Option Nat→St→Prop
 |0,_,_=>False
 |n+1,k,σ=> ∃τ,WeakR σ τ∧F (fun e k τ=>match e with | .n=>itY F Q n k τ|e=>Q e k τ) k τ
def wpY:ACY→(AE→Option Nat→St→Prop)→Option Nat→St→Prop
 | .c a,Q,k,σ=>wpA Sp a (fun e τ=>Q e k τ) σ
 | .rg l',Q,k,σ=>wpYl Sp Tl l ts l' (Q .n) k σ
 | .sq x y,Q,k,σ=>wpY x (fun e k τ=>match e with | .n=>wpY y Q k τ|e=>Q e k τ) k σ
 | .cd c x y,Q,k,σ=>match σ.v c with
  | .bool t=>if t=true then wpY x Q k σ else wpY y Q k σ
  |_=>False
 | .bl i x,Q,k,σ=>wpY x (fun e k τ=>match e with | .x j=>if j=i then Q .n k τ else Q (.x j) k τ|e=>Q e k τ) k σ
 | .lp x,Q,k,σ=> ∃n,itY (wpY x) Q n k σ
end
def gm (ops:Array Oper) (o:Oper):Option (Nat×Bool)→Bool
 |none=>o.guard.isNone
 |some (s,b)=>match o.guard with |some (j,b')=>b==b'&&((ops[j]?).bind (·.dst))==some s|none=>false
def mtY (P:Program) (GL:List (Nat×List Value)) (N:Nat) (ops:Array Oper) (o:Oper):YOp→Bool
 | .o a=>mt P GL N ops o a
 | .yl g d y ys=>gm ops o g&&slotOk N d o.dst&&(match o.op with | .call {callee:= .value f',args:=as,argTypes:=_}=>mX GL y f'&&mXs GL ys as.toList|_=>false)
 | .rc g d f ys y=>gm ops o g&&slotOk N d o.dst&&(match o.op with | .call {callee:= .value (.func f'),args:=as,argTypes:=_}=>f'==f&&mXs GL (ys++[y]) as.toList|_=>false)
def mtsY (P:Program) (GL:List (Nat×List Value)) (N:Nat) (ops:Array Oper):List Oper→List YOp→Bool
 |[],[]=>true
 |o::r,y::s=>mtY P GL N ops o y&&mtsY P GL N ops r s
 |_,_=>false
def mY (P:Program) (GL:List (Nat×List Value)) (N:Nat) (dr:Array Oper→List (List Nat)→List AOp→Bool):Code→ACY→Bool
 |c,.c a=>mC P GL N dr c a
 | .region _ ops false,.rg l=>mtsY P GL N ops ops.toList l
 | .seq x y,.sq x' y'=>mY P GL N dr x x'&&mY P GL N dr y y'
 | .cond c x y,.cd c' x' y'=>mX GL c' c&&mY P GL N dr x x'&&mY P GL N dr y y'
 | .block i x,.bl j x'=>i==j&&mY P GL N dr x x'
 | .loop x,.lp x'=>mY P GL N dr x x'
 |_,_=>false
def wpLI (P:Program) (ops:Array Oper) (Q:Exit→Act→World→Prop):List Oper→Act→World→Prop
 |[],a,w=>Q .normal a w
 |o::r,a,w=>if Region.wanted o (yielded ops a.tmps) then o.wpIn Fence.wide 0 P a w (wpLI P ops Q r) Q else wpLI P ops Q r (a.put o.dst undef) w
theorem opsIn_of_list {ops:Array Oper} {Q:Exit→Act→World→Prop}: ∀(l:List Oper) (k:Nat),(∀j:Nat,l[j]?=ops[k+j]?)→ ∀a w,wpLI P ops Q l a w→wpOpsIn Fence.wide 0 P ops Q (List.range' k l.length) a w
 |[],k,_,a,w,h=>by simpa [wpLI,wpOpsIn] using h
 |o::l,k,hl,a,w,h=>by
  have h0:ops[k]?=some o:=by simpa using (hl 0).symm
  have ih:=opsIn_of_list (ops:=ops) (Q:=Q) l (k+1) (fun j=>by have:=hl (j+1);simpa [Nat.add_assoc,Nat.add_comm 1 j] using this)
  simp only [List.length_cons,List.range'_succ,wpOpsIn,h0]
  simp only [wpLI] at h
  split
  ·rename_i hw
   rw [if_pos hw] at h
   exact Oper.wpIn_mono (fun a w hh=>ih a w hh) h
  ·rename_i hw
   rw [if_neg hw] at h
   exact ⟨fun _ _=>trivial,ih _ _ h⟩
theorem wpIn_region_list {id:Nat} {ops:Array Oper} {Q:Exit→Act→World→Prop} (h:wpLI P ops Q ops.toList a w):(Code.region id ops false).wpIn Fence.wide 0 P Q a w:=
 wpIn_region (by rw [List.range_eq_range',←Array.length_toList];exact opsIn_of_list ops.toList 0 (by simp) _ _ h)
theorem op_wide {o:Oper} {K:Act→World→Prop} {Q:Exit→Act→World→Prop} (h:o.wp P a w K Q):o.wpIn Fence.wide 0 P a w K Q:=by
 refine ⟨fun _ _=>trivial,?_⟩
 have he:o.semAt Fence.wide.round a.eval=execOp a.eval o:=Oper.semAt_none _ _
 rw [he]
 unfold Oper.wp Oper.upon at h
 unfold Oper.uponIn
 have hdep:(Fence.wide.depth.isSome=true→1≤0):=fun h=>by cases h
 generalize (execOp a.eval o).run P w=r at h ⊢
 split at h
 ·exact h
 ·exact h
 ·exact h
 ·exact ⟨hdep,callsIn_wide.2 h⟩
 ·refine ⟨hdep,fun c cs _=>?_⟩
  obtain ⟨v,w',r,s⟩:=h c cs
  exact ⟨v,w',r,stepsIn_wide.2 s⟩
 ·exact h
 ·exact h.elim
end Go.Ai
namespace Go.Ai
open Go.RowKit
variable {P:Program} {F:Fr} {S:Mem} {gb:Gb} {σ:St} {a:Act} {w:World}
def Gk (J:Nat→(Nat→Prop)→Mem→World→Prop) (Jx:(Nat→Prop)→Mem→World→Prop):Option Nat→(Nat→Prop)→Mem→World→Prop
 |some j=>J j
 |none=>Jx
structure FO (GL:List (Nat×List Value)) (N:Nat) (F:Fr):Prop where
 GL:F.GL=GL
 N:F.N=N
 df:F.df=[]
theorem YI.with {T0:Nat→Prop} {Win:World} {Sin:Mem} {G:(Nat→Prop)→Mem→World→Prop} (h:YI T0 Win Sin G F S gb σ a w) {S':Mem} {gb':Gb} {σ':St} {a':Act} {w':World} (hr:Rel F S' gb' σ' a' w'):YI T0 Win Sin G F S' gb' σ' a' w':=
 ⟨hr,h.g,h.t0,h.m,h.le,h.size,h.os,h.tape,h.output,h.old⟩
theorem PRlist.split2: ∀ {A B:List AV} {us:List Value},PRlist S gb (A++B) us→ ∃u1 u2,us=u1++u2∧PRlist S gb A u1∧PRlist S gb B u2
 |[],B,us,h=>⟨[],us,rfl,by simp [PRlist],h⟩
 |x::A,B,us,h=>by
  simp only [List.cons_append,PRlist] at h
  obtain ⟨u,us',rfl,h1,h2⟩:=h
  obtain ⟨u1,u2,rfl,h3,h4⟩:=PRlist.split2 h2
  exact ⟨u::u1,u2,rfl,by simp only [PRlist];exact ⟨u,u1,rfl,h1,h3⟩,h4⟩
theorem gm_wanted (h:Rel F S gb σ a w) {ops:Array Oper} {o:Oper} {g:Option (Nat×Bool)} (hm:gm ops o g=true) {t:Bool} (ht:gdo σ g=some t):Region.wanted o (yielded ops a.tmps)=t:=by
 cases g with
 |none=>
  simp only [gm,Option.isNone_iff_eq_none] at hm
  simp only [gdo,Option.some.injEq] at ht
  simp only [Region.wanted,hm,ht]
 |some p=>
  obtain ⟨s,b⟩:=p
  simp only [gm] at hm
  split at hm<;>(try cases hm)
  rename_i j b' hgd
  simp only [Bool.and_eq_true,beq_iff_eq] at hm
  obtain ⟨rfl,hdst⟩:=hm
  simp only [gdo] at ht
  have henv:=h.env s
  cases t with
  |true=>
   rw [gdv_true ht] at henv
   simp only [PR] at henv
   simp only [Region.wanted,hgd,yielded_of (ops:=ops) hdst henv]
   simp
  |false=>
   simp only [Region.wanted,hgd]
   rcases gdv_false ht with e|e
   ·rw [e] at henv
    simp only [PR] at henv
    rw [yielded_of (ops:=ops) hdst henv]
    cases b<;>rfl
   ·rw [e] at henv
    simp only [PR,PRlist] at henv
    obtain ⟨us,hu,hn⟩:=henv
    have:yielded ops a.tmps j=none:=by
     unfold yielded
     rw [hdst]
     simp only [Option.bind_some]
     cases hq:a.tmps[s]? with
     |none=>rfl
     |some v=>
      have:v= .tuple us:=by rw [←hu];simp [tv,Array.getD_eq_getD_getElem?,hq]
      rw [this]
    rw [this];rfl
section
variable {l:Nat} {ts:List (List AV)} {J:Nat→(Nat→Prop)→Mem→World→Prop} {Jx:(Nat→Prop)→Mem→World→Prop} {T0:Nat→Prop} {Win:World} {Sin:Mem} {GL:List (Nat×List Value)} {N:Nat}
theorem Gk.move (ht:Tells P l ts J Jx) (k:Option Nat):GMove (Gk J Jx k):=by
 cases k with
 |none=>exact ht.moveX
 |some j=>exact ht.move j
theorem told_next {j:Nat} {G Gx:(Nat→Prop)→Mem→World→Prop} {G0:(Nat→Prop)→Mem→World→Prop} (h:YI T0 Win Sin G0 (F.at S gb σ a w a.defers) S gb σ a w) (hp:σ.pm=[]) {d:Nat} (hd:d<F.N) {e:Ending} {w':World} (hpo:ToldPost S G Gx (fun x=>T0 x∨MO gb σ a w x) w e w'):
  (e= .returned (.bool true)∧ ∃F' S',F'.GL=F.GL∧F'.N=F.N∧F'.df=a.defers∧YI T0 Win Sin G F' S' gb (σ.put d (.bool true)) (a.put (some d) (.bool true)) w')∨
  (e= .returned (.bool false)∧ ∃F' S',F'.GL=F.GL∧F'.N=F.N∧F'.df=a.defers∧YI T0 Win Sin Gx F' S' gb (σ.put d (.bool false)) (a.put (some d) (.bool false)) w'):=by
 obtain ⟨h1,h2,h3,h4,h5,S',h6,h7,h8,h9⟩:=hpo
 rcases h9 with ⟨rfl,h9⟩|⟨rfl,h9⟩
 ·have hy:=h.after hp h1 h2 h3 h4 h5 h6 h7 h8 h9
  exact .inl ⟨rfl,{F.at S gb σ a w a.defers with w0:=w',S0:=S'},S',rfl,rfl,rfl,hy.with (hy.rel.put (d:=d) (v:= .bool true) (u:= .bool true) hd (by simp [PR]))⟩
 ·have hy:=h.after hp h1 h2 h3 h4 h5 h6 h7 h8 h9
  exact .inr ⟨rfl,{F.at S gb σ a w a.defers with w0:=w',S0:=S'},S',rfl,rfl,rfl,hy.with (hy.rel.put (d:=d) (v:= .bool false) (u:= .bool false) hd (by simp [PR]))⟩
theorem listY (ht:Tells P l ts J Jx) {ops:Array Oper} {K:Option Nat→St→Prop} {Q':Exit→Act→World→Prop} (hQ: ∀k F S gb σ a w,FO GL N F→YI T0 Win Sin (Gk J Jx k) F S gb σ a w→K k σ→Q' .normal a w):
  ∀ {ol:List Oper} {yl:List YOp},mtsY P GL N ops ol yl=true→ ∀ {k:Option Nat} {F:Fr} {S:Mem} {gb:Gb} {σ:St} {a:Act} {w:World},FO GL N F→YI T0 Win Sin (Gk J Jx k) F S gb σ a w→wpYl (Spec P GL) (TellS P GL) l ts yl K k σ→wpLI P ops Q' ol a w
 |[],yl,hm,k,F,S,gb,σ,a,w,hF,h,hw=>by
  cases yl<;>simp [mtsY] at hm
  exact hQ _ _ _ _ _ _ _ hF h hw
 |o::r,yl,hm,k,F,S,gb,σ,a,w,hF,h,hw=>by
  cases yl with
  |nil=>simp [mtsY] at hm
  |cons y s=>
   simp only [mtsY,Bool.and_eq_true] at hm
   obtain ⟨hm1,hm2⟩:=hm
   simp only [wpLI]
   have skip: ∀(g:Option (Nat×Bool)) (d:Nat),gm ops o g=true→slotOk N d o.dst=true→gdo σ g=some false→wpYl (Spec P GL) (TellS P GL) l ts s K k (σ.put d (.tup []))→
     (if Region.wanted o (yielded ops a.tmps)=true then o.wpIn Fence.wide 0 P a w (wpLI P ops Q' r) Q' else wpLI P ops Q' r (a.put o.dst undef) w):=by
    intro g d hg hs hgd hw
    rw [gm_wanted h.rel hg hgd,if_neg (by simp)]
    obtain ⟨h1,h2⟩:=slotOk_iff.1 hs
    rw [h1]
    exact listY ht hQ hm2 hF (h.with (h.rel.put (by rw [hF.N];exact h2) (by simp only [PR,PRlist,undef];exact ⟨#[],rfl,rfl⟩))) hw
   have hdf:a.defers=[]:=by rw [h.rel.defers];exact hF.df
   have hdep:(Fence.wide.depth.isSome=true→1≤0):=fun h=>by cases h
   cases y with
   |o ao=>
    simp only [wpYl] at hw
    simp only [mtY] at hm1
    have:=opg_sound h.rel (by rw [hF.GL,hF.N];exact hm1) (K:=fun τ=>wpYl (Spec P GL) (TellS P GL) l ts s K k τ) (by rw [hF.GL];exact hw) (K':=wpLI P ops Q' r) (Q:=Q') (fun S gb σ a w hr hk=>listY ht hQ hm2 hF (h.with hr) hk)
    split
    ·rename_i hc;rw [if_pos hc] at this;exact op_wide this
    ·rename_i hc;rw [if_neg hc] at this;exact this
   |yl g d yy ys=>
    simp only [mtY,Bool.and_eq_true] at hm1
    obtain ⟨⟨hg,hs⟩,hop⟩:=hm1
    simp only [wpYl] at hw
    split at hw
    ·rename_i hgd
     rw [gm_wanted h.rel hg hgd,if_pos rfl]
     obtain ⟨h1,h2⟩:=slotOk_iff.1 hs
     split at hop<;>(try cases hop)
     rename_i f' as tys hop'
     simp only [Bool.and_eq_true] at hop
     obtain ⟨hx,hxs⟩:=hop
     obtain ⟨j,rfl,hpm,hy,hts,hids,hw1,hw2⟩:=hw
     have hyv:=mX_sound h.rel (by rw [hF.GL];exact hx)
     rw [hy] at hyv
     simp only [PR] at hyv
     have hl:=mXs_sound h.rel (by rw [hF.GL];exact hxs)
     have hl0:PRlist S gb0 (ys.map σ.v) (as.map a.eval).toList:=by
      rw [Array.toList_map]
      exact PRlist.restr _ _ (fun d hd=>by rw [hids] at hd;cases hd) hl
     have hn:=h.now (Gk.move ht (some j)) hpm
     obtain ⟨fn,tmps,asg,bdy,hyr,hround⟩:=ht.round j _ _ _ _ _ hts hl0 hn.g
     refine ⟨fun _ _=>trivial,?_⟩
     have he:o.semAt Fence.wide.round a.eval=execOp a.eval o:=Oper.semAt_none _ _
     rw [he]
     have hrun:(execOp a.eval o).run P w=(Instr.yield l (as.map a.eval)).run P w:=by
      unfold execOp
      simp [hop',resolve,hyv,Deferred.ofValue,invoke]
     rw [hrun]
     have hyr':(Instr.yield l (as.map a.eval)).run P w= .ok (.round l fn tmps asg bdy) w:=hyr
     rw [hyr']
     refine ⟨hdep,RoundIn.mono hround (fun e w' hpo=>?_)⟩
     have hd:d<F.N:=by rw [hF.N];exact h2
     rw [h1]
     rcases told_next (j:=j) hn hpm hd hpo with ⟨rfl,F',S',q1,q2,q3,hy'⟩|⟨rfl,F',S',q1,q2,q3,hy'⟩
     ·exact listY ht hQ hm2 ⟨q1.trans hF.GL,q2.trans hF.N,q3.trans hdf⟩ (k:=some (j+1)) hy' hw1
     ·exact listY ht hQ hm2 ⟨q1.trans hF.GL,q2.trans hF.N,q3.trans hdf⟩ (k:=none) hy' hw2
    ·rename_i hgd
     exact skip g d hg hs hgd hw
    ·cases hw
   |rc g d f ys yy=>
    simp only [mtY,Bool.and_eq_true] at hm1
    obtain ⟨⟨hg,hs⟩,hop⟩:=hm1
    simp only [wpYl] at hw
    split at hw
    ·rename_i hgd
     rw [gm_wanted h.rel hg hgd,if_pos rfl]
     obtain ⟨h1,h2⟩:=slotOk_iff.1 hs
     split at hop<;>(try cases hop)
     rename_i f' as tys hop'
     simp only [Bool.and_eq_true,beq_iff_eq] at hop
     obtain ⟨rfl,hxs⟩:=hop
     obtain ⟨j,us,rfl,hpm,hy,⟨heg,hT⟩,hseg,hids,hw1,hw2⟩:=hw
     have hl:=mXs_sound h.rel (by rw [hF.GL];exact hxs)
     rw [List.map_append,List.map_cons,List.map_nil,hy] at hl
     obtain ⟨vs,ws,hvw,hvs,hws⟩:=PRlist.split2 hl
     simp only [PRlist,PR] at hws
     obtain ⟨u,us',rfl,rfl,rfl⟩:=hws
     have hvs0:PRlist S gb0 (ys.map σ.v) vs:=PRlist.restr _ _ (fun d hd=>by rw [hids] at hd;cases hd) hvs
     have hn:=h.now (Gk.move ht (some j)) hpm
     have hcall:=hT S vs l ts J Jx ht hvs0 (fun i us hi o u hu=>by
      have:=h.rel.glo i us (by rw [hF.GL];exact hi) o u hu
      exact ⟨h.rel.le _ _ _ this.1,this.2⟩) j hseg _ w (fun x hx=>by
       rcases hx with hx|hx
       ·exact ⟨(hn.t0 x hx).1,(hn.t0 x hx).2.2⟩
       ·exact hn.m x hx) hn.g h.rel.hr.agree
     refine ⟨fun _ _=>trivial,?_⟩
     have he:o.semAt Fence.wide.round a.eval=execOp a.eval o:=Oper.semAt_none _ _
     rw [he]
     have harr:as.map a.eval=(vs++[Value.func (.yield l) #[] #[]]).toArray:=by
      apply Array.ext'
      rw [Array.toList_map,hvw]
     have hrun:(execOp a.eval o).run P w= .ok (.enter f' (vs++[Value.func (.yield l) #[] #[]]).toArray) w:=by
      rw [←heg,←harr]
      unfold execOp
      simp [hop',resolve,Act.eval,Deferred.ofValue,invoke]
     rw [hrun]
     refine ⟨hdep,hcall.mono (fun e w' hpo=>?_)⟩
     have hd:d<F.N:=by rw [hF.N];exact h2
     rw [h1]
     rcases told_next (j:=j) hn hpm hd hpo with ⟨rfl,F',S',q1,q2,q3,hy'⟩|⟨rfl,F',S',q1,q2,q3,hy'⟩
     ·exact listY ht hQ hm2 ⟨q1.trans hF.GL,q2.trans hF.N,q3.trans hdf⟩ (k:=some (j+us.length)) hy' hw1
     ·exact listY ht hQ hm2 ⟨q1.trans hF.GL,q2.trans hF.N,q3.trans hdf⟩ (k:=none) hy' hw2
    ·rename_i hgd
     exact skip g d hg hs hgd hw
    ·cases hw
end
end Go.Ai
namespace Go.Ai
open Go.RowKit
variable {P:Program} {F:Fr} {S:Mem} {gb:Gb} {σ:St} {a:Act} {w:World}
section
variable {l:Nat} {ts:List (List AV)} {J:Nat→(Nat→Prop)→Mem→World→Prop} {Jx:(Nat→Prop)→Mem→World→Prop} {T0:Nat→Prop} {Win:World} {Sin:Mem} {GL:List (Nat×List Value)} {N:Nat}
theorem codeY {dr:Array Oper→List (List Nat)→List AOp→Bool} (hdo:DrawsOk P GL N dr) (ht:Tells P l ts J Jx): ∀ {ac:ACY} {c:Code},mY P GL N dr c ac=true→ ∀ {Q:AE→Option Nat→St→Prop} {Q':Exit→Act→World→Prop},
  (∀e k F S gb σ a w,FO GL N F→YI T0 Win Sin (Gk J Jx k) F S gb σ a w→Q e k σ→Q' (toE e) a w)→ ∀ {k:Option Nat} {F:Fr} {S:Mem} {gb:Gb} {σ:St} {a:Act} {w:World},FO GL N F→YI T0 Win Sin (Gk J Jx k) F S gb σ a w→
  wpY (Spec P GL) (TellS P GL) l ts ac Q k σ→c.wpIn Fence.wide 0 P Q' a w:=by
 intro ac
 induction ac with
 |c ac=>
  intro c hm Q Q' hQ k F S gb σ a w hF h hw
  have hm:mC P GL N dr c ac=true:=by cases c<;>exact hm
  exact wpIn_wide.2 (code_sound (F:=F) (dr:=dr) (by rw [hF.GL,hF.N];exact hdo) (by rw [hF.GL,hF.N];exact hm) (Q:=fun e τ=>Q e k τ) (fun e S gb σ a w hr hq=>hQ e k F S gb σ a w hF (h.with hr) hq) h.rel (by rw [hF.GL];exact hw))
 |rg l'=>
  intro c hm Q Q' hQ k F S gb σ a w hF h hw
  cases c<;>(try simp only [mY,Bool.false_eq_true] at hm)
  rename_i id ops draw
  cases draw<;>simp only [mY,Bool.false_eq_true] at hm
  exact wpIn_region_list (listY ht (fun k F S gb σ a w hF h hk=>hQ .n k F S gb σ a w hF h hk) hm hF h hw)
 |sq x y ihx ihy=>
  intro c hm Q Q' hQ k F S gb σ a w hF h hw
  cases c<;>simp only [mY,Bool.and_eq_true,Bool.false_eq_true] at hm
  rename_i cx cy
  refine wpIn_seq (ihx hm.1 (Q:=fun e k τ=>match e with | .n=>wpY (Spec P GL) (TellS P GL) l ts y Q k τ|e=>Q e k τ) (Q':=Exit.then (cy.wpIn Fence.wide 0 P Q') Q') ?_ hF h hw)
  intro e k F S gb σ a w hF h hq
  cases e
  ·exact ihy hm.2 hQ hF h hq
  ·exact hQ (.x _) _ _ _ _ _ _ _ hF h hq
  ·exact hQ .r _ _ _ _ _ _ _ hF h hq
 |cd c' x y ihx ihy=>
  intro c hm Q Q' hQ k F S gb σ a w hF h hw
  cases c<;>simp only [mY,Bool.and_eq_true,Bool.false_eq_true] at hm
  obtain ⟨⟨hc,hx⟩,hy⟩:=hm
  have hv:=mX_sound h.rel (by rw [hF.GL];exact hc)
  simp only [wpY] at hw
  split at hw
  ·rename_i t ht'
   rw [ht'] at hv
   simp only [PR] at hv
   refine wpIn_cond hv ?_
   cases t
   ·exact ihy hy hQ hF h (by simpa using hw)
   ·exact ihx hx hQ hF h (by simpa using hw)
  ·cases hw
 |bl i x ih=>
  intro c hm Q Q' hQ k F S gb σ a w hF h hw
  cases c<;>simp only [mY,Bool.and_eq_true,Bool.false_eq_true,beq_iff_eq] at hm
  obtain ⟨rfl,hx⟩:=hm
  rename_i i cx
  refine wpIn_block (ih hx (Q:=fun e k τ=>match e with | .x j=>if j=i then Q .n k τ else Q (.x j) k τ|e=>Q e k τ) (Q':=Exit.inBlock i Q') ?_ hF h hw)
  intro e k F S gb σ a w hF h hq
  cases e
  ·exact hQ .n _ _ _ _ _ _ _ hF h hq
  ·rename_i j
   simp only [toE,Exit.inBlock]
   dsimp only at hq
   split at hq
   ·rename_i e;rw [if_pos e];exact hQ .n _ _ _ _ _ _ _ hF h hq
   ·rename_i e;rw [if_neg e];exact hQ (.x _) _ _ _ _ _ _ _ hF h hq
  ·exact hQ .r _ _ _ _ _ _ _ hF h hq
 |lp x ih=>
  intro c hm Q Q' hQ k F S gb σ a w hF h hw
  cases c<;>simp only [mY,Bool.false_eq_true] at hm
  rename_i cx
  simp only [wpY] at hw
  obtain ⟨n',hn⟩:=hw
  intro b kk cs hro hb hr
  have key: ∀n' k F S gb σ a w,FO GL N F→YI T0 Win Sin (Gk J Jx k) F S gb σ a w→itY (wpY (Spec P GL) (TellS P GL) l ts x) Q n' k σ→ ∃e a' w',Q' e a' w'∧ArrivesIn (Machine.fenced P Fence.wide) P (lone (b.atR a (.code cx:: .inLoop cx::kk)) cs w) b kk cs e a' w':=by
   intro n'
   induction n' with
   |zero=>intro k F S gb σ a w hF h hn;exact hn.elim
   |succ n' ihn=>
    intro k F S gb σ a w hF h hn
    obtain ⟨τ,hτ,hbb⟩:=hn
    obtain ⟨gb',h'⟩:=h.rel.weakR hτ
    obtain ⟨e,a₁,w₁,hq,harr⟩:=ih hm (Q:=fun e k τ=>match e with | .n=>itY (wpY (Spec P GL) (TellS P GL) l ts x) Q n' k τ|e=>Q e k τ) (Q':=Exit.then (fun a w=> ∃k F S gb σ,FO GL N F∧YI T0 Win Sin (Gk J Jx k) F S gb σ a w∧itY (wpY (Spec P GL) (TellS P GL) l ts x) Q n' k σ) Q') (by
     intro e k F S gb σ a w hF h hq
     cases e
     ·exact ⟨_,_,_,_,_,hF,h,hq⟩
     ·exact hQ (.x _) _ _ _ _ _ _ _ hF h hq
     ·exact hQ .r _ _ _ _ _ _ _ hF h hq) hF (h.with h') hbb b (.inLoop cx::kk) cs hro hb hr
    cases e with
    |normal=>
     obtain ⟨k1,F1,S1,gb1,σ1,hF1,h1,hi1⟩:=hq
     obtain ⟨e₂,a₂,w₂,hq₂,harr₂⟩:=ihn _ _ _ _ _ _ _ hF1 h1 hi1
     exact ⟨e₂,a₂,w₂,hq₂,.of_steps (StepsIn.trans harr (.one (fenced_calm hb hr rfl) stepR_inLoop)) harr₂⟩
    |exit id=>exact ⟨_,a₁,w₁,hq,.pass (x:= .inLoop cx) rfl (fun _ _=> .inl (by simp)) harr⟩
    |goto l=>exact ⟨_,a₁,w₁,hq,.pass (x:= .inLoop cx) rfl (fun _ _=> .inl (by simp)) harr⟩
    |ret=>exact ⟨_,a₁,w₁,hq,.pass (x:= .inLoop cx) rfl (fun _ _=> .inl (by simp)) harr⟩
    |panic ch=>exact ⟨_,a₁,w₁,hq,.pass (x:= .inLoop cx) rfl (fun _ _=> .inl (by simp)) harr⟩
    |outgrown=>exact ⟨_,a₁,w₁,hq,.pass (x:= .inLoop cx) rfl (fun _ _=> .inl (by simp)) harr⟩
  obtain ⟨e,a',w',hq,harr⟩:=key n' _ _ _ _ _ _ _ hF h hn
  exact ⟨e,a',w',hq,.of_steps (.one (fenced_calm hb hr rfl) stepR_loop) harr⟩
end
structure AFY where
 c:ACY
 r:Nat
 np:Nat
 N:Nat
def mFY (P:Program) (GL:List (Nat×List Value)) (dr:Array Oper→List (List Nat)→List AOp→Bool) (fn:Func) (f:AFY):Bool:=
 fn.name != "runtime.NumGoroutine"&&fn.params.size+fn.nfree==f.np&&fn.ntmps==f.N&&Nat.ble f.np f.N&&mRs P [.t f.r] fn.results.toList&&(match fn.body with |some c=>mY P GL f.N dr c f.c|none=>false)
def postY (r:Nat) (k:Nat):AE→Option Nat→St→Prop:=fun e q σ=>(e= .n∨e= .r)∧σ.pm=[]∧((q=some k∧lk σ.e r= .bool true)∨(q=none∧lk σ.e r= .bool false))
theorem fun_tells {GL:List (Nat×List Value)} {dr:Array Oper→List (List Nat)→List AOp→Bool} {f:Nat} {fn:Func} {af:AFY} (hf:P.funcs[f]?=some fn) (hm:mFY P GL dr fn af=true) (hd:DrawsOk P GL af.N dr) {args:List AV} {us:List (List AV)} (hl:args.length+1=af.np) (hids:idsL args=[])
  (hw: ∀(l:Nat) (ts:List (List AV)) (k:Nat),(∀j,j<us.length→ts[k+j]?=us[j]?)→wpY (Spec P GL) (TellS P GL) l ts af.c (postY af.r (k+us.length)) (some k) ⟨initE 0 (args++[.yv l]),[],[]⟩):TellS P GL f args us:=by
 simp only [mFY,Bool.and_eq_true,bne_iff_ne,beq_iff_eq] at hm
 obtain ⟨⟨⟨⟨⟨h1,h2⟩,h3⟩,h4⟩,h5⟩,h6⟩:=hm
 split at h6<;>(try cases h6)
 rename_i c hb
 have h4:=Nat.le_of_ble_eq_true h4
 refine ⟨fun as w=>by simp [callFunc,hf,hb,h1],?_⟩
 intro S vs l ts J Jx ht hvs hgl k hseg T W hT hJ hag
 have hlen:vs.length=args.length:=hvs.length.symm
 refine callsIn_of_wp (n:=0) hf hb trivial ?_
 obtain ⟨ws,hws⟩: ∃ws,ws=vs++[Value.func (.yield l) #[] #[]]:=⟨_,rfl⟩
 rw [←hws]
 have hwl:ws.length=vs.length+1:=by rw [hws];simp
 let F:Fr:=⟨S,W,fun _=>False,gb0,af.N,GL,[]⟩
 have hpl:PRlist S gb0 (args++[.yv l]) ws:=by rw [hws];exact hvs.append (by simp [PRlist,PR])
 have hrel:Rel F S gb0 ⟨initE 0 (args++[.yv l]),[],[]⟩ {tmps:=ws.toArray++Array.replicate (fn.ntmps - ws.toArray.size) undef,defers:=[]} W:=by
  refine ⟨rfl,?_,Bw.refl _ _,fun _ _ _ _=>rfl,Mem.le.refl _,?_,⟨hag,(fun d cs h=>by cases h),(fun d cs h=>by cases h),(fun d d' g z z' h=>by cases h),(fun p k h=>by cases h),(fun p q k l b h=>by cases h),(fun p k b d z h=>by cases h),(fun d off k h=>by cases h)⟩,(fun d g z h=>by cases h),(fun p k g h=>by cases h),(fun d h=>absurd rfl h),(fun d=>rfl),hgl⟩
  ·show (ws.toArray++Array.replicate (fn.ntmps - ws.toArray.size) undef).size=af.N
   simp;omega
  ·intro t
   have:=(lk_initE hpl 0 t).2 t (by omega)
   rw [tv_init]
   exact this
 have hfun:(fun x=>T x∨F.M x)=T:=by funext x;exact propext ⟨fun h=>h.elim id False.elim,.inl⟩
 have hy:YI T W S (Gk J Jx (some k)) F S gb0 ⟨initE 0 (args++[.yv l]),[],[]⟩ {tmps:=ws.toArray++Array.replicate (fn.ntmps - ws.toArray.size) undef,defers:=[]} W:=by
  refine ⟨hrel,?_,fun x hx=>⟨(hT x hx).1,fun h=>h,(hT x hx).2⟩,(fun x h=>h.elim),Mem.le.refl _,Nat.le_refl _,rfl,rfl,rfl,fun _ _=>rfl⟩
  show J k (fun x=>T x∨F.M x) S W
  rw [hfun];exact hJ
 refine codeY (N:=af.N) hd ht h6 (Q:=postY af.r (k+us.length)) ?_ ⟨rfl,rfl,rfl⟩ hy (hw l ts k hseg)
 rintro e q F2 S2 gb2 σ2 a2 w2 hF2 h2 ⟨he,hpm,hq⟩
 have hn:=h2.now (Gk.move ht q) hpm
 have hres: ∀b:Bool,lk σ2.e af.r= .bool b→(results fn a2.tmps).run P w2= .ok (.bool b) w2:=by
  intro b hbv
  obtain ⟨us',hrun,g2,g3⟩:=res_run (P:=P) h2.rel h5 (vs':=[.bool b]) (by simp [resA,hbv])
  simp only [PRlist,PR] at g2
  obtain ⟨u,us'',rfl,rfl,rfl⟩:=g2
  simpa using hrun
 have hdf:a2.defers=[]:=by rw [h2.rel.defers];exact hF2.df
 have fin:a2.defers=[]∧ ∃v,(results fn a2.tmps).run P w2= .ok v w2∧ToldPost S (J (k+us.length)) Jx T W (.returned v) w2:=by
  refine ⟨hdf,?_⟩
  have common: ∀(G:(Nat→Prop)→Mem→World→Prop),GMove G→G (fun x=>T x∨MO gb2 σ2 a2 w2 x) S2 w2→G T S2 w2:=by
   intro G hG hg
   refine hG _ _ _ _ _ _ hg ⟨Bw.refl _ _,Mem.le.refl _,h2.rel.hr.agree,fun _ _ _ _=>rfl,fun g hg=> .inl (.inl hg),fun g hg=>(hn.t0 g hg).2.2⟩
  rcases hq with ⟨rfl,hv⟩|⟨rfl,hv⟩
  ·exact ⟨_,hres true hv,hn.size,hn.os,hn.tape,hn.output,hn.old,S2,hn.le,h2.rel.hr.agree,fun g hg=>(hn.t0 g hg).2.2,.inl ⟨rfl,common _ (Gk.move ht (some _)) hn.g⟩⟩
  ·exact ⟨_,hres false hv,hn.size,hn.os,hn.tape,hn.output,hn.old,S2,hn.le,h2.rel.hr.agree,fun g hg=>(hn.t0 g hg).2.2,.inr ⟨rfl,common _ (Gk.move ht none) hn.g⟩⟩
 rcases he with rfl|rfl
 ·exact fin
 ·exact fin
end Go.Ai
namespace Go.Ai
open Go.RowKit
variable {P:Program} {F:Fr} {S:Mem} {gb:Gb} {σ:St} {a:Act} {w:World}
structure AFI where
 d:Nat
 l:List YOp
 N:Nat
def mFI (P:Program) (GL:List (Nat×List Value)) (fn:Func) (f:AFI):Bool:=
 fn.name != "runtime.NumGoroutine"&&fn.params.size+fn.nfree==2&&fn.ntmps==f.N&&Nat.ble 2 f.N&&fn.results.size==0&&
 (match fn.body with
 |some (.region _ ops false)=>(match ops.toList with
  |o::r=>o.guard.isNone&&mt1 P GL f.N o (.lds f.d (.s 1))&&mtsY P GL f.N ops r f.l
  |_=>false)
 |_=>false)
theorem iter_load {GL:List (Nat×List Value)} {gf:Nat} {fn:Func} {af:AFI} (hf:P.funcs[gf]?=some fn) (hm:mFI P GL fn af=true) {b:Id} (hbi:b.isIt=false) {v0:AV} (hv0:v0.ids=[]) {xs:List (List AV)}
  (hw: ∀l:Nat,wpYl (Spec P GL) (TellS P GL) l xs af.l (fun q σ=>σ.pm=[]∧(q=some xs.length∨q=none)) (some 0) ⟨[(af.d,v0),(0,.yv l)],[],[]⟩):IterS P GL gf [.ptr b 0] [(b,[v0])] xs:=by
 simp only [mFI,Bool.and_eq_true,bne_iff_ne,beq_iff_eq] at hm
 obtain ⟨⟨⟨⟨⟨h1,h2⟩,h3⟩,h4⟩,h5⟩,h6⟩:=hm
 have h4:=Nat.le_of_ble_eq_true h4
 split at h6<;>(try cases h6)
 rename_i id ops hb
 split at h6<;>(try cases h6)
 rename_i o r hops
 simp only [Bool.and_eq_true,Option.isNone_iff_eq_none] at h6
 obtain ⟨⟨hg,hm1⟩,hm2⟩:=h6
 refine ⟨fun as w=>by simp [callFunc,hf,hb,h1],?_⟩
 intro S gb us hus hgl l J Jx ht W hJ hhr
 simp only [PRlist] at hus
 obtain ⟨u1,us',rfl,hu1,rfl⟩:=hus
 have hagr:=hhr.agree
 obtain ⟨ws,hws⟩: ∃ws:List Value,ws=[Value.func (.yield l) #[] #[],u1]:=⟨_,rfl⟩
 have hargs:(#[Value.func (.yield l) #[] #[]]++[u1].toArray)=ws.toArray:=by rw [hws];rfl
 rw [hargs]
 have hwl:ws.length=2:=by rw [hws];rfl
 refine callsIn_of_wp (n:=0) hf hb trivial ?_
 obtain ⟨a0,ha0⟩: ∃a0:Act,a0={tmps:=ws.toArray++Array.replicate (fn.ntmps - ws.toArray.size) undef,defers:=[]}:=⟨_,rfl⟩
 rw [←ha0]
 have hup:=hhr.up
 let F0:Fr:=⟨S,W,fun g=> ∃d z,(lkB [(b,[v0])] d).isSome∧gb d=some (g,z),gb,af.N,GL,[]⟩
 have hsz:a0.tmps.size=af.N:=by rw [ha0];simp;omega
 have hpl:PRlist S (gbUp gb) [.yv l,.ptr (.up b) 0] ws:=by
  rw [hws]
  have:=PR_up _ _ hu1
  simp only [AV.mp] at this
  simp only [PRlist]
  exact ⟨_,_,rfl,by simp [PR],_,_,rfl,this,rfl⟩
 have hrel:Rel F0 S (gbUp gb) ⟨initE 0 [.yv l,.ptr (.up b) 0],mpB Id.up [(b,[v0])],[]⟩ a0 W:=by
  refine ⟨by rw [ha0],hsz,Bw.refl _ _,fun _ _ _ _=>rfl,Mem.le.refl _,?_,hup.anySv (fun p k h=>by cases h),?_,(fun p k g h=>by cases h),?_,fun d=>rfl,hgl⟩
  ·intro t
   have:=(lk_initE hpl 0 t).2 t (by omega)
   rw [ha0,tv_init]
   exact this
  ·intro i g z hi hq
   obtain ⟨c1,hc1⟩:=Option.isSome_iff_exists.1 hi
   obtain ⟨j,cs,rfl,hj,_⟩:=lkB_mpB_some up_inj hc1
   exact .inr ⟨j,z,by rw [hj];rfl,hq⟩
  ·intro i hi
   cases i<;>simp [gbUp,Id.isUp] at hi ⊢
 have hmp:v0.mp Id.up=v0:=mp_noids hv0
 obtain ⟨e1,e2,u,e3,e4⟩:=ev_sound hrel hm1 (d:=af.d) (v:=v0) (by simp [ev,loadS,St.v,lk,initE,mpB,mpL,lkB,hmp])
 have e4:PR S gb0 v0 u:=PR.restr _ _ (fun d hd=>by rw [hv0] at hd;cases hd) e4
 have e2:af.d<af.N:=e2
 let F1:Fr:=⟨S,W,fun _=>False,gb0,af.N,GL,[]⟩
 have hrel1:Rel F1 S gb0 ⟨[(af.d,v0),(0,.yv l)],[],[]⟩ (a0.put (some af.d) u) W:=by
  refine ⟨by rw [ha0];rfl,by simp [Act.put,hsz];rfl,Bw.refl _ _,fun _ _ _ _=>rfl,Mem.le.refl _,?_,⟨hagr,(fun d cs h=>by cases h),(fun d cs h=>by cases h),(fun d d' g z z' h=>by cases h),(fun p k h=>by cases h),(fun p q k l b h=>by cases h),(fun p k b d z h=>by cases h),(fun d off k h=>by cases h)⟩,(fun d g z h=>by cases h),(fun p k g h=>by cases h),(fun d h=>absurd rfl h),(fun d=>rfl),hgl⟩
  intro t
  rw [tv_put (by rw [hsz];exact e2)]
  simp only [lk]
  split
  ·exact e4
  ·split
   ·rename_i h0
    subst h0
    rw [ha0,tv_init,hws]
    simp [PR]
   ·simp [PR]
 have hfun:(fun x=>(fun _:Nat=>False) x∨F1.M x)=(fun _:Nat=>False):=by funext x;exact propext ⟨fun h=>h.elim (fun q=>q) (fun q=>q),fun h=>h.elim⟩
 have hy:YI (fun _=>False) W S (Gk J Jx (some 0)) F1 S gb0 ⟨[(af.d,v0),(0,.yv l)],[],[]⟩ (a0.put (some af.d) u) W:=by
  refine ⟨hrel1,?_,(fun x h=>h.elim),(fun x h=>h.elim),Mem.le.refl _,Nat.le_refl _,rfl,rfl,rfl,fun _ _=>rfl⟩
  show J 0 (fun x=>(fun _:Nat=>False) x∨F1.M x) S W
  rw [hfun];exact hJ
 refine wpIn_region_list ?_
 rw [hops]
 simp only [wpLI]
 have hwant:Region.wanted o (yielded ops a0.tmps)=true:=by simp only [Region.wanted,hg]
 rw [if_pos hwant]
 refine op_wide (wp_value e3 ?_)
 rw [e1]
 refine listY (N:=af.N) (GL:=GL) ht ?_ hm2 ⟨rfl,rfl,rfl⟩ hy (hw l)
 rintro q F2 S2 gb2 σ2 a2 w2 hF2 h2 ⟨hpm,hq⟩
 have hn:=h2.now (Gk.move ht q) hpm
 have hdf:a2.defers=[]:=by rw [h2.rel.defers];exact hF2.df
 refine ⟨hdf,.tuple #[],?_,⟨_,rfl⟩,?_⟩
 ·have hr0:fn.results= #[]:=Array.eq_empty_of_size_eq_zero h5
  rw [results_eq,hr0]
  simp
 ·rcases hq with rfl|rfl
  ·exact .inl ⟨_,S2,hn.g⟩
  ·exact .inr ⟨_,S2,hn.g⟩
@[irreducible] def TlH (P:Program) (GL:List (Nat×List Value)) (f:Nat) (args:List AV) (us:List (List AV)):Prop:=TellS P GL f args us
theorem tlh_eq (P:Program) (GL:List (Nat×List Value)):TlH P GL=TellS P GL:=by funext f d I;unfold TlH;rfl
theorem fun_tellsH {P:Program} {GL:List (Nat×List Value)} {dr:Array Oper→List (List Nat)→List AOp→Bool} {f:Nat} {fn:Func} {af:AFY} (hf:P.funcs[f]?=some fn) (hm:mFY P GL dr fn af=true) (hd:DrawsOk P GL af.N dr) {args:List AV} {us:List (List AV)} (hl:args.length+1=af.np) (hids:idsL args=[])
  (hw: ∀(l:Nat) (ts:List (List AV)) (k:Nat),(∀j,j<us.length→ts[k+j]?=us[j]?)→wpY (SpH P GL) (TlH P GL) l ts af.c (postY af.r (k+us.length)) (some k) ⟨initE 0 (args++[.yv l]),[],[]⟩):TlH P GL f args us:=by
 rw [sph_eq,tlh_eq] at hw
 rw [tlh_eq]
 exact fun_tells hf hm hd hl hids hw
theorem iter_loadH {P:Program} {GL:List (Nat×List Value)} {gf:Nat} {fn:Func} {af:AFI} (hf:P.funcs[gf]?=some fn) (hm:mFI P GL fn af=true) {b:Id} (hbi:b.isIt=false) {v0:AV} (hv0:v0.ids=[]) {xs:List (List AV)}
  (hw: ∀l:Nat,wpYl (SpH P GL) (TlH P GL) l xs af.l (fun q σ=>σ.pm=[]∧(q=some xs.length∨q=none)) (some 0) ⟨[(af.d,v0),(0,.yv l)],[],[]⟩):ItH P GL gf [.ptr b 0] [(b,[v0])] xs:=by
 rw [sph_eq,tlh_eq] at hw
 rw [ith_eq]
 exact iter_load hf hm hbi hv0 hw
section
variable {Sp:Nat→Nat→In→Out→Prop} {Tl:Nat→List AV→List (List AV)→Prop} {l:Nat} {ts:List (List AV)} {Q:AE→Option Nat→St→Prop} {k:Option Nat} {σ:St}
theorem wpY_c {a:AC}:wpY Sp Tl l ts (.c a) Q k σ=wpA Sp a (fun e τ=>Q e k τ) σ:=rfl
theorem wpY_rg {l':List YOp}:wpY Sp Tl l ts (.rg l') Q k σ=wpYl Sp Tl l ts l' (Q .n) k σ:=rfl
theorem wpY_sq {x y:ACY}:wpY Sp Tl l ts (.sq x y) Q k σ=wpY Sp Tl l ts x (fun e k τ=>match e with | .n=>wpY Sp Tl l ts y Q k τ|e=>Q e k τ) k σ:=rfl
theorem wpY_bl {i:Nat} {x:ACY}:wpY Sp Tl l ts (.bl i x) Q k σ=wpY Sp Tl l ts x (fun e k τ=>match e with | .x j=>if j=i then Q .n k τ else Q (.x j) k τ|e=>Q e k τ) k σ:=rfl
theorem wpY_lpk {α:Type} {x:ACY} (st:α→St) (kf:α→Nat) (I:α→Prop) (μ:α→Nat)
  (step: ∀(K:Option Nat→St→Prop) (y:α),(∀(z:α) (σ':St),I z→μ z<μ y→Weak σ' (st z)→K (some (kf z)) σ')→I y→wpY Sp Tl l ts x (fun e k τ=>match e with | .n=>K k τ|e=>Q e k τ) (some (kf y)) (st y)) (y:α) (hy:I y) (hw:Weak σ (st y)):wpY Sp Tl l ts (.lp x) Q (some (kf y)) σ:=by
 have key: ∀n y σ,μ y<n→I y→Weak σ (st y)→itY (wpY Sp Tl l ts x) Q n (some (kf y)) σ:=by
  intro n
  induction n with
  |zero=>intro y σ h;omega
  |succ n ih=>
   intro y σ h hy hw
   exact ⟨st y,.inl hw,step (fun k τ=>itY (wpY Sp Tl l ts x) Q n k τ) y (fun z σ' hz hm hw'=>ih z σ' (by omega) hz hw') hy⟩
 exact ⟨μ y+1,key _ y σ (by omega) hy hw⟩
theorem wpYl_o {a:AOp} {r:List YOp} {K:Option Nat→St→Prop}:wpYl Sp Tl l ts (.o a::r) K k σ=wp1 Sp a (fun τ=>wpYl Sp Tl l ts r K k τ) σ:=rfl
theorem wpYl_nil {K:Option Nat→St→Prop}:wpYl Sp Tl l ts [] K k σ=K k σ:=rfl
theorem wpYl_yl {d:Nat} {y:X} {ys:List X} {r:List YOp} {K:Option Nat→St→Prop} {j:Nat} (hp:σ.pm=[]) (hy:σ.v y= .yv l) (ht:ts[j]?=some (ys.map σ.v)) (hi:idsL (ys.map σ.v)=[]) (h1:wpYl Sp Tl l ts r K (some (j+1)) (σ.put d (.bool true))) (h2:wpYl Sp Tl l ts r K none (σ.put d (.bool false))):
  wpYl Sp Tl l ts (.yl none d y ys::r) K (some j) σ:=⟨j,rfl,hp,hy,ht,hi,h1,h2⟩
theorem wpYl_rc {g:Option (Nat×Bool)} (hg:gdo σ g=some true) {d f:Nat} {y:X} {ys:List X} {r:List YOp} {K:Option Nat→St→Prop} {j:Nat} {us:List (List AV)} {vs:List AV} (hT:Tl f vs us) (hv:ys.map σ.v=vs) (hp:σ.pm=[]) (hy:σ.v y= .yv l) (ht: ∀i,i<us.length→ts[j+i]?=us[i]?) (hi:idsL vs=[]) (h1:wpYl Sp Tl l ts r K (some (j+us.length)) (σ.put d (.bool true))) (h2:wpYl Sp Tl l ts r K none (σ.put d (.bool false))):
  wpYl Sp Tl l ts (.rc g d f ys y::r) K (some j) σ:=by
 subst hv
 simp only [wpYl,hg]
 exact ⟨j,us,rfl,hp,hy,hT,ht,hi,h1,h2⟩
theorem wpYl_skip {s:Nat} {b:Bool} {d f:Nat} {y:X} {ys:List X} {r:List YOp} {K:Option Nat→St→Prop} (hg:gdv (lk σ.e s) b=some false) (h:wpYl Sp Tl l ts r K k (σ.put d (.tup []))):wpYl Sp Tl l ts (.rc (some (s,b)) d f ys y::r) K k σ:=by
 simp only [wpYl,gdo,hg]
 exact h
end
end Go.Ai
