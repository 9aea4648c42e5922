/- Lib5: a part of the proof: the rules, or what functions compute. Conditions: as each theorem says. -/
import Derived.Test.YtggemlhclppciaaGreatDoorLib4
import Derived.Scope
set_option linter.unusedSimpArgs false
set_option linter.unusedVariables false
namespace Go.Ai
open Go.RowKit
variable {P:Program} {F:Fr} {S:Mem} {gb:Gb} {σ:St} {a:Act} {w:World}

theorem yielded_of {ops:Array Oper} {j s:Nat} {t:Bool} (hd:((ops[j]?).bind (·.dst))=some s) (hv:a.tmps.getD s undef= .bool t):yielded ops a.tmps j=some t:=by
 unfold yielded
 rw [hd]
 simp only [Option.bind_some]
 cases hq:a.tmps[s]? with
 |none=>simp [Array.getD_eq_getD_getElem?,hq,undef] at hv
 |some v=>simp [Array.getD_eq_getD_getElem?,hq] at hv;rw [hv]

theorem opg_sound (h:Rel F S gb σ a w) {ops:Array Oper} {o:Oper} {ao:AOp} (hm:mt P F.GL F.N ops o ao=true) {K:St→Prop} (hw:wp1 (Spec P F.GL) ao K σ) {K':Act→World→Prop} {Q:Exit→Act→World→Prop}
  (hK: ∀S gb σ a w,Rel F S gb σ a w→K σ→K' a w):if Region.wanted o (yielded ops a.tmps)=true then o.wp P a w K' Q else K' (a.put o.dst undef) w:=by
 by_cases hg: ∃s b d o',ao= .gd s b d o'
 ·obtain ⟨s,b,d,ao',rfl⟩:=hg
  simp only [mt,Bool.and_eq_true,slotOk_iff] at hm
  obtain ⟨⟨h1,h2,h3⟩,h4⟩:=hm
  split at h1<;>(try cases h1)
  rename_i j b' hgd
  simp only [Bool.and_eq_true,beq_iff_eq] at h1
  obtain ⟨rfl,hdst⟩:=h1
  simp only [wp1] at hw
  split at hw
  ·rename_i ht
   have henv:=h.env s
   rw [gdv_true ht] at henv
   simp only [PR] at henv
   have hy:=yielded_of (ops:=ops) hdst henv
   simp only [Region.wanted,hgd,hy]
   rw [if_pos (by simp)]
   exact op1_sound h h4 hw hK
  ·rename_i ht
   have hy:(yielded ops a.tmps j==some b)=false:=by
    have henv:=h.env s
    rcases gdv_false ht with e|e
    ·rw [e] at henv
     simp only [PR] at henv
     rw [yielded_of (ops:=ops) hdst henv]
     cases b<;>rfl
    ·rw [e] at henv
     simp only [PR,PRlist] at henv
     obtain ⟨us,hu,hn⟩:=henv
     have:yielded ops a.tmps j=none:=by
      unfold yielded
      rw [hdst]
      simp only [Option.bind_some]
      cases hq:a.tmps[s]? with
      |none=>rfl
      |some v=>
       have:v= .tuple us:=by rw [←hu];simp [tv,Array.getD_eq_getD_getElem?,hq]
       rw [this]
     rw [this];rfl
   simp only [Region.wanted,hgd,hy]
   rw [if_neg (by simp)]
   rw [h2]
   exact hK _ _ _ _ _ (h.put h3 (by simp only [PR,PRlist,undef];exact ⟨#[],rfl,rfl⟩)) hw
  ·cases hw
 ·have hm':o.guard=none∧mt1 P F.GL F.N o ao=true:=by
   cases ao<;>simp only [mt,Bool.and_eq_true,Option.isNone_iff_eq_none] at hm<;>first|exact hm|exact absurd ⟨_,_,_,_,rfl⟩ hg
  simp only [Region.wanted,hm'.1,if_true]
  exact op1_sound h hm'.2 hw hK

def mts (P:Program) (GL:List (Nat×List Value)) (N:Nat) (ops:Array Oper):List Oper→List AOp→Bool
 |[],[]=>true
 |o::r,ao::s=>mt P GL N ops o ao&&mts P GL N ops r s
 |_,_=>false

theorem list_sound {ops:Array Oper} {K:St→Prop} {Q:Exit→Act→World→Prop} (hQ: ∀S gb σ a w,Rel F S gb σ a w→K σ→Q .normal a w):
  ∀ {l:List Oper} {al:List AOp},mts P F.GL F.N ops l al=true→ ∀ {S:Mem} {gb:Gb} {σ:St} {a:Act} {w:World},Rel F S gb σ a w→wpL (Spec P F.GL) al K σ→wpList P ops Q l a w
 |[],al,hm,S,gb,σ,a,w,h,hw=>by
  cases al<;>simp [mts] at hm
  exact hQ _ _ _ _ _ h hw
 |o::r,al,hm,S,gb,σ,a,w,h,hw=>by
  cases al with
  |nil=>simp [mts] at hm
  |cons ao s=>
   simp only [mts,Bool.and_eq_true] at hm
   simp only [wpL] at hw
   have:=opg_sound h hm.1 hw (K':=wpList P ops Q r) (Q:=Q) (fun S gb σ a w h' hk=>list_sound hQ hm.2 h' hk)
   simp only [wpList]
   split
   ·rename_i hc;rw [if_pos hc] at this;exact .inl this
   ·rename_i hc;rw [if_neg hc] at this;exact this

def paC (P:Program) (GL:List (Nat×List Value)) (N:Nat) (ops:Array Oper) (l:List AOp) (p:PA):Bool:=
 mts P GL N ops (ops.toList.take l.length) l&&(match ops.toList.drop l.length with
  |A::E::T::r=>paM P GL N A E T p&&mts P GL N ops (r.take p.ad.length) p.ad&&(match r.drop p.ad.length with
   |[H]=>H.guard.isNone&&mt1 P GL N H (.so p.ta p.d)
   |_=>false)
  |_=>false)
def pbC (P:Program) (GL:List (Nat×List Value)) (N:Nat) (ops ops2:Array Oper) (l:List AOp) (p:PA):Bool:=
 mts P GL N ops (ops.toList.take l.length) l&&(match ops.toList.drop l.length,ops2.toList with
  |A::r,[E,T]=>paM P GL N A E T p&&mts P GL N ops (r.take p.ad.length) p.ad&&(match r.drop p.ad.length with
   |[H]=>H.guard.isNone&&mt1 P GL N H (.so p.ta p.d)
   |_=>false)
  |_,_=>false)
def nbC (P:Program) (GL:List (Nat×List Value)) (N:Nat) (ops:Array Oper) (s d:Nat):Bool:=
 mts P GL N ops ops.toList (nbL s d false)&&(let l0:=Array.replicate ops.size false;let l1:=l0.setIfInBounds 0 true
  Region.ready .any ops l0==[0]&&Region.ready .any ops l1==[1,2]&&Region.ready .any ops (l1.setIfInBounds 1 true)==[2]&&Region.ready .any ops (l1.setIfInBounds 2 true)==[1]&&
  Region.ready .any ops ((l1.setIfInBounds 1 true).setIfInBounds 2 true)==[3]&&Region.ready .any ops ((l1.setIfInBounds 2 true).setIfInBounds 1 true)==[3]&&
  Region.ready .any ops (((l1.setIfInBounds 1 true).setIfInBounds 2 true).setIfInBounds 3 true)==[]&&Region.ready .any ops (((l1.setIfInBounds 2 true).setIfInBounds 1 true).setIfInBounds 3 true)==[])
def mC (P:Program) (GL:List (Nat×List Value)) (N:Nat) (dr:Array Oper→List (List Nat)→List AOp→Bool):Code→AC→Bool
 | .skip,.sk=>true
 | .region _ ops false,.rg l=>mts P GL N ops ops.toList l
 | .region _ ops false,.fz _ l=>mts P GL N ops ops.toList l
 | .region _ ops true,.rd us l=>mts P GL N ops ops.toList l&&dr ops us l
 | .region _ ops true,.pa us l p=>paC P GL N ops l p&&dr ops us (l++[mark])
 | .region _ ops true,.nb s d=>nbC P GL N ops s d
 | .seq x y,.pb us l p=>match x,y with
  | .region _ ops true,.region _ ops2 false=>pbC P GL N ops ops2 l p&&dr ops us (l++[mark,mark])
  |_,_=>false
 | .seq x y,.sq x' y'=>mC P GL N dr x x'&&mC P GL N dr y y'
 | .cond c x y,.cd c' x' y'=>mX GL c' c&&mC P GL N dr x x'&&mC P GL N dr y y'
 | .block i x,.bl j x'=>i==j&&mC P GL N dr x x'
 | .loop x,.lp x'=>mC P GL N dr x x'
 | .exit i,.ex j=>i==j
 | .ret,.rt=>true
 | .scope x,.sc x'=>mC P GL N dr x x'
 | .label _,.lb=>true
 | .goto _,.no=>true
 | .refuse _,.no=>true
 |_,_=>false

def toE:AE→Exit
 | .n=> .normal
 | .x i=> .exit i
 | .r=> .ret

structure DrawsOk (P:Program) (GL:List (Nat×List Value)) (N:Nat) (dr:Array Oper→List (List Nat)→List AOp→Bool):Prop where
 rd: ∀(F:Fr),F.GL=GL→F.N=N→ ∀(id:Nat) (ops:Array Oper) (us:List (List Nat)) (l:List AOp),mts P F.GL F.N ops ops.toList l=true→dr ops us l=true→ ∀(K:St→Prop) (Q:Exit→Act→World→Prop),(∀S gb σ a w,Rel F S gb σ a w→K σ→Q .normal a w)→
  ∀ {S:Mem} {gb:Gb} {σ:St} {a:Act} {w:World},Rel F S gb σ a w→wpLd (Spec P F.GL) us l 0 [] K σ→(Code.region id ops true).wp P Q a w
 pa: ∀(F:Fr),F.GL=GL→F.N=N→ ∀(id:Nat) (ops:Array Oper) (us:List (List Nat)) (l:List AOp) (p:PA),paC P F.GL F.N ops l p=true→dr ops us (l++[mark])=true→ ∀(K:St→Prop) (Q:Exit→Act→World→Prop),(∀S gb σ a w,Rel F S gb σ a w→K σ→Q .normal a w)→
  ∀ {S:Mem} {gb:Gb} {σ:St} {a:Act} {w:World},Rel F S gb σ a w→wpLd (Spec P F.GL) us l 0 [] (pendW p (fun τ=>wpL (Spec P F.GL) (p.ad++[.so p.ta p.d]) K (τ.put p.te .undef))) σ→(Code.region id ops true).wp P Q a w
 pb: ∀(F:Fr),F.GL=GL→F.N=N→ ∀(id:Nat) (ops ops2:Array Oper) (us:List (List Nat)) (l:List AOp) (p:PA),pbC P F.GL F.N ops ops2 l p=true→dr ops us (l++[mark,mark])=true→ ∀(K:St→Prop) (Q Q1:Exit→Act→World→Prop),(∀S gb σ a w,Rel F S gb σ a w→K σ→Q .normal a w)→
  (∀a w,wpList P ops2 Q ops2.toList a w→Q1 .normal a w)→
  ∀ {S:Mem} {gb:Gb} {σ:St} {a:Act} {w:World},Rel F S gb σ a w→wpLd (Spec P F.GL) us l 0 [] (pendW p (fun τ=>wpL (Spec P F.GL) (p.ad++[.so p.ta p.d]) (fun τ=>K (τ.put p.te .undef)) τ)) σ→(Code.region id ops true).wp P Q1 a w
 nb: ∀(F:Fr),F.GL=GL→F.N=N→ ∀(id:Nat) (ops:Array Oper) (s d:Nat),nbC P F.GL F.N ops s d=true→ ∀(K:St→Prop) (Q:Exit→Act→World→Prop),(∀S gb σ a w,Rel F S gb σ a w→K σ→Q .normal a w)→
  ∀ {S:Mem} {gb:Gb} {σ:St} {a:Act} {w:World},Rel F S gb σ a w→wpL (Spec P F.GL) (nbL s d false) K σ→wpL (Spec P F.GL) (nbL s d true) K σ→(Code.region id ops true).wp P Q a w

theorem code_sound {dr:Array Oper→List (List Nat)→List AOp→Bool} (hd:DrawsOk P F.GL F.N dr): ∀ {c:Code} {ac:AC},mC P F.GL F.N dr c ac=true→ ∀ {Q:AE→St→Prop} {Q':Exit→Act→World→Prop},(∀e S gb σ a w,Rel F S gb σ a w→Q e σ→Q' (toE e) a w)→
  ∀ {S:Mem} {gb:Gb} {σ:St} {a:Act} {w:World},Rel F S gb σ a w→wpA (Spec P F.GL) ac Q σ→c.wp P Q' a w:=by
 intro c
 induction c with
 |skip=>
  intro ac hm Q Q' hQ S gb σ a w h hw
  cases ac<;>simp [mC] at hm
  exact wp_skip (hQ .n _ _ _ _ _ h hw)
 |region id ops draw=>
  intro ac hm Q Q' hQ S gb σ a w h hw
  cases ac
  case rg l=>
   cases draw<;>simp [mC] at hm
   exact wp_region_list (list_sound (fun S gb σ a w h' hk=>hQ .n _ _ _ _ _ h' hk) hm h hw)
  case rd us l=>
   cases draw<;>simp [mC] at hm
   exact hd.rd F rfl rfl id ops us l hm.1 hm.2 (Q .n) Q' (fun S gb σ a w h' hk=>hQ .n _ _ _ _ _ h' hk) h hw
  case fz s l=>
   cases draw<;>simp [mC] at hm
   simp only [wpA] at hw
   obtain ⟨b,n,sz,rows,tl,hf,hk,hw⟩:=hw
   obtain ⟨S',gb',h'⟩:=h.freezeP hf hk
   exact wp_region_list (list_sound (fun S gb σ a w h' hk=>hQ .n _ _ _ _ _ h' hk) hm h' hw)
  case pa us l p=>
   cases draw<;>simp [mC] at hm
   exact hd.pa F rfl rfl id ops us l p hm.1 hm.2 (Q .n) Q' (fun S gb σ a w h' hk=>hQ .n _ _ _ _ _ h' hk) h hw
  case nb s d=>
   cases draw<;>simp [mC] at hm
   exact hd.nb F rfl rfl id ops s d hm (Q .n) Q' (fun S gb σ a w h' hk=>hQ .n _ _ _ _ _ h' hk) h hw.1 hw.2
  all_goals (cases draw<;>simp [mC] at hm)
 |seq x y ihx ihy=>
  intro ac hm Q Q' hQ S gb σ a w h hw
  cases ac
  case sq x' y'=>
   simp [mC] at hm
   refine wp_seq (ihx hm.1 (Q:=AE.sq (wpA (Spec P F.GL) y' Q) Q) ?_ h hw)
   intro e S gb σ a w h' hq
   cases e
   ·exact ihy hm.2 hQ h' hq
   ·exact hQ (.x _) _ _ _ _ _ h' hq
   ·exact hQ .r _ _ _ _ _ h' hq
  case pb us l p=>
   simp only [mC] at hm
   split at hm<;>(try cases hm)
   rename_i id ops id2 ops2
   simp only [Bool.and_eq_true] at hm
   exact wp_seq (hd.pb F rfl rfl id ops ops2 us l p hm.1 hm.2 (Q .n) Q' _ (fun S gb σ a w h' hk=>hQ .n _ _ _ _ _ h' hk) (fun a w hq=>wp_region_list hq) h hw)
  all_goals simp [mC] at hm
 |cond c x y ihx ihy=>
  intro ac hm Q Q' hQ S gb σ a w h hw
  cases ac<;>simp [mC] at hm
  rename_i c' x' y'
  obtain ⟨⟨hc,hx⟩,hy⟩:=hm
  have hv:=mX_sound h hc
  simp only [wpA] at hw
  split at hw
  ·rename_i t ht
   rw [ht] at hv
   simp only [PR] at hv
   refine wp_cond hv ?_
   cases t
   ·exact ihy hy hQ h (by simpa using hw)
   ·exact ihx hx hQ h (by simpa using hw)
  ·cases hw
 |block i x ih=>
  intro ac hm Q Q' hQ S gb σ a w h hw
  cases ac<;>simp [mC] at hm
  rename_i j x'
  obtain ⟨rfl,hx⟩:=hm
  refine wp_block (ih hx (Q:=AE.bl i Q) ?_ h hw)
  intro e S gb σ a w h' hq
  cases e
  ·exact hQ .n _ _ _ _ _ h' hq
  ·rename_i j
   simp only [toE,Exit.inBlock]
   simp only [AE.bl] at hq
   split at hq
   ·rename_i e;rw [if_pos e];exact hQ .n _ _ _ _ _ h' hq
   ·rename_i e;rw [if_neg e];exact hQ (.x _) _ _ _ _ _ h' hq
  ·exact hQ .r _ _ _ _ _ h' hq
 |loop x ih=>
  intro ac hm Q Q' hQ S gb σ a w h hw
  cases ac<;>simp [mC] at hm
  rename_i x'
  simp only [wpA] at hw
  obtain ⟨n,hn⟩:=hw
  intro b k cs
  have key: ∀n S gb σ a w,Rel F S gb σ a w→itA (wpA (Spec P F.GL) x') Q n σ→ ∃e a' w',Q' e a' w'∧Arrives P (lone (b.at a (.code x:: .inLoop x::k)) cs w) b k cs e a' w':=by
   intro n
   induction n with
   |zero=>intro S gb σ a w h hn;exact hn.elim
   |succ n ihn=>
    intro S gb σ a w h hn
    obtain ⟨τ,hτ,hb⟩:=hn
    obtain ⟨gb',h'⟩:=h.weakR hτ
    obtain ⟨e,a₁,w₁,hq,harr⟩:=ih hm (Q:=AE.sq (itA (wpA (Spec P F.GL) x') Q n) Q) (Q':=Exit.then (fun a w=> ∃S gb σ,Rel F S gb σ a w∧itA (wpA (Spec P F.GL) x') Q n σ) Q') (by
     intro e S gb σ a w h'' hq
     cases e
     ·exact ⟨_,_,_,h'',hq⟩
     ·exact hQ (.x _) _ _ _ _ _ h'' hq
     ·exact hQ .r _ _ _ _ _ h'' hq) h' hb b (.inLoop x::k) cs
    cases e with
    |normal=>
     obtain ⟨S1,gb1,σ1,h1,hi1⟩:=hq
     obtain ⟨e₂,a₂,w₂,hq₂,harr₂⟩:=ihn _ _ _ _ _ h1 hi1
     exact ⟨e₂,a₂,w₂,hq₂,.of_steps (Steps.trans harr (.one step_inLoop)) harr₂⟩
    |exit id=>exact ⟨_,a₁,w₁,hq,.pass (x:= .inLoop x) rfl (fun _ _=> .inl (by simp)) harr⟩
    |goto l=>exact ⟨_,a₁,w₁,hq,.pass (x:= .inLoop x) rfl (fun _ _=> .inl (by simp)) harr⟩
    |ret=>exact ⟨_,a₁,w₁,hq,.pass (x:= .inLoop x) rfl (fun _ _=> .inl (by simp)) harr⟩
    |panic ch=>exact ⟨_,a₁,w₁,hq,.pass (x:= .inLoop x) rfl (fun _ _=> .inl (by simp)) harr⟩
    |outgrown=>exact ⟨_,a₁,w₁,hq,.pass (x:= .inLoop x) rfl (fun _ _=> .inl (by simp)) harr⟩
  obtain ⟨e,a',w',hq,harr⟩:=key n _ _ _ _ _ h hn
  exact ⟨e,a',w',hq,.of_steps (.one step_loop) harr⟩
 |rangeFunc=>intro ac hm;cases ac<;>simp [mC] at hm
 |exit i=>
  intro ac hm Q Q' hQ S gb σ a w h hw
  cases ac<;>simp [mC] at hm
  subst hm
  exact wp_exit (hQ (.x _) _ _ _ _ _ h hw)
 |scope x ih=>
  intro ac hm Q Q' hQ S gb σ a w h hw
  cases ac<;>simp [mC] at hm
  refine wp_scope_straight (ih hm (Q:=Q) ?_ h hw)
  intro e S gb σ a w h' hq
  cases e<;>exact hQ _ _ _ _ _ _ h' hq
 |label l=>
  intro ac hm Q Q' hQ S gb σ a w h hw
  cases ac<;>simp [mC] at hm
  exact wp_label (hQ .n _ _ _ _ _ h hw)
 |goto l=>
  intro ac hm Q Q' hQ S gb σ a w h hw
  cases ac<;>simp [mC] at hm
  exact (show False from hw).elim
 |ret=>
  intro ac hm Q Q' hQ S gb σ a w h hw
  cases ac<;>simp [mC] at hm
  exact wp_ret (hQ .r _ _ _ _ _ h hw)
 |refuse=>
  intro ac hm Q Q' hQ S gb σ a w h hw
  cases ac<;>simp [mC] at hm
  exact (show False from hw).elim
end Go.Ai
namespace Go.Ai
open Go.RowKit
variable {P:Program} {F:Fr} {S:Mem} {gb:Gb} {σ:St} {a:Act} {w:World}

inductive AR where
 |t (s:Nat)
 |cs (s:Nat)
 |ca (s n:Nat)

structure AF where
 c:AC
 rs:List AR
 np:Nat
 N:Nat

def resA (σ:St):List AR→Option (List AV)
 |[]=>some []
 | .t s::r=>match resA σ r with
  |some vs=>some (lk σ.e s::vs)
  |none=>none
 | .cs s::r=>match loadS σ.bx (lk σ.e s),resA σ r with
  |some v,some vs=>some (v::vs)
  |_,_=>none
 | .ca s n::r=>match loadN σ.bx n (lk σ.e s),resA σ r with
  |some v,some vs=>some (v::vs)
  |_,_=>none

def oneA:List AV→AV
 |[v]=>v
 |vs=> .tup vs

def postA (rs:List AR) (r:AV):AE→St→Prop
 | .x _,_=>False
 |_,σ=>match resA σ rs with
  |some vs=>shut (oneA vs)=some r
  |none=>False

def initE:Nat→List AV→List (Nat×AV)
 |_,[]=>[]
 |i,v::r=>(i,v)::initE (i+1) r

def mRs (P:Program):List AR→List ResultVar→Bool
 |[],[]=>true
 | .t s::r,.tmp t::q=>s==t&&mRs P r q
 | .cs s::r,.cell t T::q=>s==t&&scal P T&&mRs P r q
 | .ca s n::r,.cell t T::q=>s==t&&aggT P T&&sz? P T==some n&&mRs P r q
 |_,_=>false

def mF (P:Program) (GL:List (Nat×List Value)) (dr:Array Oper→List (List Nat)→List AOp→Bool) (fn:Func) (f:AF):Bool:=
 fn.name != "runtime.NumGoroutine"&&fn.params.size+fn.nfree==f.np&&fn.ntmps==f.N&&Nat.ble f.np f.N&&mRs P f.rs fn.results.toList&&(match fn.body with |some c=>mC P GL f.N dr c f.c|none=>false)

def resG (tmps:Array Value):ResultVar→Sem Value
 | .tmp t=>pure (tmps.getD t undef)
 | .cell a t=>do loadVar t (←asAddr (tmps.getD a undef))
theorem results_eq (fn:Func) (tmps:Array Value):results fn tmps=(do let vs ←fn.results.mapM (resG tmps);pure (if h:vs.size=1 then vs[0] else .tuple vs)):=rfl

theorem res_sound (h:Rel F S gb σ a w): ∀ {rs:List AR} {qs:List ResultVar} {vs:List AV},mRs P rs qs=true→resA σ rs=some vs→ ∀(acc:Array Value),
  ∃us,(qs.foldlM (fun (bs:Array Value) (q:ResultVar)=>(Functor.map bs.push (resG a.tmps q) : Sem (Array Value))) acc).run P w= .ok (acc++us.toArray) w∧PRlist S gb vs us∧ ∀(i s:Nat),rs[i]?=some (AR.t s)→us[i]?=some (tv a s)
 |[],qs,vs,hm,hr,acc=>by
  cases qs<;>simp [mRs] at hm
  simp [resA] at hr;subst hr
  exact ⟨[],by simp,by simp [PRlist],by simp⟩
 | .t s::r,qs,vs,hm,hr,acc=>by
  match qs,hm with
  | .tmp t::q,hm=>
   simp only [mRs,Bool.and_eq_true,beq_iff_eq] at hm
   obtain ⟨rfl,hm⟩:=hm
   simp only [resA] at hr
   split at hr
   ·rename_i vs' hvs
    simp only [Option.some.injEq] at hr;subst hr
    obtain ⟨us,g1,g2,g3⟩:=res_sound h hm hvs (acc.push (a.tmps.getD s undef))
    refine ⟨a.tmps.getD s undef::us,?_,⟨_,_,rfl,h.env s,g2⟩,by
     intro i s' hi
     cases i with
     |zero=>simp at hi;subst hi;rfl
     |succ i=>simpa using g3 i s' (by simpa using hi)⟩
    have:(resG a.tmps (.tmp s)).run P w= .ok (a.tmps.getD s undef) w:=rfl
    simp only [List.foldlM_cons,Sem.run_bind,Sem.run_map,this,Result.andThen_ok]
    rw [g1];simp
   ·cases hr
 | .cs s::r,qs,vs,hm,hr,acc=>by
  match qs,hm with
  | .cell t T::q,hm=>
   simp only [mRs,Bool.and_eq_true,beq_iff_eq] at hm
   obtain ⟨⟨rfl,ht⟩,hm⟩:=hm
   simp only [resA] at hr
   split at hr
   ·rename_i v vs' hl hvs
    simp only [Option.some.injEq] at hr;subst hr
    obtain ⟨u,hu,hp⟩:=loadS_sound h ht hl (h.env s)
    obtain ⟨us,g1,g2,g3⟩:=res_sound h hm hvs (acc.push u)
    refine ⟨u::us,?_,⟨_,_,rfl,hp,g2⟩,by
     intro i s' hi
     cases i with
     |zero=>simp at hi
     |succ i=>simpa using g3 i s' (by simpa using hi)⟩
    have:(resG a.tmps (.cell s T)).run P w= .ok u w:=by
     show (do loadVar T (←asAddr (a.tmps.getD s undef)):Sem Value).run P w= .ok u w
     have hu:(Instr.loadAt T (a.tmps.getD s undef)).run P w= .ok u w:=hu
     generalize a.tmps.getD s undef=pv at hu ⊢
     cases pv<;>simp [Instr.loadAt,Instr.sureAddr] at hu
     rename_i ad
     cases ad<;>simp at hu
     simpa [asAddr] using hu
    simp only [List.foldlM_cons,Sem.run_bind,Sem.run_map,this,Result.andThen_ok]
    rw [g1];simp
   ·cases hr
 | .ca s n::r,qs,vs,hm,hr,acc=>by
  match qs,hm with
  | .cell t T::q,hm=>
   simp only [mRs,Bool.and_eq_true,beq_iff_eq] at hm
   obtain ⟨⟨⟨rfl,ht⟩,hn⟩,hm⟩:=hm
   simp only [resA] at hr
   split at hr
   ·rename_i v vs' hl hvs
    simp only [Option.some.injEq] at hr;subst hr
    obtain ⟨u,hu,hp⟩:=loadN_sound h ht hn hl (h.env s)
    obtain ⟨us,g1,g2,g3⟩:=res_sound h hm hvs (acc.push u)
    refine ⟨u::us,?_,⟨_,_,rfl,hp,g2⟩,by
     intro i s' hi
     cases i with
     |zero=>simp at hi
     |succ i=>simpa using g3 i s' (by simpa using hi)⟩
    have:(resG a.tmps (.cell s T)).run P w= .ok u w:=by
     show (do loadVar T (←asAddr (a.tmps.getD s undef)):Sem Value).run P w= .ok u w
     have hu:(Instr.loadAt T (a.tmps.getD s undef)).run P w= .ok u w:=hu
     generalize a.tmps.getD s undef=pv at hu ⊢
     cases pv<;>simp [Instr.loadAt,Instr.sureAddr] at hu
     rename_i ad
     cases ad<;>simp at hu
     simpa [asAddr] using hu
    simp only [List.foldlM_cons,Sem.run_bind,Sem.run_map,this,Result.andThen_ok]
    rw [g1];simp
   ·cases hr

theorem lk_initE {as:List AV} {us:List Value} (h:PRlist S gb as us): ∀(i t:Nat),(t<i→lk (initE i as) t= .undef)∧(∀j,t=i+j→PR S gb (lk (initE i as) t) (us.getD j undef)):=by
 induction as generalizing us with
 |nil=>intro i t;simp [initE,lk,PR]
 |cons c r ih=>
  simp only [PRlist] at h
  obtain ⟨u,us',rfl,h1,h2⟩:=h
  intro i t
  simp only [initE,lk]
  constructor
  ·intro hlt
   rw [if_neg (by omega)]
   exact (ih h2 (i+1) t).1 (by omega)
  ·intro j hj
   split
   ·rename_i e
    have:j=0:=by omega
    subst this
    simpa using h1
   ·rename_i e
    have:j≠0:=by omega
    obtain ⟨j',rfl⟩: ∃j',j=j'+1:=⟨j - 1,by omega⟩
    have:=(ih h2 (i+1) t).2 j' (by omega)
    simpa using this

theorem tv_init {vs:List Value} {n t:Nat}:tv {tmps:=vs.toArray++Array.replicate n undef,defers:=[]} t=vs.getD t undef:=by
 simp only [tv,Array.getD_eq_getD_getElem?,Array.getElem?_append,List.getD_eq_getElem?_getD]
 split
 ·simp
 ·rename_i hge
  simp only [List.size_toArray,Nat.not_lt] at hge
  rw [List.getElem?_eq_none hge,Array.getElem?_replicate]
  split<;>simp

theorem res_run {fn:Func} {rs:List AR} (h:Rel F S gb σ a w) (h5:mRs P rs fn.results.toList=true) {vs':List AV} (hv:resA σ rs=some vs'):
  ∃us:List Value,(results fn a.tmps).run P w= .ok (if h:us.toArray.size=1 then us.toArray[0] else .tuple us.toArray) w∧PRlist S gb vs' us∧ ∀(i s:Nat),rs[i]?=some (AR.t s)→us[i]?=some (tv a s):=by
 obtain ⟨us,g1,g2⟩:=res_sound (P:=P) h h5 hv #[]
 refine ⟨us,?_,g2⟩
 rw [results_eq,Sem.run_bind,Array.mapM_eq_foldlM,←Array.foldlM_toList]
 simp only [Array.empty_append] at g1
 rw [g1]
 simp
theorem one_PR {vs':List AV} {us:List Value} (g2:PRlist S gb vs' us):PR S gb (oneA vs') (if h:us.toArray.size=1 then us.toArray[0] else .tuple us.toArray):=by
 match vs',us,g2 with
 |[],us,g2=>
  simp only [PRlist] at g2;subst g2
  simp only [oneA,PR];exact ⟨#[],by simp,by simp [PRlist]⟩
 |[v],us,g2=>
  simp only [PRlist] at g2
  obtain ⟨u,_,rfl,hp,rfl⟩:=g2
  exact hp
 |v1::v2::r',us,g2=>
  have hl2:=g2.length
  simp only [oneA,PR]
  refine ⟨us.toArray,?_,by simpa using g2⟩
  rw [dif_neg]
  simp only [List.length_cons] at hl2
  simp;omega

theorem PR.noids {S:Mem} {gb gb':Gb} (v:AV) (u:Value) (h:v.ids=[]) (hp:PR S gb v u):PR S gb' v u:=PR.restr v u (fun d hd=>by rw [h] at hd;cases hd) hp
theorem PRlist.noids {S:Mem} {gb gb':Gb} (v:List AV) (u:List Value) (h:idsL v=[]) (hp:PRlist S gb v u):PRlist S gb' v u:=PRlist.restr v u (fun d hd=>by rw [h] at hd;cases hd) hp

def gbUp (gb:Gb):Gb:=fun i=>match i with
 | .up j=>gb j
 |_=>none

theorem fun_sound {GL:List (Nat×List Value)} {dr:Array Oper→List (List Nat)→List AOp→Bool} {f:Nat} {fn:Func} {af:AF} (hf:P.funcs[f]?=some fn) (hm:mF P GL dr fn af=true) (hd:DrawsOk P GL af.N dr) {l:List AV} {r:AV} (hl:l.length=af.np) (hi:idsL l=[])
  (hw:wpA (Spec P GL) af.c (postA af.rs r) ⟨initE 0 l,[],[]⟩):pureS (Spec P GL) f l r:=by
 intro d
 simp only [mF,Bool.and_eq_true,bne_iff_ne,beq_iff_eq] at hm
 obtain ⟨⟨⟨⟨⟨h1,h2⟩,h3⟩,h4⟩,h5⟩,h6⟩:=hm
 split at h6<;>(try cases h6)
 rename_i c hb
 have h4:=Nat.le_of_ble_eq_true h4
 intro S gb w vs hvs hhr hglo hnw
 have hlen:vs.length=l.length:=hvs.length.symm
 unfold Does
 have hcall:(callFunc f vs.toArray).run P w= .ok (.enter f vs.toArray) w:=by
  simp [callFunc,hf,hb,h1]
 rw [hcall]
 refine calls_of_wp hf hb ?_
 let F:Fr:=⟨S,w,MS ⟨l,[],[]⟩ gb (fun t=>vs.getD t undef) w,gb,af.N,GL,[]⟩
 have hrel:Rel F S (gbUp gb) ⟨initE 0 l,[],[]⟩ {tmps:=vs.toArray++Array.replicate (fn.ntmps - vs.toArray.size) undef,defers:=[]} w:=by
  refine ⟨rfl,?_,Bw.refl _ _,fun _ _ _ _=>rfl,Mem.le.refl _,?_,⟨hhr.agree,?_,?_,?_,?_,?_,?_,?_⟩,?_,?_,?_,fun d=>rfl,hglo⟩
  ·show (vs.toArray++Array.replicate (fn.ntmps - vs.toArray.size) undef).size=af.N
   simp;omega
  ·intro t
   have:=(lk_initE (PRlist.noids (gb':=gbUp gb) _ _ hi hvs) 0 t).2 t (by omega)
   rw [tv_init]
   exact this
  ·intro d cs hcs;simp [lkB] at hcs
  ·intro d cs hcs;simp [lkB] at hcs
  ·intro d d' g z z' hg;simp [lkB] at hg
  ·intro p k hk;simp [lkP] at hk
  ·intro p q k l b hk;simp [lkP] at hk
  ·intro p k b d z hk;simp [lkP] at hk
  ·intro d off k hk;simp [lkP] at hk
  ·intro d g z hg;simp [lkB] at hg
  ·intro p k g hk;simp [lkP] at hk
  ·intro d hd
   cases d<;>simp [gbUp,Id.isUp] at hd ⊢
 refine code_sound (F:=F) hd h6 (Q:=postA af.rs r) ?_ hrel hw
 intro e S' gb' σ' a' w' hr hq
 have fin: ∀vs',resA σ' af.rs=some vs'→shut (oneA vs')=some r→a'.defers=[]∧ ∃v,(results fn a'.tmps).run P w'= .ok v w'∧(∃u,Ending.returned v= .returned u∧ ∃S'' gb'',PostR d ⟨l,[],[]⟩ ⟨r,[],[]⟩ S gb (fun t=>vs.getD t undef) w S'' gb'' u w'):=by
  intro vs' hv hs
  refine ⟨hr.defers,?_⟩
  obtain ⟨us,hrun,g2,_⟩:=res_run (P:=P) hr h5 hv
  refine ⟨_,hrun,_,rfl,S',gb,hr.bw,hr.ext,hr.le,fun _ _=>rfl,fun i hi hne=>absurd (hnw i hi) hne,gb0to (shut_PR _ _ _ hs (one_PR g2)),⟨hr.hr.agree,?_,?_,?_,?_,?_,?_,?_⟩,?_,?_⟩
  ·intro d cs hcs;simp [lkB] at hcs
  ·intro d cs hcs;simp [lkB] at hcs
  ·intro d d' g z z' hg;simp [lkB] at hg
  ·intro p k hk;simp [lkP] at hk
  ·intro p q k l b hk;simp [lkP] at hk
  ·intro p k b d z hk;simp [lkP] at hk
  ·intro d off k hk;simp [lkP] at hk
  ·intro d g z hg;simp [lkB] at hg
  ·intro p k g hk;simp [lkP] at hk
 cases e
 ·simp only [postA] at hq
  split at hq
  ·rename_i vs' hv;exact fin vs' hv hq
  ·cases hq
 ·exact hq.elim
 ·simp only [postA] at hq
  split at hq
  ·rename_i vs' hv;exact fin vs' hv hq
  ·cases hq
end Go.Ai
namespace Go.Ai
open Go.RowKit

structure LS where
  E:Nat→AV
  B:Id→Option (List AV)
  M:Pl→Option Nat
def view (σ:St):LS:=⟨lk σ.e,lkB σ.bx,lkP σ.pm⟩

theorem LS.ext' {u v:LS} (h1: ∀t,u.E t=v.E t) (h2: ∀t,u.B t=v.B t) (h3: ∀t,u.M t=v.M t):u=v:=by
  cases u;cases v;simp only [LS.mk.injEq];exact ⟨funext h1,funext h2,funext h3⟩

inductive Dl where
  |put (d:Nat) (v:AV)
  |puto (d:Nat) (v:AV) (k:Nat)
  |mo (d s:Nat) (v:AV) (k:Nat)
  |box (d:Nat) (cs:List AV)
  |st (d:Id) (off n:Nat) (cs:List AV)
  |lo (d:Nat) (b:Id) (off:Nat) (v:AV) (k:Nat)
  |so (d:Id) (off s:Nat) (cs:List AV) (k:Nat)
  |rdc (d:Nat) (b:Id) (v:AV)
  |call (d:Nat) (xs:List X) (I:In) (O:Out)

def Dl.ap:Dl→St→St
  | .put d v,σ=>σ.put d v
  | .puto d v k,σ=>σ.puto d v k
  | .mo d s v k,σ=>⟨(d,v)::σ.e,σ.bx,(.s d,k)::dlS (dl σ.pm (.s s)) d⟩
  | .box d cs,σ=>⟨(d,.ptr (.n d) 0)::σ.e,(.n d,cs)::σ.bx,dlS σ.pm d⟩
  | .st d off n cs,σ=>⟨σ.e,stB σ.bx d cs,dlr σ.pm d off n⟩
  | .lo d b off v k,σ=>⟨(d,v)::σ.e,σ.bx,(.s d,k)::dlS (dl σ.pm (.b b off)) d⟩
  | .so d off s cs k,σ=>⟨σ.e,stB σ.bx d cs,(.b d off,k)::dl (dl σ.pm (.s s)) (.b d off)⟩
  | .rdc d b v,σ=>⟨(d,v)::σ.e,σ.bx,dlS (dlB σ.pm b) d⟩
  | .call d xs I O,σ=>callSt d σ xs I O

def Dl.e?:Dl→Option (Nat×AV)
  | .put d v=>some (d,v)
  | .puto d v _=>some (d,v)
  | .mo d _ v _=>some (d,v)
  | .box d _=>some (d,.ptr (.n d) 0)
  | .lo d _ _ v _=>some (d,v)
  | .rdc d _ v=>some (d,v)
  | .call d _ _ O=>some (d,O.r)
  |_=>none
def Dl.b?:Dl→Id→Option (List AV)
  | .box d cs,i=>if .n d=i then some cs else none
  | .st d _ _ cs,i=>if d=i then some cs else none
  | .so d _ _ cs _,i=>if d=i then some cs else none
  | .call _ _ _ O,i=>lkB O.bx i
  |_,_=>none
def inRange (d:Id) (off n:Nat):Pl→Bool
  | .b e o=>e==d&&Nat.ble off o&&Nat.blt o (off+n)
  |_=>false
def inBox (b:Id):Pl→Bool
  | .b e _=>e==b
  |_=>false
theorem lkP_dlB_eq (l:List (Pl×Nat)) (b:Id) (q:Pl):lkP (dlB l b) q=if inBox b q=true then none else lkP l q:=by
  rw [lkP_dlB]
  cases q<;>simp [inBox]
def Dl.m?:Dl→Pl→Option (Option Nat)
  | .put d _,p=>if p.at d=true then some none else none
  | .puto d _ k,p=>if p= .s d then some (some k) else if p.at d=true then some none else none
  | .mo d s _ k,p=>if p= .s d then some (some k) else if p.at d=true then some none else if p= .s s then some none else none
  | .box d _,p=>if p.at d=true then some none else none
  | .st d off n _,p=>if inRange d off n p=true then some none else none
  | .lo d b off _ k,p=>if p= .s d then some (some k) else if p.at d=true then some none else if p= .b b off then some none else none
  | .so d off s _ k,p=>if p= .b d off then some (some k) else if p= .s s then some none else none
  | .rdc d b _,p=>if p.at d=true then some none else if inBox b p=true then some none else none
  | .call d _ I O,p=>if p.at d=true then some none else match lkP O.pm p with
    |some k=>some (some k)
    |none=>match p with
      | .b e _=>if (lkB I.bx e).isSome then some none else none
      |_=>none
def Dl.app (δ:Dl) (v:LS):LS:=
  ⟨fun t=>match δ.e? with |some (d,x)=>if d=t then x else v.E t|none=>v.E t,
   fun b=>match δ.b? b with |some cs=>some cs|none=>v.B b,
   fun p=>match δ.m? p with |some x=>x|none=>v.M p⟩

theorem lkP_dlr_eq (l:List (Pl×Nat)) (d:Id) (off n:Nat) (q:Pl):lkP (dlr l d off n) q=if inRange d off n q=true then none else lkP l q:=by
  induction l with
  |nil=>simp [dlr,lkP]
  |cons x r ih=>
    obtain ⟨y,k'⟩:=x
    cases y with
    |s t=>
      simp only [dlr,lkP]
      split
      · rename_i h2;subst h2;simp [inRange]
      · exact ih
    |t t i=>
      simp only [dlr,lkP]
      split
      · rename_i h2;subst h2;simp [inRange]
      · exact ih
    |b e o=>
      simp only [dlr]
      split
      · rename_i h2
        rw [ih]
        simp only [lkP]
        split
        · rfl
        · rename_i h3
          rw [if_neg]
          intro e';subst e'
          obtain ⟨rfl,h4,h5⟩:=h2
          exact h3 (by simp [inRange,Nat.ble_eq,Nat.blt_eq,h4,h5])
      · rename_i h2
        simp only [lkP,ih]
        split
        · rename_i h3;subst h3
          rw [if_neg]
          intro h4
          simp only [inRange,Bool.and_eq_true,beq_iff_eq,Nat.ble_eq,Nat.blt_eq] at h4
          exact h2 ⟨h4.1.1,h4.1.2,h4.2⟩
        · rfl

def caD (d:Nat) (s:Option X) (v:AV) (k:Nat):Dl:=match s with
  |some (.s t)=> .mo d t v k
  |_=> .puto d v k
theorem caD_ap (d:Nat) (s:Option X) (v:AV) (k:Nat) (σ:St):(caD d s v k).ap σ=caSt d s v k σ:=by
  cases s with
  |none=>rfl
  |some x=>cases x<;>rfl
def Dl.fits (δ:Dl) (σ:St):Prop:=
  match δ with
  | .st d _ _ _=>(lkB σ.bx d).isSome
  | .so d _ _ _ _=>(lkB σ.bx d).isSome
  | .call _ _ I O=>(∀p∈I.bx,(lkB O.bx p.1).isSome)∧(∀p∈I.pm,p.1.isB=true)∧(∀p∈O.pm,p.1.isB=true)
  |_=>True
theorem lkB_key: ∀ {l:List (Id×List AV)} {i:Id},(lkB l i).isSome→ ∃cs,(i,cs)∈l:=by
  intro l i h
  obtain ⟨cs,hcs⟩:=Option.isSome_iff_exists.1 h
  exact ⟨cs,lkB_mem _ _ _ hcs⟩
theorem lkP_dlBs_eq: ∀(r:List (Id×List AV)) (l:List (Pl×Nat)) (p:Pl),lkP (dlBs l r) p=match p with | .b e _=>if (lkB r e).isSome then none else lkP l p|_=>lkP l p
  |[],l,p=>by cases p<;>simp [dlBs,lkB]
  |(d,c)::r,l,p=>by
    simp only [dlBs]
    rw [lkP_dlBs_eq r]
    cases p with
    |s t=>simp only [lkP_dlB]
    |t t i=>simp only [lkP_dlB]
    |b e o=>
      simp only [lkP_dlB,lkB]
      by_cases h:d=e
      · subst h;simp
      · have h': ¬e=d:=fun q=>h q.symm
        simp [h,h']
theorem dlXs_isB (xs:List X): ∀(r l:List (Pl×Nat)),(∀p∈r,p.1.isB=true)→dlXs xs l r=l
  |[],l,_=>rfl
  |(.b e o,k)::r,l,h=>by
    simp only [dlXs]
    exact dlXs_isB xs r l fun p hp=>h p (List.mem_cons_of_mem _ hp)
  |(.s t,k)::r,l,h=>by have:=h _ (List.mem_cons_self ..);cases this
  |(.t t i,k)::r,l,h=>by have:=h _ (List.mem_cons_self ..);cases this
theorem retP_isB (d:Nat): ∀(l:List (Pl×Nat)),(∀p∈l,p.1.isB=true)→retP d l=l
  |[],_=>rfl
  |(.b e o,k)::r,h=>by
    simp only [retP]
    rw [retP_isB d r fun p hp=>h p (List.mem_cons_of_mem _ hp)]
  |(.s t,k)::r,h=>by have:=h _ (List.mem_cons_self ..);cases this
  |(.t t i,k)::r,h=>by have:=h _ (List.mem_cons_self ..);cases this
theorem lkP_isB: ∀ {l:List (Pl×Nat)} {p:Pl} {k:Nat},(∀p∈l,p.1.isB=true)→lkP l p=some k→p.isB=true
  |[],p,k,_,h=>by simp [lkP] at h
  |(q,k0)::r,p,k,hb,h=>by
    simp only [lkP] at h
    split at h
    · rename_i e;subst e;exact hb _ (List.mem_cons_self ..)
    · exact lkP_isB (fun p hp=>hb p (List.mem_cons_of_mem _ hp)) h
theorem lkB_isSome: ∀ {l:List (Id×List AV)} {p:Id×List AV},p∈l→(lkB l p.1).isSome
  |(k,v)::r,p,h=>by
    simp only [lkB]
    split
    · rfl
    · rename_i e
      rcases List.mem_cons.1 h with h|h
      · exact absurd (by rw [h]) e
      · exact lkB_isSome h
theorem isB_at {p:Pl} {d:Nat} (h:p.isB=true):p.at d=false:=by cases p<;>simp_all [Pl.isB,Pl.at]
theorem view_ap {δ:Dl} {σ:St} (h:δ.fits σ):view (δ.ap σ)=δ.app (view σ):=by
  apply LS.ext'
  · intro t
    cases δ<;>simp [view,Dl.ap,Dl.app,Dl.e?,St.put,St.puto,callSt,lk]
  · intro t
    cases δ<;>simp only [view,Dl.ap,Dl.app,Dl.b?,St.put,St.puto,lkB]
    case box d cs=>by_cases e:Id.n d=t<;>simp [e]
    case call d xs I O=>
      simp only [Dl.fits] at h
      simp only [callSt,lkB_app,lkB_rmBs]
      cases h1:lkB O.bx t with
      |some c=>rfl
      |none=>
        simp only []
        rw [if_neg]
        intro h2
        obtain ⟨cs,hm⟩:=lkB_key h2
        have:=h.1 _ hm
        rw [h1] at this;cases this
    case st d off n cs=>
      simp only [Dl.fits] at h
      rw [lkB_stB t h]
      by_cases e:d=t
      · subst e;simp
      · have e': ¬t=d:=fun q=>e q.symm
        simp [e,e']
    case so d off s' cs k=>
      simp only [Dl.fits] at h
      rw [lkB_stB t h]
      by_cases e:d=t
      · subst e;simp
      · have e': ¬t=d:=fun q=>e q.symm
        simp [e,e']
  · intro p
    have e1: ∀q:Pl,(q=p)=(p=q):=fun q=>propext ⟨fun e=>e.symm,fun e=>e.symm⟩
    cases δ<;>simp only [view,Dl.ap,Dl.app,Dl.m?,St.put,St.puto,lkP,lkP_dl,lkP_dlS,lkP_dlr_eq,lkP_dlB_eq,e1]
    case put d v=>by_cases h1:p.at d=true<;>simp [h1]
    case puto d v k=>by_cases h0:p= .s d<;>by_cases h1:p.at d=true<;>simp [h0,h1]
    case mo d s' v k=>
      by_cases h0:p= .s d
      · simp [h0]
      · by_cases h1:p.at d=true
        · simp [h0,h1]
        · by_cases h2:p= .s s'
          · simp only [if_neg h0,if_neg h1,if_pos h2]
          · simp only [if_neg h0,if_neg h1,if_neg h2]
    case box d cs=>by_cases h1:p.at d=true<;>simp [h1]
    case st d off n cs=>by_cases h1:inRange d off n p=true<;>simp [h1]
    case lo d b off v k=>by_cases h0:p= .s d<;>by_cases h1:p.at d=true<;>by_cases h2:p= .b b off<;>simp [h0,h1,h2]
    case rdc d b v=>by_cases h1:p.at d=true<;>by_cases h2:inBox b p=true<;>simp [h1,h2]
    case call d xs I O=>
      simp only [Dl.fits] at h
      obtain ⟨h1,h2,h3⟩:=h
      simp only [callSt,lkP_app,dlXs_isB _ _ _ h2,retP_isB _ _ h3,lkP_dlS,lkP_dlBs_eq]
      cases h4:lkP O.pm p with
      |some k=>
        have:=isB_at (d:=d) (lkP_isB h3 h4)
        simp [this]
      |none=>
        by_cases h5:p.at d=true
        · simp [h5]
        · simp only [if_neg h5]
          cases p with
          |s t=>rfl
          |t t i=>rfl
          |b e o=>by_cases h6:(lkB I.bx e).isSome<;>simp [h6]
    case so d off s' cs k=>by_cases h0:p= .b d off<;>by_cases h2:p= .s s'<;>simp [h0,h2]

section
variable (S:Nat→Nat→In→Out→Prop)
def wpD:AOp→(Dl→Prop)→St→Prop
  | .mo d s,K,σ=>match lkP σ.pm (.s s) with
    |some k=>K (.mo d s (lk σ.e s) k)
    |none=>K (.put d (lk σ.e s))
  | .al d z,K,σ=>match lkB σ.bx (.n d) with
    |none=>K (.box d z)
    |some _=>False
  | .alT d T off z,K,σ=>match lkB σ.bx (.n d) with
    |none=>K (.box d (z.set off (.nilT (.n d) T z.length)))
    |some _=>False
  | .bx d x,K,σ=>match lkB σ.bx (.n d) with
    |none=>match (σ.v x).cs with
      |some cs=>K (.box d cs)
      |none=>False
    |some _=>False
  | .bs d sz ps,K,σ=>match rowsOf σ sz ps with
    |some rows=>K (.puto d (.sl rows) sz)
    |none=>False
  | .st n x v,K,σ=>match σ.v x with
    | .ptr d off=>match lkB σ.bx d with
      |some cs=>match (σ.v v).cs with
        |some vs=>vs.length=n∧off+n≤cs.length∧K (.st d off n (fillA cs off vs))
        |none=>False
      |none=>False
    |_=>False
  | .lo d x,K,σ=>match σ.v x with
    | .ptr b off=>match lkB σ.bx b with
      |some cs=>match cs[off]? with
        |some v=>match lkP σ.pm (.b b off) with
          |some k=>K (.lo d b off v k)
          |none=>K (.put d v)
        |none=>False
      |none=>False
    | .pin cs=>match cs[0]? with
      |some v=>K (.put d v)
      |none=>False
    |_=>False
  | .so x s,K,σ=>match σ.v x with
    | .ptr d off=>match lkB σ.bx d with
      |some cs=>match lkP σ.pm (.s s) with
        |some k=>off<cs.length∧K (.so d off s (cs.set off (lk σ.e s)) k)
        |none=>match (lk σ.e s).cs with
          |some vs=>vs.length=1∧off+1≤cs.length∧K (.st d off 1 (fillA cs off vs))
          |none=>False
      |none=>False
    |_=>False
  | .ap d sz bytes s y,K,σ=>match shut (σ.v y) with
    |some (.sl news)=>(match σ.v s,s with
      | .sl rows,.s t=>lkP σ.pm (.s t)=some sz∧(rows.length+news.length)*bytes≤lim∧(∀r∈rows,r.length=sz)∧(∀r∈news,r.length=sz)∧K (.mo d t (.sl (rows++news)) sz)
      | .nils,_=>news.length*bytes≤lim∧(∀r∈news,r.length=sz)∧K (.puto d (.sl news) sz)
      |_,_=>False)
    |_=>False
  | .mk d sz bytes z l c,K,σ=>match σ.v l,σ.v c with
    | .int _ l,.int _ c=>0≤l∧l≤c∧c*bytes≤lim∧K (.puto d (.sl (List.replicate l.toNat z)) sz)
    |_,_=>False
  | .sls d x lo hi,K,σ=>match σ.v x with
    | .str s=>match bnd σ 0 lo,bnd σ s.length hi with
      |some l,some h=>0≤l∧l≤h∧h≤s.length∧K (.put d (.str ((s.take h.toNat).drop l.toNat)))
      |_,_=>False
    |_=>False
  | .slc d sz x lo hi,K,σ=>match σ.v x with
    | .sl rows=>match bnd σ 0 lo,bnd σ rows.length hi with
      |some l,some h=>0≤l∧l≤h∧h≤rows.length∧(∀r∈rows,r.length=sz)∧K (.put d (.sl ((rows.take h.toNat).drop l.toNat)))
      |_,_=>False
    |_=>False
  | .cl d f xs,K,σ=>match shutL (xs.map σ.v) with
    |some l=> ∃r,pureS S f l r∧K (.put d r)
    |none=>False
  | .cr d f xs,K,σ=>match xs.map σ.v with
    | .ptr b o::r=>match lkB σ.bx b with
      |some cs=> ∃v,(∀e,b.isNw e=false→S f e ⟨.ptr b o::r,[(b,cs)],[]⟩ ⟨v,[(b,cs)],[]⟩)∧K (.rdc d b v)
      |none=>False
    |_=>False
  | .cq d f xs fr,K,σ=> ∃I O,S f d I O∧CallOk d σ xs I O∧(CqOk fr I O∧fr.contains d=false)∧K (.call d xs I O)
  | .gd s b d o,K,σ=>match gdv (lk σ.e s) b with
    |some true=>wpD o K σ
    |some false=>K (.put d (.tup []))
    |none=>False
  | .ca d f s ps,K,σ=> ∃k out,caS S f σ s ps k out∧K (caD d s (.sl out) k)
  | .ce _ _ _,_,_=>False
  | .cd _ _ _,_,_=>False
  | .apm _ _ _ _ _,_,_=>False
  | .mkm _ _ _ _ _ _,_,_=>False
  | .bsm _ _ _,_,_=>False
  | .bsn _ _ _,_,_=>False
  | .rs _ _,_,_=>False
  | .nx _ _,_,_=>False
  | .s2b _ _,_,_=>False
  | .aps _ _ _,_,_=>False
  | .ex _ _ _,_,_=>False
  | .sla _ _ _ _ _,_,_=>False
  | .b2s _ _,_,_=>False
  | .i2s _ _,_,_=>False
  | .inl _ _ _,_,_=>False
  | .mkp _,_,_=>False
  | .mpl _ _,_,_=>False
  | .mpe _ _ _ _ _,_,_=>False
  | .mes _ _ _,_,_=>False
  | .mup _ _ _ _,_,_=>False
  | .clr _ _ _,_,_=>False
  | .trm _ _ _ _,_,_=>False
  |o,K,σ=>match ev σ o with
    |some (d,v)=>K (.put d v)
    |none=>False
end
variable {Sp:Nat→Nat→In→Out→Prop}
def okD:AOp→Bool
  | .ce _ _ _| .cd _ _ _| .apm _ _ _ _ _| .mkm _ _ _ _ _ _| .bsn _ _ _| .bsm _ _ _| .rs _ _| .nx _ _| .s2b _ _| .aps _ _ _| .ex _ _ _| .sla _ _ _ _ _| .b2s _ _| .i2s _ _| .inl _ _ _| .mkp _| .mpl _ _| .mpe _ _ _ _ _| .mes _ _ _| .mup _ _ _ _| .clr _ _ _| .trm _ _ _ _| .bxT _ _ _ _=>false
  | .gd _ _ _ o=>okD o
  |_=>true

theorem wpD_wp1: ∀ {o:AOp} {K:St→Prop} {σ:St},wpD Sp o (fun δ=>K (δ.ap σ)) σ→wp1 Sp o K σ:=by
  intro o
  induction o with
  |gd s b d o ih=>
    intro K σ h
    simp only [wpD] at h
    simp only [wp1]
    split at h
    · rename_i e;rw [e];exact ih h
    · rename_i e;rw [e];exact h
    · cases h
  |ce|cd|apm|mkm|bsn|bsm|rs|nx|s2b|aps|ex|sla|b2s|i2s|inl|mkp|mpl|mpe|mes|mup|bxT|clr|trm=>intro K σ h;exact (h:False).elim
  |ca d f s ps=>intro K σ h;simp only [wpD,caD_ap] at h;exact h
  |_=>intro K σ h;exact h
theorem wp1_wpD: ∀ {o:AOp} {K:St→Prop} {σ:St},okD o=true→wp1 Sp o K σ→wpD Sp o (fun δ=>K (δ.ap σ)) σ:=by
  intro o
  induction o with
  |gd s b d o ih=>
    intro K σ hok h
    simp only [wp1] at h
    simp only [wpD]
    split at h
    · rename_i e;rw [e];exact ih hok h
    · rename_i e;rw [e];exact h
    · cases h
  |ce|cd|apm|mkm|bsn|bsm|rs|nx|s2b|aps|ex|sla|b2s|i2s|inl|mkp|mpl|mpe|mes|mup|bxT|clr|trm=>intro K σ hok h;cases hok
  |ca d f s ps=>intro K σ hok h;simp only [wpD,caD_ap];exact h
  |_=>intro K σ hok h;exact h

theorem wpD_one: ∀ {o:AOp} {K:Dl→Prop} {σ:St},wpD Sp o K σ→ ∃δ,wpD Sp o (· =δ) σ∧K δ:=by
  intro o
  induction o with
  |ce|cd|apm|mkm|bsn|bsm|rs|nx|s2b|aps|ex|sla|b2s|i2s|inl|mkp|mpl|mpe|mes|mup|bxT|clr|trm=>intro K σ h;exact (h:False).elim
  |gd s b d o ih=>
    intro K σ h
    simp only [wpD] at h ⊢
    split at h
    · obtain ⟨δ,h1,h2⟩:=ih h;exact ⟨δ,h1,h2⟩
    · exact ⟨_,rfl,h⟩
    · cases h
  |ca d f s ps=>intro K σ h;obtain ⟨k,out,h1,h2⟩:=h;exact ⟨_,⟨k,out,h1,rfl⟩,h2⟩
  |cq d f ps fr=>intro K σ h;obtain ⟨I,O,h1,h2,h3,h4⟩:=h;exact ⟨_,⟨I,O,h1,h2,h3,rfl⟩,h4⟩
  |_=>
    intro K σ h
    simp only [wpD] at h ⊢
    repeat' (first|(split at h)|contradiction)
    all_goals first
      |exact ⟨_,rfl,h⟩
      |(obtain ⟨h1,h2⟩:=h;exact ⟨_,⟨h1,rfl⟩,h2⟩)
      |(obtain ⟨h1,h2,h3⟩:=h;exact ⟨_,⟨h1,h2,rfl⟩,h3⟩)
      |(obtain ⟨h1,h2,h3,h4⟩:=h;exact ⟨_,⟨h1,h2,h3,rfl⟩,h4⟩)
      |(obtain ⟨h1,h2,h3,h4,h5⟩:=h;exact ⟨_,⟨h1,h2,h3,h4,rfl⟩,h5⟩)
      |(obtain ⟨r,h1,h2⟩:=h;exact ⟨_,⟨r,h1,rfl⟩,h2⟩)

theorem wpD_of_eq {K':Dl→Prop} {δ:Dl} (hk:K' δ): ∀ {o:AOp} {σ:St},wpD Sp o (· =δ) σ→wpD Sp o K' σ:=by
  intro o
  induction o with
  |ce|cd|apm|mkm|bsn|bsm|rs|nx|s2b|aps|ex|sla|b2s|i2s|inl|mkp|mpl|mpe|mes|mup|bxT|clr|trm=>intro σ h;exact (h:False).elim
  |gd s b d o ih=>
    intro σ h
    simp only [wpD] at h ⊢
    split at h
    · exact ih h
    · rw [h];exact hk
    · cases h
  |ca d f s ps=>intro σ h;obtain ⟨k,out,h1,h2⟩:=h;exact ⟨k,out,h1,by rw [h2];exact hk⟩
  |cq d f ps fr=>intro σ h;obtain ⟨I,O,h1,h2,h3,h4⟩:=h;exact ⟨I,O,h1,h2,h3,by rw [h4];exact hk⟩
  |_=>
    intro σ h
    simp only [wpD] at h ⊢
    repeat' (first|(split at h)|contradiction)
    all_goals first
      |(rw [h];exact hk)
      |(obtain ⟨g1,g2⟩:=h;exact ⟨g1,by rw [g2];exact hk⟩)
      |(obtain ⟨g1,g2,g3⟩:=h;exact ⟨g1,g2,by rw [g3];exact hk⟩)
      |(obtain ⟨g1,g2,g3,g4⟩:=h;exact ⟨g1,g2,g3,by rw [g4];exact hk⟩)
      |(obtain ⟨g1,g2,g3,g4,g5⟩:=h;exact ⟨g1,g2,g3,g4,by rw [g5];exact hk⟩)

def rdP (σ:St):AOp→List Pl
  | .mo _ s=>[.s s]
  | .ap _ _ _ (.s t) _=>[.s t]
  | .ca _ _ (some (.s t)) _=>[.s t]
  | .lo _ x=>match σ.v x with | .ptr b off=>[.b b off]|_=>[]
  | .so _ s=>[.s s]
  | .gd s b _ o=>match lk σ.e s with
    | .bool t=>if t=b then rdP σ o else []
    |_=>[]
  |_=>[]

def boxA:AOp→Nat
  | .lds _ _| .ldf _ _| .lda _ _ _| .mlk _ _ _ _ _ _=>1
  | .st _ _ _| .lo _ _| .so _ _| .al _ _| .alT _ _ _ _| .bx _ _| .cr _ _ _| .cq _ _ _ _=>2
  | .gd _ _ _ o=>boxA o
  |_=>0

structure Agr (o:AOp) (σ τ:St):Prop where
  e: ∀t∈usesA o,lk σ.e t=lk τ.e t
  t: ∀b,tchO (bid σ o) b→lkB σ.bx b=lkB τ.bx b
  p: ∀p∈rdP σ o,lkP σ.pm p=lkP τ.pm p
  q: ∀b off,tchO (bid σ o) b→boxA o=2→lkP σ.pm (.b b off)=lkP τ.pm (.b b off)
  c: ∀x,bid σ o=some x→x.kept τ
theorem Agr.b {o:AOp} {σ τ:St} (h:Agr o σ τ): ∀b,bid σ o=some (.one b)→lkB σ.bx b=lkB τ.bx b:=fun b hb=>h.t b (by rw [hb];rfl)

theorem v_agr {σ τ:St} {x:X} (h: ∀t∈xs x,lk σ.e t=lk τ.e t):σ.v x=τ.v x:=by
  cases x with
  |s t=>exact h t (by simp [xs])
  |c v=>rfl
theorem bnd_agr {σ τ:St} {n:Nat} {x:Option X} (h: ∀t∈ox x,lk σ.e t=lk τ.e t):bnd σ n x=bnd τ n x:=by
  cases x with
  |none=>rfl
  |some x=>simp only [bnd];rw [v_agr h]
theorem build_agr {σ τ:St}: ∀ {ps:List (Nat×Nat×X)} {z:List AV},(∀t∈ps.flatMap (fun p=>xs p.2.2),lk σ.e t=lk τ.e t)→buildA σ ps z=buildA τ ps z
  |[],_,_=>rfl
  |(off,n,x)::r,z,h=>by
    simp only [List.flatMap_cons,List.mem_append] at h
    simp only [buildA]
    rw [v_agr (σ:=σ) (τ:=τ) (x:=x) (fun t ht=>h t (.inl ht))]
    split
    · split
      · exact build_agr (fun t ht=>h t (.inr ht))
      · rfl
    · rfl
theorem rows_agr {σ τ:St} {sz:Nat}: ∀ {ps:List X},(∀t∈ps.flatMap xs,lk σ.e t=lk τ.e t)→rowsOf σ sz ps=rowsOf τ sz ps
  |[],_=>rfl
  |x::r,h=>by
    simp only [List.flatMap_cons,List.mem_append] at h
    simp only [rowsOf]
    rw [v_agr (σ:=σ) (τ:=τ) (x:=x) (fun t ht=>h t (.inl ht)),rows_agr (fun t ht=>h t (.inr ht))]
theorem map_agr {σ τ:St}: ∀ {ps:List X},(∀t∈ps.flatMap xs,lk σ.e t=lk τ.e t)→ps.map σ.v=ps.map τ.v
  |[],_=>rfl
  |x::r,h=>by
    simp only [List.flatMap_cons,List.mem_append] at h
    simp only [List.map_cons]
    rw [v_agr (σ:=σ) (τ:=τ) (x:=x) (fun t ht=>h t (.inl ht)),map_agr (fun t ht=>h t (.inr ht))]

theorem wpD_agr {K:Dl→Prop}: ∀ {o:AOp} {σ τ:St},Agr o σ τ→wpD Sp o K σ→wpD Sp o K τ:=by
  intro o
  induction o with
  |ce|cd|apm|mkm|bsn|bsm|rs|nx|s2b|aps|ex|sla|b2s|i2s|inl|mkp|mpl|mpe|mes|mup|bxT|clr|trm=>intro σ τ ha h;exact (h:False).elim
  |mf d f ps=>
    intro σ τ ha h
    simp only [wpD,ev] at h ⊢
    rw [←map_agr ha.e];exact h
  |gd s b d o ih=>
    intro σ τ ha h
    have h1:=ha.e
    simp only [usesA,List.mem_cons,forall_eq_or_imp] at h1
    simp only [wpD] at h ⊢
    rw [←h1.1]
    split at h
    · rename_i e
      have ht:=gdv_true e
      have hbi:bid σ (.gd s b d o)=bid σ o:=by simp only [bid,ht,if_true]
      exact ih ⟨h1.2,fun b' hb=>ha.t b' (by rw [hbi];exact hb),fun p hp=>ha.p p (by simp only [rdP,ht,if_true];exact hp),fun b' off hb h2=>ha.q b' off (by rw [hbi];exact hb) h2,fun x hx=>ha.c x (by rw [hbi];exact hx)⟩ h
    · exact h
    · cases h
  |mo d s=>
    intro σ τ ha h
    have h1:=ha.e s (by simp [usesA])
    have h2:=ha.p (.s s) (by simp [rdP])
    simp only [wpD] at h ⊢
    rw [←h2,←h1];exact h
  |al d z=>
    intro σ τ ha h
    have h2:=ha.b (.n d) rfl
    simp only [wpD] at h ⊢
    rw [←h2];exact h
  |alT d T off z=>
    intro σ τ ha h
    have h2:=ha.b (.n d) rfl
    simp only [wpD] at h ⊢
    rw [←h2];exact h
  |bx d x=>
    intro σ τ ha h
    have h2:=ha.b (.n d) rfl
    have h1:=v_agr (σ:=σ) (τ:=τ) (x:=x) ha.e
    simp only [wpD] at h ⊢
    rw [←h2,←h1];exact h
  |bs d sz ps=>
    intro σ τ ha h
    simp only [wpD] at h ⊢
    rw [←rows_agr ha.e];exact h
  |st n x v=>
    intro σ τ ha h
    have h0:=ha.e
    simp only [usesA,List.mem_append] at h0
    have h1:=v_agr (σ:=σ) (τ:=τ) (x:=x) (fun t ht=>h0 t (.inl ht))
    have h2:=v_agr (σ:=σ) (τ:=τ) (x:=v) (fun t ht=>h0 t (.inr ht))
    simp only [wpD] at h ⊢
    rw [←h1,←h2]
    split at h
    · rename_i d off hx
      have h3:=ha.b d (by simp only [bid,hx])
      rw [←h3];exact h
    · cases h
  |lo d x=>
    intro σ τ ha h
    have h1:=v_agr (σ:=σ) (τ:=τ) (x:=x) ha.e
    simp only [wpD] at h ⊢
    rw [←h1]
    split at h
    · rename_i b off hx
      have h3:=ha.b b (by simp only [bid,hx])
      have h4:=ha.p (.b b off) (by simp [rdP,hx])
      rw [←h3,←h4];exact h
    · exact h
    · cases h
  |so x s=>
    intro σ τ ha h
    have h0:=ha.e
    simp only [usesA,List.mem_append] at h0
    have h1:=v_agr (σ:=σ) (τ:=τ) (x:=x) (fun t ht=>h0 t (.inl ht))
    have h2:=h0 s (by simp)
    simp only [wpD] at h ⊢
    rw [←h1,←h2]
    split at h
    · rename_i b off hx
      have h3:=ha.b b (by simp only [bid,hx])
      have h4:=ha.p (.s s) (by simp [rdP])
      rw [←h3,←h4];exact h
    · cases h
  |ap d sz by_ s y=>
    intro σ τ ha h
    have h0:=ha.e
    simp only [usesA,List.mem_append] at h0
    have h1:=v_agr (σ:=σ) (τ:=τ) (x:=s) (fun t ht=>h0 t (.inl ht))
    have h2:=v_agr (σ:=σ) (τ:=τ) (x:=y) (fun t ht=>h0 t (.inr ht))
    simp only [wpD] at h ⊢
    rw [←h1,←h2]
    cases s with
    |s t=>
      have h4:=ha.p (.s t) (by simp [rdP])
      split at h
      · split at h
        · rename_i rows t' hrows he
          cases he
          exact ⟨h4▸h.1,h.2⟩
        · exact h
        · cases h
      · cases h
    |c v=>
      split at h
      · split at h
        · rename_i he;cases he
        · exact h
        · cases h
      · cases h
  |ca d f s ps=>
    intro σ τ ha h
    obtain ⟨k,out,h1,h2⟩:=h
    refine ⟨k,out,?_,h2⟩
    have h0:=ha.e
    simp only [usesA,List.mem_append] at h0
    have hm:ps.map σ.v=ps.map τ.v:=map_agr (fun t ht=>h0 t (.inr ht))
    cases s with
    |none=>simp only [caS] at h1 ⊢;rw [←hm];exact h1
    |some x=>
      cases x with
      |c v=>simp only [caS] at h1 ⊢;rw [←hm];exact h1
      |s t=>
        have e1:=h0 t (.inl (by simp [xs]))
        have e2:=ha.p (.s t) (by simp [rdP])
        simp only [caS] at h1 ⊢
        rw [←hm,←e1,←e2];exact h1
  |mk d sz by_ z l c=>
    intro σ τ ha h
    have h0:=ha.e
    simp only [usesA,List.mem_append] at h0
    simp only [wpD] at h ⊢
    rw [←v_agr (σ:=σ) (τ:=τ) (x:=l) (fun t ht=>h0 t (.inl ht)),←v_agr (σ:=σ) (τ:=τ) (x:=c) (fun t ht=>h0 t (.inr ht))];exact h
  |sls d x l hh=>
    intro σ τ ha h
    have h0:=ha.e
    simp only [usesA,List.mem_append] at h0
    simp only [wpD] at h ⊢
    rw [←v_agr (σ:=σ) (τ:=τ) (x:=x) (fun t ht=>h0 t (.inl ht))]
    split at h
    · rename_i s hs
      rw [←bnd_agr (σ:=σ) (τ:=τ) (x:=l) (fun t ht=>h0 t (.inr (.inl ht))),←bnd_agr (σ:=σ) (τ:=τ) (x:=hh) (fun t ht=>h0 t (.inr (.inr ht)))];exact h
    · cases h
  |slc d sz x l hh=>
    intro σ τ ha h
    have h0:=ha.e
    simp only [usesA,List.mem_append] at h0
    simp only [wpD] at h ⊢
    rw [←v_agr (σ:=σ) (τ:=τ) (x:=x) (fun t ht=>h0 t (.inl ht))]
    split at h
    · rename_i s hs
      rw [←bnd_agr (σ:=σ) (τ:=τ) (x:=l) (fun t ht=>h0 t (.inr (.inl ht))),←bnd_agr (σ:=σ) (τ:=τ) (x:=hh) (fun t ht=>h0 t (.inr (.inr ht)))];exact h
    · cases h
  |cl d f ps=>
    intro σ τ ha h
    simp only [wpD] at h ⊢
    rw [←map_agr ha.e];exact h
  |cr d f ps=>
    intro σ τ ha h
    have hm:ps.map σ.v=ps.map τ.v:=map_agr ha.e
    simp only [wpD] at h ⊢
    rw [←hm]
    split at h
    · rename_i b o' r hx
      have h3:=ha.b b (by simp only [bid,hx])
      rw [←h3];exact h
    · cases h
  |cq d f ps fr=>
    intro σ τ ha h
    have hm:ps.map σ.v=ps.map τ.v:=map_agr ha.e
    obtain ⟨I,O,c1,c2,⟨c3,c5⟩,c4⟩:=h
    have hb: ∀i,inF fr i=false→lkB σ.bx i=lkB τ.bx i:=fun i hi=>ha.t i hi
    have hp: ∀i off,inF fr i=false→lkP σ.pm (.b i off)=lkP τ.pm (.b i off):=fun i off hi=>ha.q i off hi rfl
    have hI: ∀p∈I.bx,inF fr p.1=false:=fun p hp=>by
      obtain ⟨cs,hcs⟩:=lkB_key (c2.kept p hp)
      exact c3.fo (p.1,cs) hcs
    refine ⟨I,O,c1,⟨by rw [←hm];exact c2.vs,fun p hp=>?_,fun p hpm=>?_,c2.one,c2.kept,c2.new,fun p hpm=>?_⟩,⟨c3,c5⟩,c4⟩
    · have:=c2.bx p hp
      unfold wkB at this ⊢
      rw [←hb _ (hI p hp)];exact this
    · have h1:=c2.pm p hpm
      have h2:=c3.ip p hpm
      obtain ⟨q,k⟩:=p
      cases q with
      |s t=>cases h2
      |t t i=>cases h2
      |b e off=>
        simp only [pmIn,nilAt] at h1 ⊢
        obtain ⟨cs,hcs⟩:=lkB_key h1.1
        have hf:=hI _ hcs
        rw [←hb _ hf,←hp _ _ hf];exact h1
    · cases hn:p.1.isNw d with
      |false=>rfl
      |true=>
        exfalso
        have hf:inF fr p.1=false:=by
          cases h0:p.1<;>rw [h0] at hn<;>first|(simp [Id.isNw] at hn;done)|skip
          simp only [Id.isNw,Bool.and_eq_true,beq_iff_eq] at hn
          simp only [inF,hn.1,c5]
        have hs:(lkB τ.bx p.1).isSome:=lkB_isSome hpm
        rw [←hb _ hf] at hs
        obtain ⟨cs,hcs⟩:=lkB_key hs
        have:=c2.free _ hcs
        simp only at this
        rw [hn] at this;cases this
  |lds d x=>
    intro σ τ ha h
    have h1:=v_agr (σ:=σ) (τ:=τ) (x:=x) ha.e
    simp only [wpD,ev] at h ⊢
    rw [←h1]
    cases hx:σ.v x<;>rw [hx] at h<;>simp only [loadS] at h ⊢ <;>try exact h
    rename_i b off
    have h3:=ha.b b (by simp only [bid,hx])
    rw [←h3];exact h
  |ldf d x=>
    intro σ τ ha h
    have h1:=v_agr (σ:=σ) (τ:=τ) (x:=x) ha.e
    simp only [wpD,ev] at h ⊢
    rw [←h1]
    cases hx:σ.v x<;>rw [hx] at h<;>try exact h
    rename_i b off
    cases hl:loadS σ.bx (.ptr b off) with
    |none=>rw [hl] at h;cases h
    |some v=>
      have h3:=ha.c (.cel b off v) (by simp only [bid,hx,hl])
      simp only [Bx.kept] at h3
      rw [hl] at h
      rw [h3];exact h
  |lda d n x=>
    intro σ τ ha h
    have h1:=v_agr (σ:=σ) (τ:=τ) (x:=x) ha.e
    simp only [wpD,ev] at h ⊢
    rw [←h1]
    cases hx:σ.v x<;>rw [hx] at h<;>simp only [loadN] at h ⊢ <;>try exact h
    rename_i b off
    have h3:=ha.b b (by simp only [bid,hx])
    rw [←h3];exact h
  |mlk d q z m k ok=>
    intro σ τ ha h
    have h0:=ha.e
    simp only [usesA,List.mem_append] at h0
    have h1:=v_agr (σ:=σ) (τ:=τ) (x:=m) (fun t ht=>h0 t (.inl ht))
    have h2:=v_agr (σ:=σ) (τ:=τ) (x:=k) (fun t ht=>h0 t (.inr ht))
    simp only [wpD,ev] at h ⊢
    rw [←h1,←h2]
    cases hx:σ.v m<;>rw [hx] at h<;>simp only [mapOf] at h ⊢ <;>try exact h
    rename_i b
    have h3:=ha.b b (by simp only [bid,hx])
    rw [←h3];exact h
  |bd d z ps=>
    intro σ τ ha h
    simp only [wpD,ev] at h ⊢
    rw [←build_agr ha.e];exact h
  |pk d c x y=>
    intro σ τ ha h
    have h0:=ha.e
    simp only [usesA,List.mem_append] at h0
    simp only [wpD,ev] at h ⊢
    rw [←v_agr (σ:=σ) (τ:=τ) (x:=c) (fun t ht=>h0 t (.inl ht)),←v_agr (σ:=σ) (τ:=τ) (x:=x) (fun t ht=>h0 t (.inr (.inl ht))),←v_agr (σ:=σ) (τ:=τ) (x:=y) (fun t ht=>h0 t (.inr (.inr ht)))]
    exact h
  |no=>intro σ τ ha h;exact h
  |mv|un|pn|bq|cv|ln|lns|fa|fls|fla|exq|nc|mi|ta=>
    intro σ τ ha h
    have h1:=v_agr (σ:=σ) (τ:=τ) ha.e
    simp only [wpD,ev] at h ⊢
    rw [←h1];exact h
  |bi|bb|ea|ia|iaa|ixs|ixa|mn|mx=>
    intro σ τ ha h
    have h0:=ha.e
    simp only [usesA,List.mem_append] at h0
    have h1:=v_agr (σ:=σ) (τ:=τ) (fun t ht=>h0 t (.inl ht))
    have h2:=v_agr (σ:=σ) (τ:=τ) (fun t ht=>h0 t (.inr ht))
    simp only [wpD,ev] at h ⊢
    rw [←h1,←h2];exact h

def srcA:AOp→Option Nat
  | .mo _ s=>some s
  | .so _ s=>some s
  | .ap _ _ _ (.s t) _=>some t
  | .ca _ _ (some (.s t)) _=>some t
  | .gd _ _ _ o=>srcA o
  |_=>none
theorem ev_dst {σ:St} {o:AOp} {d:Nat} {v:AV} (h:ev σ o=some (d,v)):dstA o=some d:=by
  cases o<;>simp only [ev] at h<;>(try cases h)<;>(repeat' (first|(split at h)|contradiction))<;>simp_all [dstA]

structure Fit (o:AOp) (σ:St) (δ:Dl):Prop where
  e: ∀d v,δ.e?=some (d,v)→dstA o=some d
  b: ∀d cs,δ.b? d=some cs→tchO (bid σ o) d∧boxA o=2
  m: ∀p x,δ.m? p=some x→(∃d,p.at d=true∧dstA o=some d)∨(∃s,p= .s s∧srcA o=some s)∨(∃b off,p= .b b off∧tchO (bid σ o) b∧boxA o=2)
  f:δ.fits σ

def okG:AOp→Bool
  | .gd _ _ d o=>dstA o==some d&&okG o
  |o=>okD o

theorem fit_put {o:AOp} {σ:St} {d:Nat} {v:AV} (h:dstA o=some d):Fit o σ (.put d v):=
  ⟨fun _ _ e=>by simp only [Dl.e?,Option.some.injEq,Prod.mk.injEq] at e;rw [h,e.1],fun _ _ e=>by simp [Dl.b?] at e,
   fun p x e=>by
    simp only [Dl.m?] at e
    split at e
    · rename_i h0;exact .inl ⟨d,h0,h⟩
    · exact absurd e (by simp),trivial⟩
theorem fit_puto {o:AOp} {σ:St} {d k:Nat} {v:AV} (h:dstA o=some d):Fit o σ (.puto d v k):=
  ⟨fun _ _ e=>by simp only [Dl.e?,Option.some.injEq,Prod.mk.injEq] at e;rw [h,e.1],fun _ _ e=>by simp [Dl.b?] at e,
   fun p x e=>by
    simp only [Dl.m?] at e
    split at e
    · rename_i h0;exact .inl ⟨d,by rw [h0];simp [Pl.at],h⟩
    · split at e
      · rename_i h0;exact .inl ⟨d,h0,h⟩
      · exact absurd e (by simp),trivial⟩

theorem wpD_fit: ∀ {o:AOp} {σ:St} {δ:Dl},okG o=true→wpD Sp o (· =δ) σ→Fit o σ δ:=by
  intro o
  induction o with
  |gd s b d o ih=>
    intro σ δ hok h
    simp only [okG,Bool.and_eq_true,beq_iff_eq] at hok
    simp only [wpD] at h
    split at h
    · rename_i e
      have ht:=gdv_true e
      obtain ⟨f1,f2,f3,f4⟩:=ih hok.2 h
      refine ⟨fun d' v hd=>?_,fun d' cs hd=>?_,fun p x hp=>?_,f4⟩
      · have:=f1 d' v hd;simp only [dstA];rw [if_pos hok.1,←hok.1];exact this
      · simpa [bid,ht,boxA] using f2 d' cs hd
      · rcases f3 p x hp with ⟨d',ha,h1⟩|⟨s',rfl,h1⟩|⟨b',off,rfl,h1,h2⟩
        · left;refine ⟨d',ha,?_⟩;simp only [dstA];rw [if_pos hok.1,←hok.1];exact h1
        · right;left;exact ⟨s',rfl,by simpa [srcA] using h1⟩
        · right;right;exact ⟨b',off,rfl,by simpa [bid,ht] using h1,by simpa [boxA] using h2⟩
    · subst h
      exact fit_put (by simp only [dstA];rw [if_pos hok.1])
    · cases h
  |mo d s=>
    intro σ δ _ h
    simp only [wpD] at h
    split at h
    · subst h
      exact ⟨fun _ _ e=>by simp [Dl.e?] at e;simp [dstA,e.1],fun _ _ e=>by simp [Dl.b?] at e,fun p x e=>by
        simp only [Dl.m?] at e
        split at e
        · rename_i h0;left;exact ⟨d,by rw [h0];simp [Pl.at],rfl⟩
        · split at e
          · left;exact ⟨d,by assumption,rfl⟩
          · split at e
            · right;left;exact ⟨s,by assumption,rfl⟩
            · exact absurd e (by simp),trivial⟩
    · subst h;exact fit_put rfl
  |al d z=>
    intro σ δ _ h
    simp only [wpD] at h
    split at h
    · subst h
      exact ⟨fun _ _ e=>by simp [Dl.e?] at e;simp [dstA,e.1],fun _ _ e=>by simp [Dl.b?] at e;simp [bid,tchO,Bx.tch,boxA,e.1],fun p x e=>by
        simp only [Dl.m?] at e
        split at e
        · left;exact ⟨d,by assumption,rfl⟩
        · exact absurd e (by simp),trivial⟩
    · cases h
  |alT d T off z=>
    intro σ δ _ h
    simp only [wpD] at h
    split at h
    · subst h
      exact ⟨fun _ _ e=>by simp [Dl.e?] at e;simp [dstA,e.1],fun _ _ e=>by simp [Dl.b?] at e;simp [bid,tchO,Bx.tch,boxA,e.1],fun p x e=>by
        simp only [Dl.m?] at e
        split at e
        · left;exact ⟨d,by assumption,rfl⟩
        · exact absurd e (by simp),trivial⟩
    · cases h
  |bx d z=>
    intro σ δ _ h
    simp only [wpD] at h
    split at h
    · split at h
      · subst h
        exact ⟨fun _ _ e=>by simp [Dl.e?] at e;simp [dstA,e.1],fun _ _ e=>by simp [Dl.b?] at e;simp [bid,tchO,Bx.tch,boxA,e.1],fun p x e=>by
          simp only [Dl.m?] at e
          split at e
          · left;exact ⟨d,by assumption,rfl⟩
          · exact absurd e (by simp),trivial⟩
      · cases h
    · cases h
  |bs d sz ps=>
    intro σ δ _ h
    simp only [wpD] at h
    split at h
    · subst h;exact fit_puto rfl
    · cases h
  |st n x v=>
    intro σ δ _ h
    simp only [wpD] at h
    split at h
    · rename_i d off hx
      split at h
      · rename_i cs hcs
        split at h
        · obtain ⟨_,_,h⟩:=h
          subst h
          refine ⟨fun _ _ e=>by simp [Dl.e?] at e,fun _ _ e=>by simp [Dl.b?] at e;simp [bid,tchO,Bx.tch,boxA,hx,e.1],fun p x e=>?_,by simp [Dl.fits,hcs]⟩
          simp only [Dl.m?] at e
          split at e
          · rename_i hr
            cases p with
            |s t=>simp [inRange] at hr
            |t t i=>simp [inRange] at hr
            |b b' o'=>
              simp only [inRange,Bool.and_eq_true,beq_iff_eq] at hr
              right;right;exact ⟨b',o',rfl,by simp [bid,tchO,Bx.tch,hx,hr.1.1],rfl⟩
          · cases e
        · cases h
      · cases h
    · cases h
  |lo d x=>
    intro σ δ _ h
    simp only [wpD] at h
    split at h
    · rename_i b off hx
      split at h
      · split at h
        · split at h
          · subst h
            exact ⟨fun _ _ e=>by simp [Dl.e?] at e;simp [dstA,e.1],fun _ _ e=>by simp [Dl.b?] at e,fun p x e=>by
              simp only [Dl.m?] at e
              split at e
              · rename_i h0;left;exact ⟨d,by rw [h0];simp [Pl.at],rfl⟩
              · split at e
                · left;exact ⟨d,by assumption,rfl⟩
                · split at e
                  · right;right;exact ⟨b,off,by assumption,by simp [bid,tchO,Bx.tch,hx],rfl⟩
                  · exact absurd e (by simp),trivial⟩
          · subst h;exact fit_put rfl
        · cases h
      · cases h
    · split at h
      · subst h;exact fit_put rfl
      · cases h
    · cases h
  |so x s=>
    intro σ δ _ h
    simp only [wpD] at h
    split at h
    · rename_i d off hx
      split at h
      · rename_i cs hcs
        split at h
        · rename_i k hk
          obtain ⟨_,h⟩:=h
          subst h
          exact ⟨fun _ _ e=>by simp [Dl.e?] at e,fun _ _ e=>by simp [Dl.b?] at e;simp [bid,tchO,Bx.tch,boxA,hx,e.1],fun p x e=>by
            simp only [Dl.m?] at e
            split at e
            · right;right;exact ⟨d,off,by assumption,by simp [bid,tchO,Bx.tch,hx],rfl⟩
            · split at e
              · right;left;exact ⟨_,by assumption,rfl⟩
              · exact absurd e (by simp),by simp [Dl.fits,hcs]⟩
        · split at h
          · obtain ⟨_,_,h⟩:=h
            subst h
            refine ⟨fun _ _ e=>by simp [Dl.e?] at e,fun _ _ e=>by simp [Dl.b?] at e;simp [bid,tchO,Bx.tch,boxA,hx,e.1],fun p x e=>?_,by simp [Dl.fits,hcs]⟩
            simp only [Dl.m?] at e
            split at e
            · rename_i hr
              cases p with
              |s t=>simp [inRange] at hr
              |t t i=>simp [inRange] at hr
              |b b' o'=>
                simp only [inRange,Bool.and_eq_true,beq_iff_eq] at hr
                right;right;exact ⟨b',o',rfl,by simp [bid,tchO,Bx.tch,hx,hr.1.1],rfl⟩
            · cases e
          · cases h
      · cases h
    · cases h
  |ap d sz by_ s y=>
    intro σ δ _ h
    simp only [wpD] at h
    split at h
    · split at h
      · rename_i rows t hrows
        obtain ⟨_,_,_,_,h⟩:=h
        subst h
        exact ⟨fun _ _ e=>by simp [Dl.e?] at e;simp [dstA,e.1],fun _ _ e=>by simp [Dl.b?] at e,fun p x e=>by
          simp only [Dl.m?] at e
          split at e
          · rename_i h0;left;exact ⟨d,by rw [h0];simp [Pl.at],rfl⟩
          · split at e
            · left;exact ⟨d,by assumption,rfl⟩
            · split at e
              · right;left;exact ⟨_,by assumption,rfl⟩
              · exact absurd e (by simp),trivial⟩
      · obtain ⟨_,_,h⟩:=h
        subst h;exact fit_puto rfl
      · cases h
    · cases h
  |ca d f s ps=>
    intro σ δ _ h
    obtain ⟨k,out,_,h⟩:=h
    have hp: ∀v,Fit (.ca d f s ps) σ (.puto d v k):=fun v=>fit_puto rfl
    cases s with
    |none=>subst h;exact hp _
    |some x=>
      cases x with
      |c v=>subst h;exact hp _
      |s t=>
        subst h
        exact ⟨fun _ _ e=>by simp [caD,Dl.e?] at e;simp [dstA,e.1],fun _ _ e=>by simp [caD,Dl.b?] at e,fun p x e=>by
          simp only [caD,Dl.m?] at e
          split at e
          · rename_i h0;left;exact ⟨d,by rw [h0];simp [Pl.at],rfl⟩
          · split at e
            · left;exact ⟨d,by assumption,rfl⟩
            · split at e
              · right;left;exact ⟨_,by assumption,rfl⟩
              · exact absurd e (by simp),trivial⟩
  |mk d sz by_ z l c=>
    intro σ δ _ h
    simp only [wpD] at h
    split at h
    · obtain ⟨_,_,_,h⟩:=h
      subst h;exact fit_puto rfl
    · cases h
  |sls d x l hh=>
    intro σ δ _ h
    simp only [wpD] at h
    split at h
    · split at h
      · obtain ⟨_,_,_,h⟩:=h
        subst h;exact fit_put rfl
      · cases h
    · cases h
  |slc d sz x l hh=>
    intro σ δ _ h
    simp only [wpD] at h
    split at h
    · split at h
      · obtain ⟨_,_,_,_,h⟩:=h
        subst h;exact fit_put rfl
      · cases h
    · cases h
  |cl d f ps=>
    intro σ δ _ h
    simp only [wpD] at h
    split at h
    · obtain ⟨r,_,h⟩:=h
      subst h;exact fit_put rfl
    · cases h
  |cr d f ps=>
    intro σ δ _ h
    simp only [wpD] at h
    split at h
    · rename_i b o' r hx
      split at h
      · obtain ⟨v,_,h⟩:=h
        subst h
        refine ⟨fun _ _ e=>by simp [Dl.e?] at e;simp [dstA,e.1],fun _ _ e=>by simp [Dl.b?] at e,fun p x e=>?_,trivial⟩
        simp only [Dl.m?] at e
        split at e
        · left;exact ⟨d,by assumption,rfl⟩
        · split at e
          · rename_i hr
            cases p with
            |s t=>simp [inBox] at hr
            |t t i=>simp [inBox] at hr
            |b b' o2=>
              simp only [inBox,beq_iff_eq] at hr
              right;right;exact ⟨b',o2,rfl,by simp [bid,tchO,Bx.tch,hx,hr],rfl⟩
          · cases e
      · cases h
    · cases h
  |cq d f ps fr=>
    intro σ δ _ h
    obtain ⟨I,O,c1,c2,⟨c3,c5⟩,h⟩:=h
    subst h
    have hI: ∀e,(lkB I.bx e).isSome→inF fr e=false:=fun e he=>by
      obtain ⟨cs,hcs⟩:=lkB_key he
      obtain ⟨cs',hcs'⟩:=lkB_key (c2.kept _ hcs)
      exact c3.fo _ hcs'
    refine ⟨fun _ _ e=>by simp [Dl.e?] at e;simp [dstA,e.1],fun i cs e=>?_,fun p x e=>?_,⟨c2.kept,c3.ip,fun p hp=>Pl.isF_isB (c3.op p hp)⟩⟩
    · simp only [Dl.b?] at e
      exact ⟨c3.fo _ (lkB_mem _ _ _ e),rfl⟩
    · simp only [Dl.m?] at e
      split at e
      · left;exact ⟨d,by assumption,rfl⟩
      · split at e
        · rename_i k hk
          have hb:=c3.op _ (lkP_mem _ _ _ hk)
          cases p with
          |s t=>cases hb
          |t t i=>cases hb
          |b e' off=>
            right;right
            exact ⟨e',off,rfl,by simpa [Pl.isF,tchO,bid,Bx.tch] using hb,rfl⟩
        · cases p with
          |s t=>cases e
          |t t i=>cases e
          |b e' off=>
            simp only at e
            split at e
            · rename_i he
              right;right;exact ⟨e',off,rfl,hI _ he,rfl⟩
            · cases e
  |ce|cd|apm|mkm|bsn|bsm|rs|nx|s2b|aps|ex|sla|b2s|i2s|inl|mkp|mpl|mpe|mes|mup|bxT|clr|trm=>intro σ δ _ h;exact (h:False).elim
  |_=>
    intro σ δ _ h
    simp only [wpD] at h
    split at h
    · rename_i he
      subst h;exact fit_put (ev_dst he)
    · cases h

theorem rdP_fit: ∀ {o:AOp} {σ:St},∀p∈rdP σ o,(∃s,p= .s s∧srcA o=some s)∨(∃b off,p= .b b off∧tchO (bid σ o) b∧boxA o=2):=by
  intro o
  induction o with
  |gd s b d o ih=>
    intro σ p hp
    simp only [rdP] at hp
    split at hp
    · rename_i t ht
      split at hp
      · rename_i e
        rcases ih p hp with ⟨s',rfl,h⟩|⟨b',off,rfl,h1,h2⟩
        · left;exact ⟨s',rfl,by simpa [srcA] using h⟩
        · right;exact ⟨b',off,rfl,by simpa [bid,ht,e] using h1,by simpa [boxA] using h2⟩
      · simp at hp
    · simp at hp
  |mo d s=>intro σ p hp;simp [rdP] at hp;left;exact ⟨s,hp,rfl⟩
  |so x s=>intro σ p hp;simp [rdP] at hp;left;exact ⟨s,hp,rfl⟩
  |ap d sz by_ s y=>
    intro σ p hp
    cases s with
    |s t=>simp [rdP] at hp;left;exact ⟨t,hp,rfl⟩
    |c v=>simp [rdP] at hp
  |ca d f s ps=>
    intro σ p hp
    cases s with
    |none=>simp [rdP] at hp
    |some x=>
      cases x with
      |s t=>simp [rdP] at hp;left;exact ⟨t,hp,rfl⟩
      |c v=>simp [rdP] at hp
  |lo d x=>
    intro σ p hp
    simp only [rdP] at hp
    split at hp
    · rename_i b off hx
      simp at hp
      right;exact ⟨b,off,hp,by simp [bid,tchO,Bx.tch,hx],rfl⟩
    · simp at hp
  |_=>intro σ p hp;simp [rdP] at hp
theorem src_uses: ∀ {o:AOp} {s:Nat},srcA o=some s→s∈usesA o:=by
  intro o
  induction o with
  |gd s b d o ih=>intro s' h;simp only [srcA] at h;simp [usesA,ih h]
  |mo d s=>intro s' h;simp [srcA] at h;simp [usesA,h]
  |so x s=>intro s' h;simp [srcA] at h;simp [usesA,h]
  |ap d sz by_ s y=>
    intro s' h
    cases s with
    |s t=>simp [srcA] at h;simp [usesA,xs,h]
    |c v=>simp [srcA] at h
  |ca d f s ps=>
    intro s' h
    cases s with
    |none=>simp [srcA] at h
    |some x=>
      cases x with
      |s t=>simp [srcA] at h;simp [usesA,xs,h]
      |c v=>simp [srcA] at h
  |_=>intro s' h;simp [srcA] at h
theorem bid_box: ∀ {o:AOp} {σ:St} {b:Bx},bid σ o=some b→boxA o≠0:=by
  intro o
  induction o with
  |gd s b d o ih=>
    intro σ b' h
    simp only [bid] at h
    split at h
    · split at h
      · simpa [boxA] using ih h
      · cases h
    · cases h
  |_=>intro σ b h;first|(simp [boxA];done)|simp [bid] at h

def runD (δs:Nat→Dl) (l:List Nat) (v:LS):LS:=l.foldl (fun v j=>(δs j).app v) v
theorem runD_snoc (δs:Nat→Dl) (l:List Nat) (j:Nat) (v:LS):runD δs (l++[j]) v=(δs j).app (runD δs l v):=by simp [runD]

def tE (t:Nat) (δ:Dl):Bool:=match δ.e? with |some (d,_)=>d==t|none=>false
def tB (b:Id) (δ:Dl):Bool:=(δ.b? b).isSome
def tM (p:Pl) (δ:Dl):Bool:=(δ.m? p).isSome

theorem runD_E (δs:Nat→Dl) (t:Nat): ∀(l:List Nat) (u v:LS),u.E t=v.E t→(runD δs l u).E t=(runD δs (l.filter fun j=>tE t (δs j)) v).E t:=by
  intro l
  induction l with
  |nil=>intro u v h;exact h
  |cons j r ih=>
    intro u v h
    simp only [runD,List.foldl_cons,List.filter_cons] at ih ⊢
    by_cases ht:tE t (δs j)=true
    · rw [if_pos ht,List.foldl_cons]
      refine ih _ _ ?_
      simp only [Dl.app]
      simp only [tE] at ht
      split at ht
      · rename_i d x he;simp only [beq_iff_eq] at ht;simp [ht]
      · cases ht
    · rw [if_neg ht]
      refine ih _ _ ?_
      rw [←h]
      simp only [Dl.app]
      split
      · rename_i d x he;rw [if_neg];intro e;exact ht (by simp [tE,he,e])
      · rfl
theorem runD_B (δs:Nat→Dl) (t:Id): ∀(l:List Nat) (u v:LS),u.B t=v.B t→(runD δs l u).B t=(runD δs (l.filter fun j=>tB t (δs j)) v).B t:=by
  intro l
  induction l with
  |nil=>intro u v h;exact h
  |cons j r ih=>
    intro u v h
    simp only [runD,List.foldl_cons,List.filter_cons] at ih ⊢
    by_cases ht:tB t (δs j)=true
    · rw [if_pos ht,List.foldl_cons]
      refine ih _ _ ?_
      simp only [Dl.app]
      simp only [tB] at ht
      obtain ⟨x,hx⟩:=Option.isSome_iff_exists.1 ht
      rw [hx]
    · rw [if_neg ht]
      refine ih _ _ ?_
      rw [←h]
      simp only [Dl.app]
      split
      · rename_i x he;exact absurd (by simp [tB,he]) ht
      · rfl
theorem runD_M (δs:Nat→Dl) (t:Pl): ∀(l:List Nat) (u v:LS),u.M t=v.M t→(runD δs l u).M t=(runD δs (l.filter fun j=>tM t (δs j)) v).M t:=by
  intro l
  induction l with
  |nil=>intro u v h;exact h
  |cons j r ih=>
    intro u v h
    simp only [runD,List.foldl_cons,List.filter_cons] at ih ⊢
    by_cases ht:tM t (δs j)=true
    · rw [if_pos ht,List.foldl_cons]
      refine ih _ _ ?_
      simp only [Dl.app]
      simp only [tM] at ht
      obtain ⟨x,hx⟩:=Option.isSome_iff_exists.1 ht
      rw [hx]
    · rw [if_neg ht]
      refine ih _ _ ?_
      rw [←h]
      simp only [Dl.app]
      split
      · rename_i x he;exact absurd (by simp [tM,he]) ht
      · rfl

theorem filter_range {n i:Nat} {p q:Nat→Bool} (hi:i≤n) (h: ∀j,j<n→p j=(decide (j<i)&&q j)):(List.range n).filter p=(List.range i).filter q:=by
  induction n with
  | zero => have : i = 0 := by omega
            subst this;rfl
  |succ n ih=>
    by_cases hin:i=n+1
    · subst hin
      apply List.filter_congr
      intro j hj
      have:=List.mem_range.1 hj
      rw [h j this];simp [this]
    · rw [List.range_succ,List.filter_append,ih (by omega) (fun j hj=>h j (by omega))]
      have:=h n (by omega)
      rw [show decide (n<i)=false by simp;omega] at this
      simp [this]
end Go.Ai
