/- AiSound: a part of the proof: the rules, or what functions compute. Conditions: as each theorem says. -/
import Derived.Test.YtpaipepdakekbaaGreatDoorAiOp1
import Derived.Scope
set_option linter.unusedSimpArgs false
set_option linter.unusedVariables false
namespace Go.Ai
open Go.RowKit
variable {P:Program} {F:Fr} {S:Mem} {gb:Gb} {σ:St} {a:Act} {w:World}

theorem yielded_of {ops:Array Oper} {j s:Nat} {t:Bool} (hd:((ops[j]?).bind (·.dst))=some s) (hv:a.tmps.getD s undef= .bool t):yielded ops a.tmps j=some t:=by
 unfold yielded
 rw [hd]
 simp only [Option.bind_some]
 cases hq:a.tmps[s]? with
 |none=>simp [Array.getD_eq_getD_getElem?,hq,undef] at hv
 |some v=>simp [Array.getD_eq_getD_getElem?,hq] at hv;rw [hv]

theorem opg_sound (h:Rel F S gb σ a w) {ops:Array Oper} {o:Oper} {ao:AOp} (hm:mt P F.GL F.N ops o ao=true) {K:St→Prop} (hw:wp1 (Spec P F.GL) ao K σ) {K':Act→World→Prop} {Q:Exit→Act→World→Prop}
  (hK: ∀S gb σ a w,Rel F S gb σ a w→K σ→K' a w):if Region.wanted o (yielded ops a.tmps)=true then o.wp P a w K' Q else K' (a.put o.dst undef) w:=by
 by_cases hg: ∃s b d o',ao= .gd s b d o'
 ·obtain ⟨s,b,d,ao',rfl⟩:=hg
  simp only [mt,Bool.and_eq_true,slotOk_iff] at hm
  obtain ⟨⟨h1,h2,h3⟩,h4⟩:=hm
  split at h1<;>(try cases h1)
  rename_i j b' hgd
  simp only [Bool.and_eq_true,beq_iff_eq] at h1
  obtain ⟨rfl,hdst⟩:=h1
  simp only [wp1] at hw
  split at hw
  ·rename_i ht
   have henv:=h.env s
   rw [gdv_true ht] at henv
   simp only [PR] at henv
   have hy:=yielded_of (ops:=ops) hdst henv
   simp only [Region.wanted,hgd,hy]
   rw [if_pos (by simp)]
   exact op1_sound h h4 hw hK
  ·rename_i ht
   have hy:(yielded ops a.tmps j==some b)=false:=by
    have henv:=h.env s
    rcases gdv_false ht with e|e
    ·rw [e] at henv
     simp only [PR] at henv
     rw [yielded_of (ops:=ops) hdst henv]
     cases b<;>rfl
    ·rw [e] at henv
     simp only [PR,PRlist] at henv
     obtain ⟨us,hu,hn⟩:=henv
     have:yielded ops a.tmps j=none:=by
      unfold yielded
      rw [hdst]
      simp only [Option.bind_some]
      cases hq:a.tmps[s]? with
      |none=>rfl
      |some v=>
       have:v= .tuple us:=by rw [←hu];simp [tv,Array.getD_eq_getD_getElem?,hq]
       rw [this]
     rw [this];rfl
   simp only [Region.wanted,hgd,hy]
   rw [if_neg (by simp)]
   rw [h2]
   exact hK _ _ _ _ _ (h.put h3 (by simp only [PR,PRlist,undef];exact ⟨#[],rfl,rfl⟩)) hw
  ·cases hw
 ·have hm':o.guard=none∧mt1 P F.GL F.N o ao=true:=by
   cases ao<;>simp only [mt,Bool.and_eq_true,Option.isNone_iff_eq_none] at hm<;>first|exact hm|exact absurd ⟨_,_,_,_,rfl⟩ hg
  simp only [Region.wanted,hm'.1,if_true]
  exact op1_sound h hm'.2 hw hK

def mts (P:Program) (GL:List (Nat×List Value)) (N:Nat) (ops:Array Oper):List Oper→List AOp→Bool
 |[],[]=>true
 |o::r,ao::s=>mt P GL N ops o ao&&mts P GL N ops r s
 |_,_=>false

theorem list_sound {ops:Array Oper} {K:St→Prop} {Q:Exit→Act→World→Prop} (hQ: ∀S gb σ a w,Rel F S gb σ a w→K σ→Q .normal a w):
  ∀ {l:List Oper} {al:List AOp},mts P F.GL F.N ops l al=true→ ∀ {S:Mem} {gb:Gb} {σ:St} {a:Act} {w:World},Rel F S gb σ a w→wpL (Spec P F.GL) al K σ→wpList P ops Q l a w
 |[],al,hm,S,gb,σ,a,w,h,hw=>by
  cases al<;>simp [mts] at hm
  exact hQ _ _ _ _ _ h hw
 |o::r,al,hm,S,gb,σ,a,w,h,hw=>by
  cases al with
  |nil=>simp [mts] at hm
  |cons ao s=>
   simp only [mts,Bool.and_eq_true] at hm
   simp only [wpL] at hw
   have:=opg_sound h hm.1 hw (K':=wpList P ops Q r) (Q:=Q) (fun S gb σ a w h' hk=>list_sound hQ hm.2 h' hk)
   simp only [wpList]
   split
   ·rename_i hc;rw [if_pos hc] at this;exact .inl this
   ·rename_i hc;rw [if_neg hc] at this;exact this

def mC (P:Program) (GL:List (Nat×List Value)) (N:Nat) (dr:Array Oper→List (List Nat)→List AOp→Bool):Code→AC→Bool
 | .skip,.sk=>true
 | .region _ ops false,.rg l=>mts P GL N ops ops.toList l
 | .region _ ops true,.rd us l=>mts P GL N ops ops.toList l&&dr ops us l
 | .seq x y,.sq x' y'=>mC P GL N dr x x'&&mC P GL N dr y y'
 | .cond c x y,.cd c' x' y'=>mX GL c' c&&mC P GL N dr x x'&&mC P GL N dr y y'
 | .block i x,.bl j x'=>i==j&&mC P GL N dr x x'
 | .loop x,.lp x'=>mC P GL N dr x x'
 | .exit i,.ex j=>i==j
 | .ret,.rt=>true
 | .scope x,.sc x'=>mC P GL N dr x x'
 | .label _,.lb=>true
 | .goto _,.no=>true
 | .refuse _,.no=>true
 |_,_=>false

def toE:AE→Exit
 | .n=> .normal
 | .x i=> .exit i
 | .r=> .ret

def DrawsOk (P:Program) (GL:List (Nat×List Value)) (N:Nat) (dr:Array Oper→List (List Nat)→List AOp→Bool):Prop:=
 ∀(F:Fr),F.GL=GL→F.N=N→ ∀(id:Nat) (ops:Array Oper) (us:List (List Nat)) (l:List AOp),mts P F.GL F.N ops ops.toList l=true→dr ops us l=true→ ∀(K:St→Prop) (Q:Exit→Act→World→Prop),(∀S gb σ a w,Rel F S gb σ a w→K σ→Q .normal a w)→
  ∀ {S:Mem} {gb:Gb} {σ:St} {a:Act} {w:World},Rel F S gb σ a w→wpLd (Spec P F.GL) us l 0 [] K σ→(Code.region id ops true).wp P Q a w

theorem code_sound {dr:Array Oper→List (List Nat)→List AOp→Bool} (hd:DrawsOk P F.GL F.N dr): ∀ {c:Code} {ac:AC},mC P F.GL F.N dr c ac=true→ ∀ {Q:AE→St→Prop} {Q':Exit→Act→World→Prop},(∀e S gb σ a w,Rel F S gb σ a w→Q e σ→Q' (toE e) a w)→
  ∀ {S:Mem} {gb:Gb} {σ:St} {a:Act} {w:World},Rel F S gb σ a w→wpA (Spec P F.GL) ac Q σ→c.wp P Q' a w:=by
 intro c
 induction c with
 |skip=>
  intro ac hm Q Q' hQ S gb σ a w h hw
  cases ac<;>simp [mC] at hm
  exact wp_skip (hQ .n _ _ _ _ _ h hw)
 |region id ops draw=>
  intro ac hm Q Q' hQ S gb σ a w h hw
  cases ac
  case rg l=>
   cases draw<;>simp [mC] at hm
   exact wp_region_list (list_sound (fun S gb σ a w h' hk=>hQ .n _ _ _ _ _ h' hk) hm h hw)
  case rd us l=>
   cases draw<;>simp [mC] at hm
   exact hd F rfl rfl id ops us l hm.1 hm.2 (Q .n) Q' (fun S gb σ a w h' hk=>hQ .n _ _ _ _ _ h' hk) h hw
  all_goals (cases draw<;>simp [mC] at hm)
 |seq x y ihx ihy=>
  intro ac hm Q Q' hQ S gb σ a w h hw
  cases ac<;>simp [mC] at hm
  rename_i x' y'
  refine wp_seq (ihx hm.1 (Q:=AE.sq (wpA (Spec P F.GL) y' Q) Q) ?_ h hw)
  intro e S gb σ a w h' hq
  cases e
  ·exact ihy hm.2 hQ h' hq
  ·exact hQ (.x _) _ _ _ _ _ h' hq
  ·exact hQ .r _ _ _ _ _ h' hq
 |cond c x y ihx ihy=>
  intro ac hm Q Q' hQ S gb σ a w h hw
  cases ac<;>simp [mC] at hm
  rename_i c' x' y'
  obtain ⟨⟨hc,hx⟩,hy⟩:=hm
  have hv:=mX_sound h hc
  simp only [wpA] at hw
  split at hw
  ·rename_i t ht
   rw [ht] at hv
   simp only [PR] at hv
   refine wp_cond hv ?_
   cases t
   ·exact ihy hy hQ h (by simpa using hw)
   ·exact ihx hx hQ h (by simpa using hw)
  ·cases hw
 |block i x ih=>
  intro ac hm Q Q' hQ S gb σ a w h hw
  cases ac<;>simp [mC] at hm
  rename_i j x'
  obtain ⟨rfl,hx⟩:=hm
  refine wp_block (ih hx (Q:=AE.bl i Q) ?_ h hw)
  intro e S gb σ a w h' hq
  cases e
  ·exact hQ .n _ _ _ _ _ h' hq
  ·rename_i j
   simp only [toE,Exit.inBlock]
   simp only [AE.bl] at hq
   split at hq
   ·rename_i e;rw [if_pos e];exact hQ .n _ _ _ _ _ h' hq
   ·rename_i e;rw [if_neg e];exact hQ (.x _) _ _ _ _ _ h' hq
  ·exact hQ .r _ _ _ _ _ h' hq
 |loop x ih=>
  intro ac hm Q Q' hQ S gb σ a w h hw
  cases ac<;>simp [mC] at hm
  rename_i x'
  simp only [wpA] at hw
  obtain ⟨n,hn⟩:=hw
  intro b k cs
  have key: ∀n S gb σ a w,Rel F S gb σ a w→itA (wpA (Spec P F.GL) x') Q n σ→ ∃e a' w',Q' e a' w'∧Arrives P (lone (b.at a (.code x:: .inLoop x::k)) cs w) b k cs e a' w':=by
   intro n
   induction n with
   |zero=>intro S gb σ a w h hn;exact hn.elim
   |succ n ihn=>
    intro S gb σ a w h hn
    obtain ⟨τ,hτ,hb⟩:=hn
    obtain ⟨gb',h'⟩:=h.weakR hτ
    obtain ⟨e,a₁,w₁,hq,harr⟩:=ih hm (Q:=AE.sq (itA (wpA (Spec P F.GL) x') Q n) Q) (Q':=Exit.then (fun a w=> ∃S gb σ,Rel F S gb σ a w∧itA (wpA (Spec P F.GL) x') Q n σ) Q') (by
     intro e S gb σ a w h'' hq
     cases e
     ·exact ⟨_,_,_,h'',hq⟩
     ·exact hQ (.x _) _ _ _ _ _ h'' hq
     ·exact hQ .r _ _ _ _ _ h'' hq) h' hb b (.inLoop x::k) cs
    cases e with
    |normal=>
     obtain ⟨S1,gb1,σ1,h1,hi1⟩:=hq
     obtain ⟨e₂,a₂,w₂,hq₂,harr₂⟩:=ihn _ _ _ _ _ h1 hi1
     exact ⟨e₂,a₂,w₂,hq₂,.of_steps (Steps.trans harr (.one step_inLoop)) harr₂⟩
    |exit id=>exact ⟨_,a₁,w₁,hq,.pass (x:= .inLoop x) rfl (fun _ _=> .inl (by simp)) harr⟩
    |goto l=>exact ⟨_,a₁,w₁,hq,.pass (x:= .inLoop x) rfl (fun _ _=> .inl (by simp)) harr⟩
    |ret=>exact ⟨_,a₁,w₁,hq,.pass (x:= .inLoop x) rfl (fun _ _=> .inl (by simp)) harr⟩
    |panic ch=>exact ⟨_,a₁,w₁,hq,.pass (x:= .inLoop x) rfl (fun _ _=> .inl (by simp)) harr⟩
    |outgrown=>exact ⟨_,a₁,w₁,hq,.pass (x:= .inLoop x) rfl (fun _ _=> .inl (by simp)) harr⟩
  obtain ⟨e,a',w',hq,harr⟩:=key n _ _ _ _ _ h hn
  exact ⟨e,a',w',hq,.of_steps (.one step_loop) harr⟩
 |rangeFunc=>intro ac hm;cases ac<;>simp [mC] at hm
 |exit i=>
  intro ac hm Q Q' hQ S gb σ a w h hw
  cases ac<;>simp [mC] at hm
  subst hm
  exact wp_exit (hQ (.x _) _ _ _ _ _ h hw)
 |scope x ih=>
  intro ac hm Q Q' hQ S gb σ a w h hw
  cases ac<;>simp [mC] at hm
  refine wp_scope_straight (ih hm (Q:=Q) ?_ h hw)
  intro e S gb σ a w h' hq
  cases e<;>exact hQ _ _ _ _ _ _ h' hq
 |label l=>
  intro ac hm Q Q' hQ S gb σ a w h hw
  cases ac<;>simp [mC] at hm
  exact wp_label (hQ .n _ _ _ _ _ h hw)
 |goto l=>
  intro ac hm Q Q' hQ S gb σ a w h hw
  cases ac<;>simp [mC] at hm
  exact (show False from hw).elim
 |ret=>
  intro ac hm Q Q' hQ S gb σ a w h hw
  cases ac<;>simp [mC] at hm
  exact wp_ret (hQ .r _ _ _ _ _ h hw)
 |refuse=>
  intro ac hm Q Q' hQ S gb σ a w h hw
  cases ac<;>simp [mC] at hm
  exact (show False from hw).elim
end Go.Ai
