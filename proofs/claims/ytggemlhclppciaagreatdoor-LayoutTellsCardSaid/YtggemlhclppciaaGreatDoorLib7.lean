/- Lib7: a part of the proof: the rules, or what functions compute. Conditions: as each theorem says. -/
import Derived.Test.YtggemlhclppciaaGreatDoorLib6
import Derived.Recover
import Derived.RangeFuncFrom
import Derived.RangeFuncLeaves
import Derived.RangeFuncCalls
import Derived.OrdersIn
set_option linter.unusedSimpArgs false
set_option linter.unusedVariables false
namespace Go.Ai
open Go.RowKit
variable {P:Program} {F:Fr} {S:Mem} {gb:Gb} {σ:St} {a:Act} {w:World}

abbrev thrown (v:Value):List PanicEntry:=[{v,recovered:=false}]
def DoesP (P:Program) (f:FuncId) (vs:Array Value) (w:World) (R:Value→World→Prop):Prop:=
 match (callFunc f vs).run P w with
 | .ok (.enter f' as') w'=>Calls P f' as' w' fun e w''=> ∃v,e= .panicked (thrown v)∧R v w''
 |_=>False
def SpecP (P:Program) (GL:List (Nat×List Value)) (f d:Nat) (I:In) (O:Out):Prop:=
 ∀(S:Mem) (gb:Gb) (w:World) (vs:List Value),PRlist S gb I.vs vs→HR S gb I.bx I.pm (fun t=>vs.getD t undef) w→
  (∀i us,GL.lookup i=some us→ ∀(o:Nat) (u:Value),us[o]?=some u→S i o=some u∧u.oneCell'=true)→(∀i,i.isNw d=true→gb i=none)→
  DoesP P f vs.toArray w fun v w'=> ∃S' gb',PostR d I O S gb (fun t=>vs.getD t undef) w S' gb' v w'

inductive AP where
 |ce (d f:Nat) (xs:List X)
 |cd (d:Nat) (x:X) (xs:List X)
 |pn (d:Nat) (x:X)
inductive AC2 where
 |c (a:AC)
 |rp (l:List AOp) (o:AP) (l':List AOp)
 |sq (a b:AC2)
 |cd (x:X) (a b:AC2)
 |bl (i:Nat) (a:AC2)
 |lp (a:AC2)
 |sc (a:AC2)

section
variable (S:Nat→Nat→In→Out→Prop) (SP:Nat→Nat→In→Out→Prop) (R:AV→St→Prop)
def callP (d:Nat) (σ:St) (xs:List X) (I:In) (O:Out):St:=⟨(d,.undef)::(callSt d σ xs I O).e,(callSt d σ xs I O).bx,dlS (callSt d σ xs I O).pm d⟩
def wpCP (f d:Nat) (xs:List X) (σ:St):Prop:= ∃I O,SP f d I O∧CallOk d σ xs I O∧O.r.ids=[]∧R O.r (callP d σ xs I O)
def wpo:AP→(St→Prop)→St→Prop
 | .ce d f xs,K,σ=>wpC S f d xs K σ∨wpCP SP R f d xs σ
 | .cd d x xs,K,σ=>match σ.v x with
  | .fn f caps=>wpC S f d (xs++caps.map X.c) K σ∨wpCP SP R f d (xs++caps.map X.c) σ
  |_=>False
 | .pn _ x,_,σ=>match σ.v x with
  | .ifc T v=>v.ids=[]∧R (.ifc T v) σ
  |_=>False
def wpA2:AC2→(AE→St→Prop)→St→Prop
 | .c a,Q,σ=>wpA S a Q σ
 | .rp l o l',Q,σ=>wpL S l (wpo S SP R o (wpL S l' (Q .n))) σ
 | .sq a b,Q,σ=>wpA2 a (AE.sq (wpA2 b Q) Q) σ
 | .cd x a b,Q,σ=>match σ.v x with
  | .bool t=>if t=true then wpA2 a Q σ else wpA2 b Q σ
  |_=>False
 | .bl i a,Q,σ=>wpA2 a (AE.bl i Q) σ
 | .lp a,Q,σ=> ∃n,itA (wpA2 a) Q n σ
 | .sc a,Q,σ=>wpA2 a Q σ
end
theorem wpA_mono {S:Nat→Nat→In→Out→Prop}: ∀ {c:AC} {Q Q':AE→St→Prop} {σ:St},(∀e σ,Q e σ→Q' e σ)→wpA S c Q σ→wpA S c Q' σ:=by
 intro c
 have m1: ∀ {o:AOp} {K K':St→Prop} {σ:St},(∀σ,K σ→K' σ)→wp1 S o K σ→wp1 S o K' σ:=fun hk h=>wp1_mono hk h
 have mL: ∀ {l:List AOp} {K K':St→Prop} {σ:St},(∀σ,K σ→K' σ)→wpL S l K σ→wpL S l K' σ:=by
  intro l
  induction l with
  |nil=>intro K K' σ hk h;exact hk _ h
  |cons o r ih=>intro K K' σ hk h;exact m1 (fun σ h=>ih hk h) h
 have mD: ∀ {us:List (List Nat)} {l:List AOp} {j:Nat} {h:List (Nat×Bx)} {K K':St→Prop} {σ:St},(∀σ,K σ→K' σ)→wpLd S us l j h K σ→wpLd S us l j h K' σ:=by
  intro us
  induction us with
  |nil=>intro l j h K K' σ hk hw;cases l with
   |nil=>exact hk _ hw
   |cons=>exact hw.elim
  |cons u us ih=>intro l j h K K' σ hk hw;cases l with
   |nil=>exact hw.elim
   |cons o r=>exact ⟨hw.1,m1 (fun σ h=>kpK_iff.2 ⟨(kpK_iff.1 h).1,ih hk (kpK_iff.1 h).2⟩) hw.2⟩
 have sqm: ∀ {B B':St→Prop} {Q Q':AE→St→Prop},(∀σ,B σ→B' σ)→(∀e σ,Q e σ→Q' e σ)→ ∀e σ,AE.sq B Q e σ→AE.sq B' Q' e σ:=by
  intro B B' Q Q' hb hq e σ h
  cases e
  ·exact hb _ h
  ·exact hq _ _ h
  ·exact hq _ _ h
 induction c with
 |sk=>intro Q Q' σ hq h;exact hq _ _ h
 |rg l=>intro Q Q' σ hq h;exact mL (fun σ h=>hq _ _ h) h
 |rd us l=>intro Q Q' σ hq h;exact mD (fun σ h=>hq _ _ h) h
 |sq a b iha ihb=>intro Q Q' σ hq h;exact iha (sqm (fun σ h=>ihb hq h) hq) h
 |cd x a b iha ihb=>
  intro Q Q' σ hq h
  unfold wpA at h ⊢
  split at h
  ·rename_i t ht
   split at h
   ·rename_i e;rw [if_pos e];exact iha hq h
   ·rename_i e;rw [if_neg e];exact ihb hq h
  ·cases h
 |bl i a ih=>
  intro Q Q' σ hq h
  refine ih (fun e σ h=>?_) h
  cases e
  ·exact hq _ _ h
  ·rename_i j
   unfold AE.bl at h ⊢
   by_cases e:j=i
   ·simp only [if_pos e] at h ⊢;exact hq _ _ h
   ·simp only [if_neg e] at h ⊢;exact hq _ _ h
  ·exact hq _ _ h
 |lp a ih=>
  intro Q Q' σ hq h
  obtain ⟨n,hn⟩:=h
  refine ⟨n,?_⟩
  induction n generalizing σ with
  |zero=>exact hn
  |succ n ihn=>
   obtain ⟨τ,hτ,hb⟩:=hn
   exact ⟨τ,hτ,ih (sqm (fun σ h=>ihn h) hq) hb⟩
 |ex i=>intro Q Q' σ hq h;exact hq _ _ h
 |rt=>intro Q Q' σ hq h;exact hq _ _ h
 |sc a ih=>intro Q Q' σ hq h;exact ih hq h
 |lb=>intro Q Q' σ hq h;exact hq _ _ h
 |no=>intro Q Q' σ hq h;exact h
 |fz s l=>intro Q Q' σ hq h;obtain ⟨b,n,sz,rows,tl,q1,q2,q3⟩:=h;exact ⟨b,n,sz,rows,tl,q1,q2,mL (fun σ h=>hq _ _ h) q3⟩

theorem wpL_mono {S:Nat→Nat→In→Out→Prop}: ∀ {l:List AOp} {K K':St→Prop} {σ:St},(∀σ,K σ→K' σ)→wpL S l K σ→wpL S l K' σ:=by
 intro l
 induction l with
 |nil=>intro K K' σ hk h;exact hk _ h
 |cons o r ih=>intro K K' σ hk h;exact wp1_mono (fun σ h=>ih hk h) h
theorem wpo_mono {S SP:Nat→Nat→In→Out→Prop} {R:AV→St→Prop} {K K':St→Prop} (hk: ∀σ,K σ→K' σ): ∀ {o:AP} {σ:St},wpo S SP R o K σ→wpo S SP R o K' σ:=by
 intro o σ h
 cases o with
 |ce d f xs=>
  rcases h with ⟨I,O,h1,h2,h3⟩|h
  ·exact .inl ⟨I,O,h1,h2,hk _ h3⟩
  ·exact .inr h
 |cd d x xs=>
  simp only [wpo] at h ⊢
  split at h
  ·rcases h with ⟨I,O,h1,h2,h3⟩|h
   ·exact .inl ⟨I,O,h1,h2,hk _ h3⟩
   ·exact .inr h
  ·cases h
 |pn d x=>exact h
theorem sq_mono {B B':St→Prop} {Q Q':AE→St→Prop} (hb: ∀σ,B σ→B' σ) (hq: ∀e σ,Q e σ→Q' e σ): ∀e σ,AE.sq B Q e σ→AE.sq B' Q' e σ:=by
 intro e σ h
 cases e
 ·exact hb _ h
 ·exact hq _ _ h
 ·exact hq _ _ h
theorem wpA2_mono {S SP:Nat→Nat→In→Out→Prop} {R:AV→St→Prop}: ∀ {c:AC2} {Q Q':AE→St→Prop} {σ:St},(∀e σ,Q e σ→Q' e σ)→wpA2 S SP R c Q σ→wpA2 S SP R c Q' σ:=by
 intro c
 induction c with
 |c a=>intro Q Q' σ hq h;exact wpA_mono hq h
 |rp l o l'=>intro Q Q' σ hq h;exact wpL_mono (fun σ h=>wpo_mono (fun σ h=>wpL_mono (fun σ h=>hq _ _ h) h) h) h
 |sq a b iha ihb=>intro Q Q' σ hq h;exact iha (sq_mono (fun σ h=>ihb hq h) hq) h
 |cd x a b iha ihb=>
  intro Q Q' σ hq h
  unfold wpA2 at h ⊢
  split at h
  ·rename_i t ht
   split at h
   ·rename_i e;rw [if_pos e];exact iha hq h
   ·rename_i e;rw [if_neg e];exact ihb hq h
  ·cases h
 |bl i a ih=>
  intro Q Q' σ hq h
  refine ih (fun e σ h=>?_) h
  cases e
  ·exact hq _ _ h
  ·rename_i j
   unfold AE.bl at h ⊢
   by_cases e:j=i
   ·simp only [if_pos e] at h ⊢;exact hq _ _ h
   ·simp only [if_neg e] at h ⊢;exact hq _ _ h
  ·exact hq _ _ h
 |lp a ih=>
  intro Q Q' σ hq h
  obtain ⟨n,hn⟩:=h
  refine ⟨n,?_⟩
  induction n generalizing σ with
  |zero=>exact hn
  |succ n ihn=>
   obtain ⟨τ,hτ,hb⟩:=hn
   exact ⟨τ,hτ,ih (sq_mono (fun σ h=>ihn h) hq) hb⟩
 |sc a ih=>intro Q Q' σ hq h;exact ih hq h
theorem wp_lp2 {S SP:Nat→Nat→In→Out→Prop} {R:AV→St→Prop} {α:Type} {c:AC2} {Q:AE→St→Prop} (st:α→St) (I:α→Prop) (μ:α→Nat)
  (step: ∀x,I x→wpA2 S SP R c (AE.sq (lpQ st I μ x) Q) (st x)) {σ:St} (x:α) (hx:I x) (hw:Weak σ (st x)):wpA2 S SP R (.lp c) Q σ:=by
 have key: ∀n x,μ x<n→I x→ ∀σ,WeakR σ (st x)→itA (wpA2 S SP R c) Q n σ:=by
  intro n
  induction n with
  |zero=>intro x h;omega
  |succ n ih=>
   intro x hn hx σ hw
   refine ⟨st x,hw,wpA2_mono ?_ (step x hx)⟩
   intro e σ' h
   cases e
   ·obtain ⟨y,hy,hlt,hwy⟩:=h
    exact ih y (by omega) hy σ' hwy
   ·exact h
   ·exact h
 exact ⟨μ x+1,key _ x (by omega) hx σ (.inl hw)⟩
theorem wp_lpk2 {S SP:Nat→Nat→In→Out→Prop} {R:AV→St→Prop} {α:Type} {c:AC2} {Q:AE→St→Prop} (st:α→St) (I:α→Prop) (μ:α→Nat)
  (step: ∀(K:St→Prop) (x:α),(∀(y:α) (σ':St),I y→μ y<μ x→Weak σ' (st y)→K σ')→I x→wpA2 S SP R c (AE.sq K Q) (st x)) {σ:St} (x:α) (hx:I x) (hw:Weak σ (st x)):wpA2 S SP R (.lp c) Q σ:=
 wp_lp2 st I μ (fun x hx=>step (lpQ st I μ x) x (fun y σ' h1 h2 h3=>lpQ_mk y h1 h2 h3) hx) x hx hw

def mAP (P:Program) (GL:List (Nat×List Value)) (N:Nat) (o:Oper):AP→Bool
 | .ce d f xs=>o.guard.isNone&&mt1 P GL N o (.ce d f xs)
 | .cd d x xs=>o.guard.isNone&&mt1 P GL N o (.cd d x xs)
 | .pn _ x=>o.guard.isNone&&(match o.op with | .panic y=>mX GL x y|_=>false)
def mts3 (P:Program) (GL:List (Nat×List Value)) (N:Nat) (ops:Array Oper) (os:List Oper) (l:List AOp) (p:AP) (l':List AOp):Bool:=match os.drop l.length with
 |o::r=>mts P GL N ops (os.take l.length) l&&mAP P GL N o p&&mts P GL N ops r l'
 |[]=>false
def mC2 (P:Program) (GL:List (Nat×List Value)) (N:Nat) (dr:Array Oper→List (List Nat)→List AOp→Bool):Code→AC2→Bool
 |c,.c a=>mC P GL N dr c a
 | .region _ ops false,.rp l o l'=>mts3 P GL N ops ops.toList l o l'
 | .seq x y,.sq x' y'=>mC2 P GL N dr x x'&&mC2 P GL N dr y y'
 | .cond c x y,.cd c' x' y'=>mX GL c' c&&mC2 P GL N dr x x'&&mC2 P GL N dr y y'
 | .block i x,.bl j x'=>i==j&&mC2 P GL N dr x x'
 | .loop x,.lp x'=>mC2 P GL N dr x x'
 | .scope x,.sc x'=>mC2 P GL N dr x x'
 |_,_=>false
theorem Rel.unput {e:List (Nat×AV)} {bx:List (Id×List AV)} {pm:List (Pl×Nat)} {d:Nat} {u:Value} (hd:d<F.N) (h:Rel F S gb ⟨e,bx,pm⟩ (a.put (some d) u) w):Rel F S gb ⟨(d,.undef)::e,bx,dlS pm d⟩ a w:=by
 have hs:a.tmps.size=F.N:=by have:=h.size;simpa [Act.put] using this
 have hd':d<a.tmps.size:=by rw [hs];exact hd
 have hat: ∀p k,lkP (dlS pm d) p=some k→p.at d=false∧lkP pm p=some k:=by
  intro p k hk
  rw [lkP_dlS] at hk
  split at hk
  ·cases hk
  ·rename_i hne;exact ⟨by simpa using hne,hk⟩
 refine ⟨h.defers,hs,h.bw,h.ext,h.le,?_,⟨h.hr.agree,h.hr.box,h.hr.its,h.hr.inj,?_,?_,?_,?_⟩,h.newb,?_,h.dom,h.up,h.glo⟩
 ·intro t
  simp only [lk]
  split
  ·simp [PR]
  ·rename_i ne
   have:=h.env t
   rwa [tv_put hd',if_neg ne] at this
 ·intro p k hk
  obtain ⟨h1,h2⟩:=hat p k hk
  have:=h.hr.own p k h2
  rwa [plv_put hd' h1] at this
 ·intro p q k l b hk hl h1 h2
  obtain ⟨p1,p2⟩:=hat p k hk
  obtain ⟨q1,q2⟩:=hat q l hl
  rw [←plv_put (u:=u) hd' p1] at h1
  rw [←plv_put (u:=u) hd' q1] at h2
  exact h.hr.ownd p q k l b p2 q2 h1 h2
 ·intro p k b d' z hk h1
  obtain ⟨p1,p2⟩:=hat p k hk
  rw [←plv_put (u:=u) hd' p1] at h1
  exact h.hr.ownb p k b d' z p2 h1
 ·intro e off k hk;exact h.hr.pmb e off k (hat _ k hk).2
 ·intro p k g hk hg
  obtain ⟨p1,p2⟩:=hat p k hk
  rw [←plv_put (u:=u) hd' p1] at hg
  exact h.newo p k g p2 hg
theorem callP_sound (h:Rel F S gb σ a w) {o:Oper} {d f:Nat} (h2:d<F.N) (h1:o.dst=some d) {xs:List X} {vs:List Value} (hl:PRlist S gb (xs.map σ.v) vs) (hsl: ∀(i t:Nat),xs[i]?=some (X.s t)→vs[i]?=some (tv a t))
  (hrun:(execOp a.eval o).run P w=(callFunc f vs.toArray).run P w) {R:AV→St→Prop} (hw:wpCP (SpecP P F.GL) R f d xs σ) {K':Act→World→Prop} {Q:Exit→Act→World→Prop}
  (hR: ∀v u S gb σ a w,Rel F S gb σ a w→R v σ→PR S gb v u→v.ids=[]→Q (.panic (thrown u)) a w):o.wp P a w K' Q:=by
 obtain ⟨I,O,hspec,hc,hi,hr⟩:=hw
 have hent:=call_entry h hc hl hsl
 have hvs:PRlist S gb I.vs vs:=wkL_PR hc.vs hl
 have hglo: ∀i us,F.GL.lookup i=some us→ ∀(o:Nat) (u:Value),us[o]?=some u→S i o=some u∧u.oneCell'=true:=fun i us hi o u hu=>⟨h.le _ _ _ (h.glo i us hi o u hu).1,(h.glo i us hi o u hu).2⟩
 have hgn: ∀i,i.isNw d=true→gb i=none:=by
  intro i hi
  cases hg:gb i with
  |none=>rfl
  |some x=>
   rcases h.dom i (by rw [hg];simp) with h1|h1
   ·obtain ⟨cs,hcs⟩:=Option.isSome_iff_exists.1 h1
    have:=hc.free _ (lkB_mem _ _ _ hcs)
    simp only at this
    rw [this] at hi;cases hi
   ·cases i<;>simp [Id.isUp,Id.isNw] at h1 hi
 have hd:=hspec S gb w vs hvs hent hglo hgn
 unfold Oper.wp
 rw [hrun]
 unfold DoesP at hd
 split at hd
 ·rename_i f' as' w' he
  rw [he]
  simp only [Oper.upon_enter]
  refine hd.mono ?_
  rintro e w'' ⟨u,rfl,S',gb',hp⟩
  exact hR O.r u S' gb' _ a w'' ((h.call h2 hc hl hsl hp).unput h2) hr hp.r hi
 ·exact hd.elim
theorem opP_sound (h:Rel F S gb σ a w) {o:Oper} {p:AP} (hm:mAP P F.GL F.N o p=true) {R:AV→St→Prop} {K:St→Prop} (hw:wpo (Spec P F.GL) (SpecP P F.GL) R p K σ) {K':Act→World→Prop} {Q:Exit→Act→World→Prop}
  (hK: ∀S gb σ a w,Rel F S gb σ a w→K σ→K' a w) (hR: ∀v u S gb σ a w,Rel F S gb σ a w→R v σ→PR S gb v u→v.ids=[]→Q (.panic (thrown u)) a w):o.guard=none∧o.wp P a w K' Q:=by
 cases p with
 |ce d f xs=>
  simp only [mAP,Bool.and_eq_true,Option.isNone_iff_eq_none] at hm
  refine ⟨hm.1,?_⟩
  rcases hw with hw|hw
  ·exact op1_sound h hm.2 (ao:= .ce d f xs) (K:=K) (by simpa only [wp1] using hw) hK
  ·have hm:=hm.2
   simp only [mt1,Bool.and_eq_true,slotOk_iff] at hm
   obtain ⟨⟨h1,h2⟩,hm⟩:=hm
   split at hm<;>(try cases hm)
   rename_i f' as ts hop
   simp only [Bool.and_eq_true,beq_iff_eq] at hm
   obtain ⟨rfl,hxs⟩:=hm
   refine callP_sound h h2 h1 (mXs_sound h hxs) (fun i t hi=>mXs_slot hxs hi) ?_ hw hR
   have harr:(List.map a.eval as.toList).toArray=as.map a.eval:=by
    apply Array.ext';simp
   rw [harr]
   unfold execOp
   simp [hop,resolve,Act.eval,Deferred.ofValue,invoke]
 |cd d x xs=>
  simp only [mAP,Bool.and_eq_true,Option.isNone_iff_eq_none] at hm
  refine ⟨hm.1,?_⟩
  simp only [wpo] at hw
  split at hw
  ·rename_i f caps hv
   rcases hw with hw|hw
   ·exact op1_sound h hm.2 (ao:= .cd d x xs) (K:=K) (by simp only [wp1,hv];exact hw) hK
   ·have hm:=hm.2
    simp only [mt1,Bool.and_eq_true,slotOk_iff] at hm
    obtain ⟨⟨h1,h2⟩,hm⟩:=hm
    split at hm<;>(try cases hm)
    rename_i f' as ts hop
    simp only [Bool.and_eq_true] at hm
    obtain ⟨hx,hxs⟩:=hm
    have hx:=mX_sound h hx
    rw [hv] at hx
    simp only [PR] at hx
    obtain ⟨us,hx,hcaps⟩:=hx
    have hl:=mXs_sound h hxs
    have hall:PRlist S gb ((xs++caps.map X.c).map σ.v) (List.map a.eval as.toList++us.toList):=by
     rw [List.map_append]
     refine hl.append ?_
     have:(List.map σ.v (caps.map X.c))=caps:=by
      rw [List.map_map]
      exact (List.map_congr_left (fun c _=>rfl)).trans (List.map_id _)
     rw [this];exact hcaps
    have hlen:(List.map a.eval as.toList).length=xs.length:=by
     have:=hl.length
     simpa using this.symm
    refine callP_sound h h2 h1 hall (fun i t hi=>?_) ?_ hw hR
    ·rw [List.getElem?_append] at hi
     split at hi
     ·rename_i hlt
      rw [List.getElem?_append_left (by omega)]
      exact mXs_slot hxs hi
     ·rw [List.getElem?_map] at hi
      cases hq:caps[i - xs.length]? with
      |none=>rw [hq] at hi;cases hi
      |some c=>rw [hq] at hi;cases hi
    ·have harr:(List.map a.eval as.toList++us.toList).toArray=as.map a.eval++us:=by
      apply Array.ext';simp
     rw [harr]
     unfold execOp
     simp [hop,resolve,hx,Deferred.ofValue,invoke]
  ·cases hw
 |pn d x=>
  simp only [mAP,Bool.and_eq_true,Option.isNone_iff_eq_none] at hm
  obtain ⟨hg,hm⟩:=hm
  refine ⟨hg,?_⟩
  split at hm<;>(try cases hm)
  rename_i y hop
  have hx:=mX_sound h hm
  simp only [wpo] at hw
  split at hw
  ·rename_i T v hv
   obtain ⟨hi,hr⟩:=hw
   rw [hv] at hx
   have hx':=hx
   simp only [PR] at hx
   obtain ⟨u,hu,_⟩:=hx
   unfold Oper.wp execOp
   simp only [hop]
   rw [hu] at hx' ⊢
   simp [Instr.panic,goPanic]
   exact hR _ _ S gb σ a w h hr hx' (by simpa [AV.ids] using hi)
  ·cases hw
theorem list_sound_app {ops:Array Oper} {rest:List Oper} {K:St→Prop} {Q:Exit→Act→World→Prop} (hQ: ∀S gb σ a w,Rel F S gb σ a w→K σ→wpList P ops Q rest a w):
  ∀ {l:List Oper} {al:List AOp},mts P F.GL F.N ops l al=true→ ∀ {S:Mem} {gb:Gb} {σ:St} {a:Act} {w:World},Rel F S gb σ a w→wpL (Spec P F.GL) al K σ→wpList P ops Q (l++rest) a w
 |[],al,hm,S,gb,σ,a,w,h,hw=>by
  cases al<;>simp [mts] at hm
  exact hQ _ _ _ _ _ h hw
 |o::r,al,hm,S,gb,σ,a,w,h,hw=>by
  cases al with
  |nil=>simp [mts] at hm
  |cons ao s=>
   simp only [mts,Bool.and_eq_true] at hm
   simp only [wpL] at hw
   have:=opg_sound h hm.1 hw (K':=wpList P ops Q (r++rest)) (Q:=Q) (fun S gb σ a w h' hk=>list_sound_app hQ hm.2 h' hk)
   rw [List.cons_append]
   simp only [wpList]
   split
   ·rename_i hc;rw [if_pos hc] at this;exact .inl this
   ·rename_i hc;rw [if_neg hc] at this;exact this
theorem list3_sound {ops:Array Oper} {os:List Oper} {l:List AOp} {p:AP} {l':List AOp} (hm:mts3 P F.GL F.N ops os l p l'=true) {R:AV→St→Prop} {K:St→Prop} {Q:Exit→Act→World→Prop} (hQ: ∀S gb σ a w,Rel F S gb σ a w→K σ→Q .normal a w)
  (hR: ∀v u S gb σ a w,Rel F S gb σ a w→R v σ→PR S gb v u→v.ids=[]→Q (.panic (thrown u)) a w) (h:Rel F S gb σ a w) (hw:wpL (Spec P F.GL) l (wpo (Spec P F.GL) (SpecP P F.GL) R p (wpL (Spec P F.GL) l' K)) σ):wpList P ops Q os a w:=by
 unfold mts3 at hm
 split at hm
 ·rename_i o r hd
  simp only [Bool.and_eq_true] at hm
  have e:os=os.take l.length++o::r:=by rw [←hd,List.take_append_drop]
  rw [e]
  refine list_sound_app (K:=wpo (Spec P F.GL) (SpecP P F.GL) R p (wpL (Spec P F.GL) l' K)) ?_ hm.1.1 h hw
  intro S gb σ a w h hw
  obtain ⟨hg,hwp⟩:=opP_sound (Q:=Q) (K':=wpList P ops Q r) h hm.1.2 hw (fun S gb σ a w h hk=>list_sound hQ hm.2 h hk) hR
  simp only [wpList]
  rw [if_pos (by simp [Region.wanted,hg])]
  exact .inl hwp
 ·cases hm
theorem code2_sound {dr:Array Oper→List (List Nat)→List AOp→Bool} (hd:DrawsOk P F.GL F.N dr) {R:AV→St→Prop}: ∀ {c:Code} {ac:AC2},mC2 P F.GL F.N dr c ac=true→ ∀ {Q:AE→St→Prop} {Q':Exit→Act→World→Prop},(∀e S gb σ a w,Rel F S gb σ a w→Q e σ→Q' (toE e) a w)→
  (∀v u S gb σ a w,Rel F S gb σ a w→R v σ→PR S gb v u→v.ids=[]→Q' (.panic (thrown u)) a w)→
  ∀ {S:Mem} {gb:Gb} {σ:St} {a:Act} {w:World},Rel F S gb σ a w→wpA2 (Spec P F.GL) (SpecP P F.GL) R ac Q σ→c.wp P Q' a w:=by
 intro c
 have plain: ∀(c:Code) {ac:AC2} {a':AC},ac= .c a'→mC2 P F.GL F.N dr c ac=true→ ∀ {Q:AE→St→Prop} {Q':Exit→Act→World→Prop},(∀e S gb σ a w,Rel F S gb σ a w→Q e σ→Q' (toE e) a w)→
   ∀ {S:Mem} {gb:Gb} {σ:St} {a:Act} {w:World},Rel F S gb σ a w→wpA2 (Spec P F.GL) (SpecP P F.GL) R ac Q σ→c.wp P Q' a w:=by
  intro c ac a' e hm Q Q' hQ S gb σ a w h hw
  subst e
  have hm':mC P F.GL F.N dr c a'=true:=by cases c<;>simpa only [mC2] using hm
  exact code_sound hd hm' hQ h hw
 induction c with
 |region id ops draw=>
  intro ac hm Q Q' hQ hR S gb σ a w h hw
  cases ac
  case c a'=>exact plain _ rfl hm hQ h hw
  case rp l o l'=>
   cases draw<;>simp [mC2] at hm
   exact wp_region_list (list3_sound hm (fun S gb σ a w h' hk=>hQ .n _ _ _ _ _ h' hk) hR h hw)
  all_goals (cases draw<;>simp [mC2] at hm)
 |seq x y ihx ihy=>
  intro ac hm Q Q' hQ hR S gb σ a w h hw
  cases ac
  case c a'=>exact plain _ rfl hm hQ h hw
  case sq x' y'=>
   simp only [mC2,Bool.and_eq_true] at hm
   refine wp_seq (ihx hm.1 (Q:=AE.sq (wpA2 (Spec P F.GL) (SpecP P F.GL) R y' Q) Q) ?_ ?_ h hw)
   ·intro e S gb σ a w h' hq
    cases e
    ·exact ihy hm.2 hQ hR h' hq
    ·exact hQ (.x _) _ _ _ _ _ h' hq
    ·exact hQ .r _ _ _ _ _ h' hq
   ·exact hR
  all_goals simp [mC2] at hm
 |cond c x y ihx ihy=>
  intro ac hm Q Q' hQ hR S gb σ a w h hw
  cases ac
  case c a'=>exact plain _ rfl hm hQ h hw
  case cd c' x' y'=>
   simp only [mC2,Bool.and_eq_true] at hm
   obtain ⟨⟨hc,hx⟩,hy⟩:=hm
   have hv:=mX_sound h hc
   simp only [wpA2] at hw
   split at hw
   ·rename_i t ht
    rw [ht] at hv
    simp only [PR] at hv
    refine wp_cond hv ?_
    cases t
    ·exact ihy hy hQ hR h (by simpa using hw)
    ·exact ihx hx hQ hR h (by simpa using hw)
   ·cases hw
  all_goals simp [mC2] at hm
 |block i x ih=>
  intro ac hm Q Q' hQ hR S gb σ a w h hw
  cases ac
  case c a'=>exact plain _ rfl hm hQ h hw
  case bl j x'=>
   simp only [mC2,Bool.and_eq_true,beq_iff_eq] at hm
   obtain ⟨rfl,hx⟩:=hm
   refine wp_block (ih hx (Q:=AE.bl i Q) ?_ ?_ h hw)
   ·intro e S gb σ a w h' hq
    cases e
    ·exact hQ .n _ _ _ _ _ h' hq
    ·rename_i j
     simp only [toE,Exit.inBlock]
     simp only [AE.bl] at hq
     split at hq
     ·rename_i e;rw [if_pos e];exact hQ .n _ _ _ _ _ h' hq
     ·rename_i e;rw [if_neg e];exact hQ (.x _) _ _ _ _ _ h' hq
    ·exact hQ .r _ _ _ _ _ h' hq
   ·exact hR
  all_goals simp [mC2] at hm
 |loop x ih=>
  intro ac hm Q Q' hQ hR S gb σ a w h hw
  cases ac
  case c a'=>exact plain _ rfl hm hQ h hw
  case lp x'=>
   simp only [mC2] at hm
   simp only [wpA2] at hw
   obtain ⟨n,hn⟩:=hw
   intro b k cs
   have key: ∀n S gb σ a w,Rel F S gb σ a w→itA (wpA2 (Spec P F.GL) (SpecP P F.GL) R x') Q n σ→ ∃e a' w',Q' e a' w'∧Arrives P (lone (b.at a (.code x:: .inLoop x::k)) cs w) b k cs e a' w':=by
    intro n
    induction n with
    |zero=>intro S gb σ a w h hn;exact hn.elim
    |succ n ihn=>
     intro S gb σ a w h hn
     obtain ⟨τ,hτ,hb⟩:=hn
     obtain ⟨gb',h'⟩:=h.weakR hτ
     obtain ⟨e,a₁,w₁,hq,harr⟩:=ih hm (Q:=AE.sq (itA (wpA2 (Spec P F.GL) (SpecP P F.GL) R x') Q n) Q) (Q':=Exit.then (fun a w=> ∃S gb σ,Rel F S gb σ a w∧itA (wpA2 (Spec P F.GL) (SpecP P F.GL) R x') Q n σ) Q') (by
      intro e S gb σ a w h'' hq
      cases e
      ·exact ⟨_,_,_,h'',hq⟩
      ·exact hQ (.x _) _ _ _ _ _ h'' hq
      ·exact hQ .r _ _ _ _ _ h'' hq) hR h' hb b (.inLoop x::k) cs
     cases e with
     |normal=>
      obtain ⟨S1,gb1,σ1,h1,hi1⟩:=hq
      obtain ⟨e₂,a₂,w₂,hq₂,harr₂⟩:=ihn _ _ _ _ _ h1 hi1
      exact ⟨e₂,a₂,w₂,hq₂,.of_steps (Steps.trans harr (.one step_inLoop)) harr₂⟩
     |exit id=>exact ⟨_,a₁,w₁,hq,.pass (x:= .inLoop x) rfl (fun _ _=> .inl (by simp)) harr⟩
     |goto l=>exact ⟨_,a₁,w₁,hq,.pass (x:= .inLoop x) rfl (fun _ _=> .inl (by simp)) harr⟩
     |ret=>exact ⟨_,a₁,w₁,hq,.pass (x:= .inLoop x) rfl (fun _ _=> .inl (by simp)) harr⟩
     |panic ch=>exact ⟨_,a₁,w₁,hq,.pass (x:= .inLoop x) rfl (fun _ _=> .inl (by simp)) harr⟩
     |outgrown=>exact ⟨_,a₁,w₁,hq,.pass (x:= .inLoop x) rfl (fun _ _=> .inl (by simp)) harr⟩
   obtain ⟨e,a',w',hq,harr⟩:=key n _ _ _ _ _ h hn
   exact ⟨e,a',w',hq,.of_steps (.one step_loop) harr⟩
  all_goals simp [mC2] at hm
 |scope x ih=>
  intro ac hm Q Q' hQ hR S gb σ a w h hw
  cases ac
  case c a'=>exact plain _ rfl hm hQ h hw
  case sc x'=>
   simp only [mC2] at hm
   refine wp_scope_straight (ih hm (Q:=Q) ?_ ?_ h hw)
   ·intro e S gb σ a w h' hq
    cases e<;>exact hQ _ _ _ _ _ _ h' hq
   ·exact hR
  all_goals simp [mC2] at hm
 |_=>
  intro ac hm Q Q' hQ hR S gb σ a w h hw
  cases ac
  case c a'=>exact plain _ rfl hm hQ h hw
  all_goals simp [mC2] at hm

structure AF2 where
 c:AC2
 rs:List AR
 np:Nat
 N:Nat
def mF2 (P:Program) (GL:List (Nat×List Value)) (dr:Array Oper→List (List Nat)→List AOp→Bool) (fn:Func) (f:AF2):Bool:=
 fn.name != "runtime.NumGoroutine"&&fn.params.size+fn.nfree==f.np&&fn.ntmps==f.N&&Nat.ble f.np f.N&&mRs P f.rs fn.results.toList&&(match fn.body with |some c=>mC2 P GL f.N dr c f.c|none=>false)
@[irreducible] def SpT (P:Program) (GL:List (Nat×List Value)) (f d:Nat) (I:In) (O:Out):Prop:=SpecP P GL f d I O
theorem spt_eq (P:Program) (GL:List (Nat×List Value)):SpT P GL=SpecP P GL:=by funext f d I O;unfold SpT;rfl
def postT (d:Nat) (O:Out) (v:AV) (σ:St):Prop:=v=O.r∧(∀p∈O.pm,∃b o,p.1= .b b o)∧OutOk d [] ⟨.tup [],O.bx,O.pm⟩ σ
theorem HR.svB {bx:List (Id×List AV)} {pm:List (Pl×Nat)} {sv sv':Nat→Value} (h:HR S gb bx pm sv w) (hp: ∀p k,lkP pm p=some k→ ∃b o,p= .b b o):HR S gb bx pm sv' w:=by
 have e: ∀p k,lkP pm p=some k→plv gb sv' w p=plv gb sv w p:=by
  intro p k hk
  obtain ⟨b,o,rfl⟩:=hp p k hk
  rfl
 refine ⟨h.agree,h.box,h.its,h.inj,?_,?_,?_,h.pmb⟩
 ·intro p k hk;rw [e p k hk];exact h.own p k hk
 ·intro p q k l b hk hl h1 h2
  rw [e p k hk] at h1
  rw [e q l hl] at h2
  exact h.ownd p q k l b hk hl h1 h2
 ·intro p k b d z hk h1
  rw [e p k hk] at h1
  exact h.ownb p k b d z hk h1
theorem fun_soundP {GL:List (Nat×List Value)} {dr:Array Oper→List (List Nat)→List AOp→Bool} {f:Nat} {fn:Func} {af:AF2} (hf:P.funcs[f]?=some fn) (hm:mF2 P GL dr fn af=true) (hd:DrawsOk P GL af.N dr) {d:Nat} {I:In} {O:Out} (hl:I.vs.length=af.np)
  (hw:wpA2 (Spec P GL) (SpecP P GL) (postT d O) af.c (fun _ _=>False) (inSt I)):SpecP P GL f d I O:=by
 simp only [mF2,Bool.and_eq_true,bne_iff_ne,beq_iff_eq] at hm
 obtain ⟨⟨⟨⟨⟨h1,h2⟩,h3⟩,h4⟩,h5⟩,h6⟩:=hm
 split at h6<;>(try cases h6)
 rename_i c hb
 have h4:=Nat.le_of_ble_eq_true h4
 intro S gb w vs hvs hhr hglo hnw
 have hlen:vs.length=I.vs.length:=hvs.length.symm
 unfold DoesP
 have hcall:(callFunc f vs.toArray).run P w= .ok (.enter f vs.toArray) w:=by
  simp [callFunc,hf,hb,h1]
 rw [hcall]
 refine calls_of_wp hf hb ?_
 let F:Fr:=⟨S,w,MS I gb (fun t=>vs.getD t undef) w,gb,af.N,GL,[]⟩
 have hsv:tv {tmps:=vs.toArray++Array.replicate (fn.ntmps - vs.toArray.size) undef,defers:=[]}=fun t=>vs.getD t undef:=by
  funext t;exact tv_init
 have hup:=hhr.up
 have hrel:Rel F S (gbUp gb) (inSt I) {tmps:=vs.toArray++Array.replicate (fn.ntmps - vs.toArray.size) undef,defers:=[]} w:=by
  refine ⟨rfl,?_,Bw.refl _ _,fun _ _ _ _=>rfl,Mem.le.refl _,?_,by rw [hsv];exact hup,?_,?_,?_,fun d=>rfl,hglo⟩
  ·show (vs.toArray++Array.replicate (fn.ntmps - vs.toArray.size) undef).size=af.N
   simp;omega
  ·intro t
   have:=(lk_initE (PRlist_up _ _ hvs) 0 t).2 t (by omega)
   rw [tv_init]
   exact this
  ·intro i g z hi hq
   obtain ⟨c1,hc1⟩:=Option.isSome_iff_exists.1 hi
   obtain ⟨j,cs,rfl,hj,_⟩:=lkB_mpB_some up_inj hc1
   exact .inr (.inl ⟨j,z,by rw [hj];rfl,hq⟩)
  ·intro p k g hp hg
   obtain ⟨q,rfl,hq⟩:=lkP_mpP up_inj hp
   rw [hsv,plv_up] at hg
   exact .inr (.inr ⟨q,k,hq,hg⟩)
  ·intro i hi
   cases i<;>simp [gbUp,Id.isUp] at hi ⊢
 refine code2_sound (F:=F) hd h6 (Q:=fun _ _=>False) (R:=postT d O) (fun _ _ _ _ _ _ _ hq=>hq.elim) ?_ hrel hw
 rintro v u S' gb' σ' a' w' hr ⟨rfl,hpm,hok⟩ hp hi
 have hv:resA σ' []=some []:=rfl
 obtain ⟨o1,o2,o3,o4⟩:=hr.out hok hv (us:=[]) (by simp [PRlist]) (fun i s hi=>by simp at hi) rfl
 refine ⟨hr.defers,u,rfl,S',gbOut d gb' O.bx,hr.bw,hr.ext,hr.le,?_,?_,PR.noids _ _ hi hp,o2.svB (fun p k hk=>hpm _ (lkP_mem _ _ _ hk)),o3,?_⟩
 ·intro i hi
  have:gbOut d gb' O.bx i=gb' (i.inn d):=gbOut_ok (fun e=>by rw [hi] at e;cases e)
  rw [this,inn_notNw hi]
  exact hr.up i
 ·intro i hi hne
  simp only [gbOut] at hne
  split at hne
  ·exact absurd rfl hne
  ·rename_i hno
   cases hs:(lkB O.bx i).isSome with
   |true=>rfl
   |false=>exact absurd ⟨hi,hs⟩ hno
 ·intro p k g hk hg
  obtain ⟨b,o,e⟩:=hpm _ (lkP_mem _ _ _ hk)
  simp only at e
  subst e
  exact o4 _ k g hk hg
theorem fun_soundR {GL:List (Nat×List Value)} {dr:Array Oper→List (List Nat)→List AOp→Bool} {f:Nat} {fn:Func} {af:AF2} (hf:P.funcs[f]?=some fn) (hm:mF2 P GL dr fn af=true) (hd:DrawsOk P GL af.N dr) {d:Nat} {I:In} {O:Out} (hl:I.vs.length=af.np)
  (hw:wpA2 (Spec P GL) (SpecP P GL) (fun _ _=>False) af.c (postH d af.rs O) (inSt I)):Spec P GL f d I O:=by
 simp only [mF2,Bool.and_eq_true,bne_iff_ne,beq_iff_eq] at hm
 obtain ⟨⟨⟨⟨⟨h1,h2⟩,h3⟩,h4⟩,h5⟩,h6⟩:=hm
 split at h6<;>(try cases h6)
 rename_i c hb
 have h4:=Nat.le_of_ble_eq_true h4
 intro S gb w vs hvs hhr hglo hnw
 have hlen:vs.length=I.vs.length:=hvs.length.symm
 unfold Does
 have hcall:(callFunc f vs.toArray).run P w= .ok (.enter f vs.toArray) w:=by
  simp [callFunc,hf,hb,h1]
 rw [hcall]
 refine calls_of_wp hf hb ?_
 let F:Fr:=⟨S,w,MS I gb (fun t=>vs.getD t undef) w,gb,af.N,GL,[]⟩
 have hsv:tv {tmps:=vs.toArray++Array.replicate (fn.ntmps - vs.toArray.size) undef,defers:=[]}=fun t=>vs.getD t undef:=by
  funext t;exact tv_init
 have hup:=hhr.up
 have hrel:Rel F S (gbUp gb) (inSt I) {tmps:=vs.toArray++Array.replicate (fn.ntmps - vs.toArray.size) undef,defers:=[]} w:=by
  refine ⟨rfl,?_,Bw.refl _ _,fun _ _ _ _=>rfl,Mem.le.refl _,?_,by rw [hsv];exact hup,?_,?_,?_,fun d=>rfl,hglo⟩
  ·show (vs.toArray++Array.replicate (fn.ntmps - vs.toArray.size) undef).size=af.N
   simp;omega
  ·intro t
   have:=(lk_initE (PRlist_up _ _ hvs) 0 t).2 t (by omega)
   rw [tv_init]
   exact this
  ·intro i g z hi hq
   obtain ⟨c1,hc1⟩:=Option.isSome_iff_exists.1 hi
   obtain ⟨j,cs,rfl,hj,_⟩:=lkB_mpB_some up_inj hc1
   exact .inr (.inl ⟨j,z,by rw [hj];rfl,hq⟩)
  ·intro p k g hp hg
   obtain ⟨q,rfl,hq⟩:=lkP_mpP up_inj hp
   rw [hsv,plv_up] at hg
   exact .inr (.inr ⟨q,k,hq,hg⟩)
  ·intro i hi
   cases i<;>simp [gbUp,Id.isUp] at hi ⊢
 refine code2_sound (F:=F) hd h6 (Q:=postH d af.rs O) (R:=fun _ _=>False) ?_ (fun _ _ _ _ _ _ _ _ hq=>hq.elim) hrel hw
 intro e S0' gb0' σ0 a' w' hr0 hq0
 have fin: ∀σ0,Rel F S0' gb0' σ0 a' w'→(∃τ,Frzs σ0 τ∧OutOk d af.rs O τ)→a'.defers=[]∧ ∃v,(results fn a'.tmps).run P w'= .ok v w'∧(∃u,Ending.returned v= .returned u∧ ∃S'' gb'',PostR d I O S gb (fun t=>vs.getD t undef) w S'' gb'' u w'):=by
  rintro σ0 hr0 ⟨τ,hfz,hok⟩
  obtain ⟨S',gb',hr⟩:=hr0.frzs hfz
  refine ⟨hr.defers,?_⟩
  have hr':=hok.r
  split at hr'
  ·rename_i vs' hv
   obtain ⟨us,hrun,g2,g3⟩:=res_run (P:=P) hr h5 hv
   obtain ⟨o1,o2,o3,o4⟩:=hr.out hok hv g2 g3 (by rw [←g2.length];exact (mRs_length (qs:=[]) hv).symm)
   refine ⟨_,hrun,_,rfl,S',gbOut d gb' O.bx,hr.bw,hr.ext,hr.le,?_,?_,o1,o2,o3,o4⟩
   ·intro i hi
    have:gbOut d gb' O.bx i=gb' (i.inn d):=gbOut_ok (fun e=>by rw [hi] at e;cases e)
    rw [this,inn_notNw hi]
    exact hr.up i
   ·intro i hi hne
    simp only [gbOut] at hne
    split at hne
    ·exact absurd rfl hne
    ·rename_i hno
     cases hs:(lkB O.bx i).isSome with
     |true=>rfl
     |false=>exact absurd ⟨hi,hs⟩ hno
  ·cases hr'
 cases e
 ·exact fin _ hr0 hq0
 ·exact hq0.elim
 ·exact fin _ hr0 hq0
theorem fun_spT {P:Program} {GL:List (Nat×List Value)} {dr:Array Oper→List (List Nat)→List AOp→Bool} {f:Nat} {fn:Func} {af:AF2} (hf:P.funcs[f]?=some fn) (hm:mF2 P GL dr fn af=true) (hd:DrawsOk P GL af.N dr) {d:Nat} {I:In} {O:Out} (hl:I.vs.length=af.np)
  (hw:wpA2 (SpH P GL) (SpT P GL) (postT d O) af.c (fun _ _=>False) (inSt I)):SpT P GL f d I O:=by
 rw [sph_eq,spt_eq] at hw;rw [spt_eq];exact fun_soundP hf hm hd hl hw
theorem fun_spR {P:Program} {GL:List (Nat×List Value)} {dr:Array Oper→List (List Nat)→List AOp→Bool} {f:Nat} {fn:Func} {af:AF2} (hf:P.funcs[f]?=some fn) (hm:mF2 P GL dr fn af=true) (hd:DrawsOk P GL af.N dr) {d:Nat} {I:In} {O:Out} (hl:I.vs.length=af.np)
  (hw:wpA2 (SpH P GL) (SpT P GL) (fun _ _=>False) af.c (postH d af.rs O) (inSt I)):SpH P GL f d I O:=by
 rw [sph_eq,spt_eq] at hw;rw [sph_eq];exact fun_soundR hf hm hd hl hw
section
variable {S SP:Nat→Nat→In→Out→Prop} {R:AV→St→Prop} {Q:AE→St→Prop} {σ:St} {K:St→Prop}
@[simp] theorem wpA2_c {a}:wpA2 S SP R (.c a) Q σ=wpA S a Q σ:=rfl
@[simp] theorem wpA2_rp {l o l'}:wpA2 S SP R (.rp l o l') Q σ=wpL S l (wpo S SP R o (wpL S l' (Q .n))) σ:=rfl
@[simp] theorem wpA2_sq {a b}:wpA2 S SP R (.sq a b) Q σ=wpA2 S SP R a (AE.sq (wpA2 S SP R b Q) Q) σ:=rfl
@[simp] theorem wpA2_bl {i a}:wpA2 S SP R (.bl i a) Q σ=wpA2 S SP R a (AE.bl i Q) σ:=rfl
@[simp] theorem wpA2_sc {a}:wpA2 S SP R (.sc a) Q σ=wpA2 S SP R a Q σ:=rfl
@[simp] theorem wpA2_cd {x a b}:wpA2 S SP R (.cd x a b) Q σ=onB (wpA2 S SP R a Q) (wpA2 S SP R b Q) σ (σ.v x):=rfl
def onP (S SP:Nat→Nat→In→Out→Prop) (R:AV→St→Prop) (f d:Nat) (xs:List X) (K:St→Prop) (σ:St):Prop:=wpC S f d xs K σ∨wpCP SP R f d xs σ
def onPd (S SP:Nat→Nat→In→Out→Prop) (R:AV→St→Prop) (d:Nat) (xs:List X) (K:St→Prop) (σ:St):AV→Prop
 | .fn f caps=>onP S SP R f d (xs++caps.map X.c) K σ
 |_=>False
def onT (R:AV→St→Prop) (σ:St):AV→Prop
 | .ifc T v=>v.ids=[]∧R (.ifc T v) σ
 |_=>False
@[simp] theorem wpo_ce {d f xs}:wpo S SP R (.ce d f xs) K σ=onP S SP R f d xs K σ:=rfl
@[simp] theorem wpo_cd {d x xs}:wpo S SP R (.cd d x xs) K σ=onPd S SP R d xs K σ (σ.v x):=by
 simp only [wpo];unfold onPd onP;cases σ.v x<;>rfl
@[simp] theorem onPd_fn {d xs f caps}:onPd S SP R d xs K σ (.fn f caps)=onP S SP R f d (xs++caps.map X.c) K σ:=rfl
@[simp] theorem wpo_pn {d x}:wpo S SP R (.pn d x) K σ=onT R σ (σ.v x):=by
 simp only [wpo];unfold onT;cases σ.v x<;>rfl
@[simp] theorem onT_ifc {T v}:onT R σ (.ifc T v)=(v.ids=[]∧R (.ifc T v) σ):=rfl
end
theorem onP_h {P:Program} {GL:List (Nat×List Value)} {SP:Nat→Nat→In→Out→Prop} {R:AV→St→Prop} {K:St→Prop} {σ:St} {f d:Nat} {xs:List X} (I:In) (O:Out) (h:SpH P GL f d I O) (hc:CallOk d σ xs I O) (hk:K (callSt d σ xs I O)):onP (SpH P GL) SP R f d xs K σ:= .inl ⟨I,O,h,hc,hk⟩
theorem onP_t {P:Program} {GL:List (Nat×List Value)} {S:Nat→Nat→In→Out→Prop} {R:AV→St→Prop} {K:St→Prop} {σ:St} {f d:Nat} {xs:List X} (I:In) (O:Out) (h:SpT P GL f d I O) (hc:CallOk d σ xs I O) (hi:O.r.ids=[]) (hk:R O.r (callP d σ xs I O)):onP S (SpT P GL) R f d xs K σ:= .inr ⟨I,O,h,hc,hi,hk⟩
attribute [simp] callP
end Go.Ai
namespace Go.Ai
open Go.RowKit
variable {P:Program} {F:Fr} {S:Mem} {gb:Gb} {σ:St} {a:Act} {w:World}

theorem Rel.post {GL:List (Nat×List Value)} {N:Nat} {df:List Deferred} {d:Nat} {I:In} {O:Out} {gb0:Gb} {S0:Mem} {w0:World} {sv:Nat→Value} {rs:List AR}
    (hr:Rel ⟨S0,w0,MS I gb0 sv w0,gb0,N,GL,df⟩ S gb σ a w) (hok:OutOk d rs O σ) {vs':List AV} (hv:resA σ rs=some vs') {us:List Value} (g2:PRlist S gb vs' us) (g3: ∀(i s:Nat),rs[i]?=some (AR.t s)→us[i]?=some (tv a s)):
    PostR d I O S0 gb0 sv w0 S (gbOut d gb O.bx) (if h:us.toArray.size=1 then us.toArray[0] else .tuple us.toArray) w:=by
  obtain ⟨o1,o2,o3,o4⟩:=hr.out hok hv g2 g3 (by rw [←g2.length];exact (mRs_length (qs:=[]) hv).symm)
  refine ⟨hr.bw,hr.ext,hr.le,?_,?_,o1,o2,o3,o4⟩
  · intro i hi
    have:gbOut d gb O.bx i=gb (i.inn d):=gbOut_ok (fun e=>by rw [hi] at e;cases e)
    rw [this,inn_notNw hi]
    exact hr.up i
  · intro i hi hne
    simp only [gbOut] at hne
    split at hne
    · exact absurd rfl hne
    · rename_i hno
      cases hs:(lkB O.bx i).isSome with
      |true=>rfl
      |false=>exact absurd ⟨hi,hs⟩ hno
theorem Rel.ret {GL:List (Nat×List Value)} {N:Nat} {df:List Deferred} {d:Nat} {I:In} {O:Out} {gb0:Gb} {S0:Mem} {w0:World} {sv:Nat→Value} {rs:List AR} {fn:Func}
    (hr:Rel ⟨S0,w0,MS I gb0 sv w0,gb0,N,GL,df⟩ S gb σ a w) (hp: ∃τ,Frzs σ τ∧OutOk d rs O τ) (h5:mRs P rs fn.results.toList=true):
    ∃v S'' gb'',(results fn a.tmps).run P w= .ok v w∧PostR d I O S0 gb0 sv w0 S'' gb'' v w:=by
  obtain ⟨τ,hfz,hok⟩:=hp
  obtain ⟨S',gb',hr'⟩:=hr.frzs hfz
  have hx:=hok.r
  split at hx
  · rename_i vs' hv
    obtain ⟨us,hrun,g2,g3⟩:=res_run (P:=P) hr' h5 hv
    exact ⟨_,S',_,hrun,hr'.post hok hv g2 g3⟩
  · cases hx
theorem Rel.init {GL:List (Nat×List Value)} {N:Nat} {df:List Deferred} {I:In} {tmps:Array Value} {sv:Nat→Value} (hN:tmps.size=N) (hsv:tv {tmps:=tmps,defers:=df}=sv) (hvs:PRlist S gb I.vs ((List.range I.vs.length).map sv))
    (hhr:HR S gb I.bx I.pm sv w) (hglo: ∀i us,GL.lookup i=some us→ ∀(o:Nat) (u:Value),us[o]?=some u→S i o=some u∧u.oneCell'=true):
    Rel ⟨S,w,MS I gb sv w,gb,N,GL,df⟩ S (gbUp gb) (inSt I) {tmps:=tmps,defers:=df} w:=by
  have hup:=hhr.up
  refine ⟨rfl,hN,Bw.refl _ _,fun _ _ _ _=>rfl,Mem.le.refl _,?_,by rw [hsv];exact hup,?_,?_,?_,fun d=>rfl,hglo⟩
  · intro t
    have h1:=(lk_initE (PRlist_up _ _ hvs) 0 t).2 t (by omega)
    rw [hsv]
    by_cases ht:t<I.vs.length
    · have e:((List.range I.vs.length).map sv).getD t undef=sv t:=by simp [ht]
      rw [e] at h1
      exact h1
    · have e:lk (initE 0 (mpL Id.up I.vs)) t= .undef:=by
        have: ∀(l:List AV) (i:Nat),i+l.length≤t→lk (initE i l) t= .undef:=by
          intro l
          induction l with
          |nil=>intro i h;rfl
          |cons c r ih=>
            intro i h
            simp only [List.length_cons] at h
            simp only [initE,lk]
            rw [if_neg (by omega)]
            exact ih (i+1) (by omega)
        exact this _ 0 (by rw [mpL_length];omega)
      show PR S (gbUp gb) (lk (initE 0 (mpL Id.up I.vs)) t) _
      rw [e]
      simp [PR]
  · intro i g z hi hq
    obtain ⟨c1,hc1⟩:=Option.isSome_iff_exists.1 hi
    obtain ⟨j,cs,rfl,hj,_⟩:=lkB_mpB_some up_inj hc1
    exact .inr (.inl ⟨j,z,by rw [hj];rfl,hq⟩)
  · intro p k g hp hg
    obtain ⟨q,rfl,hq⟩:=lkP_mpP up_inj hp
    rw [hsv,plv_up] at hg
    exact .inr (.inr ⟨q,k,hq,hg⟩)
  · intro i hi
    cases i<;>simp [gbUp,Id.isUp] at hi ⊢

def SpecD (P:Program) (GL:List (Nat×List Value)) (f d:Nat) (I:In) (v:AV) (O:Out):Prop:=
  ∀(S:Mem) (gb:Gb) (w:World) (vs:List Value) (u:Value),PRlist S gb I.vs vs→HR S gb I.bx I.pm (fun t=>vs.getD t undef) w→
    (∀i us,GL.lookup i=some us→ ∀(o:Nat) (u:Value),us[o]?=some u→S i o=some u∧u.oneCell'=true)→(∀i,i.isNw d=true→gb i=none)→PR S gb v u→
    (callFunc f vs.toArray).run P w= .ok (.enter f vs.toArray) w∧
    (v= .nili→CallsD P f vs.toArray .returning w fun e u' w'=> ∃x,e= .returned x∧u'= .returning∧ ∃S' gb',PostR d I O S gb (fun t=>vs.getD t undef) w S' gb' x w')∧
    ((∃T y,v= .ifc T y)→CallsD P f vs.toArray (.panicking (thrown u)) w fun e u' w'=> ∃x,e= .returned x∧u'= .panicking [{v:=u,recovered:=true}]∧ ∃S' gb',PostR d I O S gb (fun t=>vs.getD t undef) w S' gb' x w')
@[irreducible] def SpD (P:Program) (GL:List (Nat×List Value)) (f d:Nat) (I:In) (v:AV) (O:Out):Prop:=SpecD P GL f d I v O
theorem spd_eq (P:Program) (GL:List (Nat×List Value)):SpD P GL=SpecD P GL:=by funext f d I v O;unfold SpD;rfl
structure AFD where
  r:Nat
  l:List AOp
  c:AC
  np:Nat
  N:Nat
def mFD (P:Program) (GL:List (Nat×List Value)) (dr:Array Oper→List (List Nat)→List AOp→Bool) (fn:Func) (f:AFD):Bool:=
  fn.name != "runtime.NumGoroutine"&&fn.params.size+fn.nfree==f.np&&fn.ntmps==f.N&&Nat.ble f.np f.N&&mRs P [] fn.results.toList&&Nat.blt f.r f.N&&
  (match fn.body with
   |some (.seq (.region _ ops false) c)=>(match ops.toList with
      |o::r=>o.guard.isNone&&o.dst==some f.r&&(match o.op with | .call {callee:= .builtin .recover,args:=as,argTypes:=_}=>as.toList.isEmpty|_=>false)&&mts P GL f.N ops r f.l&&mC P GL f.N dr c f.c
      |[]=>false)
   |_=>false)
theorem opsS_sound {ops:Array Oper} {K:St→Prop} {Q:Exit→Act→List Frame→World→Prop} {cs:List Frame} (hQ: ∀S gb σ a w,Rel F S gb σ a w→K σ→Q .normal a cs w):
    ∀ {l:List Oper} {al:List AOp} (k:Nat),(∀j,l[j]?=ops[k+j]?)→mts P F.GL F.N ops l al=true→ ∀ {S:Mem} {gb:Gb} {σ:St} {a:Act} {w:World},Rel F S gb σ a w→wpL (Spec P F.GL) al K σ→wpOpsS P ops Q (List.range' k l.length) a cs w
  |[],al,k,hk,hm,S,gb,σ,a,w,h,hw=>by
    cases al<;>simp [mts] at hm
    exact hQ _ _ _ _ _ h hw
  |o::r,al,k,hk,hm,S,gb,σ,a,w,h,hw=>by
    cases al with
    |nil=>simp [mts] at hm
    |cons ao s=>
      simp only [mts,Bool.and_eq_true] at hm
      simp only [wpL] at hw
      have hr:=opg_sound h hm.1 hw (K':=fun a w=>wpOpsS P ops Q (List.range' (k+1) r.length) a cs w) (Q:=fun e a w=>Q e a cs w)
        (fun S gb σ a w h' hk'=>opsS_sound hQ (k+1) (fun j=>by have:=hk (j+1);rw [List.getElem?_cons_succ] at this;rw [this];congr 1;omega) hm.2 h' hk')
      have ho:ops[k]?=some o:=by have:=hk 0;simpa using this.symm
      rw [List.length_cons,List.range'_succ]
      simp only [wpOpsS,ho]
      split
      · rename_i hc
        rw [if_pos hc] at hr
        unfold Oper.wp at hr
        split
        · rename_i w' he
          rw [he] at hr
          exact hr.elim
        · exact hr
      · rename_i hc
        rw [if_neg hc] at hr
        exact hr
theorem recover_run {o:Oper} {a:Act} {as:Array Operand} {ts:Array TypeId} (h:o.op= .call {callee:= .builtin .recover,args:=as,argTypes:=ts}) (hs:as.toList=[]):(execOp a.eval o).run P w= .ok .recover w:=by
  have:as= #[]:=by apply Array.ext';simpa using hs
  subst this
  unfold execOp
  simp [h,resolve,Deferred.ofValue,invoke,builtin]

theorem fun_soundDef {GL:List (Nat×List Value)} {dr:Array Oper→List (List Nat)→List AOp→Bool} {f:Nat} {fn:Func} {af:AFD} (hf:P.funcs[f]?=some fn) (hm:mFD P GL dr fn af=true) (hd:DrawsOk P GL af.N dr) {d:Nat} {I:In} {v:AV} {O:Out} (hl:I.vs.length=af.np) (hi:v.ids=[])
    (hw:wpL (Spec P GL) af.l (wpA (Spec P GL) af.c (postH d [] O)) ((inSt I).put af.r v)):SpecD P GL f d I v O:=by
  simp only [mFD,Bool.and_eq_true,bne_iff_ne,beq_iff_eq] at hm
  obtain ⟨⟨⟨⟨⟨⟨h1,h2⟩,h3⟩,h4⟩,h5⟩,hrN⟩,h6⟩:=hm
  have hrN:af.r<af.N:=by simpa using hrN
  split at h6<;>(try cases h6)
  rename_i id ops c hb
  split at h6<;>(try cases h6)
  rename_i o r hops
  simp only [Bool.and_eq_true,beq_iff_eq,Option.isNone_iff_eq_none] at h6
  obtain ⟨⟨⟨⟨hg,hdst⟩,hrec⟩,hmr⟩,hmc⟩:=h6
  have h4:=Nat.le_of_ble_eq_true h4
  intro S gb w vs u hvs hhr hglo hnw hpu
  have hlen:vs.length=I.vs.length:=hvs.length.symm
  have hcall:(callFunc f vs.toArray).run P w= .ok (.enter f vs.toArray) w:=by
    simp [callFunc,hf,hb,h1]
  let F:Fr:=⟨S,w,MS I gb (fun t=>vs.getD t undef) w,gb,af.N,GL,[]⟩
  have hrel:Rel F S (gbUp gb) (inSt I) {tmps:=vs.toArray++Array.replicate (fn.ntmps - vs.toArray.size) undef,defers:=[]} w:=by
    refine Rel.init (by simp;omega) (by funext t;exact tv_init) ?_ hhr hglo
    have e:(List.range I.vs.length).map (fun t=>vs.getD t undef)=vs:=by
      apply List.ext_getElem
      · simp [hlen]
      · intro n h1 h2
        simp
        rw [List.getElem?_eq_getElem h2]
        rfl
    rw [e]
    exact hvs
  have hrel:=hrel.put (d:=af.r) (v:=v) (u:=u) hrN (PR.noids _ _ hi hpu)
  have hrecop:(execOp ({tmps:=vs.toArray++Array.replicate (fn.ntmps - vs.toArray.size) undef,defers:=[]}:Act).eval o).run P w= .ok .recover w:=by
    split at hrec<;>(try cases hrec)
    rename_i as ts hop
    exact recover_run hop (by simpa using hrec)
  have ho:ops[0]?=some o:=by rw [←Array.getElem?_toList,hops];rfl
  have hsz:ops.size=r.length+1:=by rw [←Array.length_toList,hops,List.length_cons]
  have rest: ∀(c₀:Frame) (cs:List Frame) (u':FrameMode) (R:Ending→FrameMode→World→Prop),(∀x w' S' gb',PostR d I O S gb (fun t=>vs.getD t undef) w S' gb' x w'→R (.returned x) u' w')→
      wpOpsS P ops (Exit.thenS (c.wpS P (bodyPostS P fn c₀ cs R)) (bodyPostS P fn c₀ cs R)) (List.range' 1 r.length) (({tmps:=vs.toArray++Array.replicate (fn.ntmps - vs.toArray.size) undef,defers:=[]}:Act).put o.dst u) ({c₀ with mode:=u'}::cs) w:=by
    intro c₀ cs u' R hR
    rw [hdst]
    refine opsS_sound (F:=F) (K:=wpA (Spec P GL) af.c (postH d [] O)) ?_ 1 (fun j=>by rw [←Array.getElem?_toList,hops,Nat.add_comm,List.getElem?_cons_succ]) hmr hrel hw
    intro S1 gb1 σ1 a1 w1 hr1 hw1
    refine wpS_of_wp ?_
    refine code_sound (F:=F) hd hmc (Q:=postH d [] O) ?_ hr1 hw1
    intro e S2 gb2 σ2 a2 w2 hr2 hq
    have fin:(∃τ,Frzs σ2 τ∧OutOk d [] O τ)→a2.defers=[]∧ ∃u'',({c₀ with mode:=u'}::cs:List Frame)={c₀ with mode:=u''}::cs∧ ∃v,(results fn a2.tmps).run P w2= .ok v w2∧R (.returned v) u'' w2:=by
      intro hp
      obtain ⟨x,S'',gb'',g1,g2⟩:=Rel.ret (fn:=fn) hr2 hp h5
      exact ⟨hr2.defers,u',rfl,x,g1,hR x w2 S'' gb'' g2⟩
    cases e
    · exact fin hq
    · exact hq.elim
    · exact fin hq
  have run: ∀(c₀:Frame) (cs:List Frame) (u':FrameMode) (R:Ending→FrameMode→World→Prop),(match recoverD (c₀::cs) with |some (x,cs')=>x=u∧cs'={c₀ with mode:=u'}::cs|none=>u= .nilIface∧{c₀ with mode:=u'}=c₀)→
      (∀x w' S' gb',PostR d I O S gb (fun t=>vs.getD t undef) w S' gb' x w'→R (.returned x) u' w')→
      (Code.seq (.region id ops false) c).wpS P (bodyPostS P fn c₀ cs R) {tmps:=vs.toArray++Array.replicate (fn.ntmps - vs.toArray.size) undef,defers:=[]} (c₀::cs) w:=by
    intro c₀ cs u' R hrc hR
    refine wpS_seq (wpS_region ?_)
    have hrg:List.range ops.size=0::List.range' 1 r.length:=by rw [hsz,List.range_eq_range',List.range'_succ]
    rw [hrg]
    simp only [wpOpsS,ho]
    rw [if_pos (by simp [Region.wanted,hg]),hrecop]
    have hrest:=rest c₀ cs u' R hR
    split at hrc
    · rename_i x cs' he
      obtain ⟨rfl,rfl⟩:=hrc
      simp only [he]
      exact hrest
    · rename_i he
      obtain ⟨rfl,hc⟩:=hrc
      simp only [he]
      rw [hc] at hrest
      exact hrest
  refine ⟨hcall,?_,?_⟩
  · rintro rfl
    simp only [PR] at hpu
    refine callsD_of_wpS hf hb fun c₀ cs hmode=>run c₀ cs .returning _ ?_ fun x w' S' gb' hp=>⟨x,rfl,rfl,S',gb',hp⟩
    simp only [recoverD,hmode]
    exact ⟨hpu,by cases c₀;simp at hmode;subst hmode;rfl⟩
  · rintro ⟨T,y,rfl⟩
    refine callsD_of_wpS hf hb fun c₀ cs hmode=>run c₀ cs (.panicking [{v:=u,recovered:=true}]) _ ?_ fun x w' S' gb' hp=>⟨x,rfl,rfl,S',gb',hp⟩
    simp only [recoverD,hmode,thrown]
    exact ⟨trivial,trivial⟩

inductive ACD where
  |df (l:List AOp) (x:X) (c:AC2)
  |sq (a:AC) (r:ACD)
structure AFX where
  c:ACD
  rs:List AR
  np:Nat
  N:Nat
def mCD (P:Program) (GL:List (Nat×List Value)) (N:Nat) (dr:Array Oper→List (List Nat)→List AOp→Bool):Code→ACD→Bool
  | .seq a b,.sq a' r=>mC P GL N dr a a'&&mCD P GL N dr b r
  | .seq (.region _ ops false) c,.df l x c'=>(match ops.toList.drop l.length with
      |[o]=>mts P GL N ops (ops.toList.take l.length) l&&o.guard.isNone&&o.dst.isNone&&(match o.op with | .defer {callee:= .value y,args:=as,argTypes:=_}=>as.toList.isEmpty&&mX GL x y|_=>false)
      |_=>false)&&mC2 P GL N dr c c'
  |_,_=>false
def mFX (P:Program) (GL:List (Nat×List Value)) (dr:Array Oper→List (List Nat)→List AOp→Bool) (fn:Func) (f:AFX):Bool:=
  fn.name != "runtime.NumGoroutine"&&fn.params.size+fn.nfree==f.np&&fn.ntmps==f.N&&Nat.ble f.np f.N&&mRs P f.rs fn.results.toList&&(match fn.body with |some c=>mCD P GL f.N dr c f.c|none=>false)
section
variable (S SP:Nat→Nat→In→Out→Prop) (SD:Nat→Nat→In→AV→Out→Prop) (N sl dm d:Nat) (rs:List AR) (O:Out)
def leftD (M:Out) (g:Nat) (caps:List AV) (v:AV) (τ:St):Prop:=
  ∃I2 O2,SD g dm I2 v O2∧CallOk dm τ ((mpL Id.up caps).map X.c) I2 O2∧postH sl rs M .r (callP dm τ ((mpL Id.up caps).map X.c) I2 O2)
def wpDf:ACD→St→Prop
  | .sq a r,σ=>wpA S a (fun e σ'=>match e with | .n=>wpDf r σ'| .r=>postH d rs O .r σ'| .x _=>False) σ
  | .df l x c2,σ=>wpL S l (fun σ'=>match σ'.v x with
    | .fn g caps=> ∃I M,I.vs.length=N∧CallOk sl σ' ((List.range N).map X.s) I M∧postH d [.t sl] O .r (callSt sl σ' ((List.range N).map X.s) I M)∧
        wpA2 S SP (fun v τ=>(∃T y,v= .ifc T y)∧leftD SD sl dm rs M g caps v τ) c2 (fun e τ=>match e with | .x _=>False|_=>leftD SD sl dm rs M g caps .nili τ) (inSt I)
    |_=>False) σ
end
theorem list_of_arr (a:Act):(List.range a.tmps.size).map (tv a)=a.tmps.toList:=by
  apply List.ext_getElem
  · simp
  · intro n h1 h2
    have h3:n<a.tmps.size:=by simpa using h2
    simp [tv,h3]
theorem PRlist_tv (h:Rel F S gb σ a w): ∀(l:List Nat),PRlist S gb ((l.map X.s).map σ.v) (l.map (tv a))
  |[]=>by simp [PRlist]
  |t::l=>by
    simp only [List.map_cons,PRlist]
    exact ⟨_,_,rfl,h.env t,PRlist_tv h l⟩
theorem fun_soundX {GL:List (Nat×List Value)} {dr:Array Oper→List (List Nat)→List AOp→Bool} {f:Nat} {fn:Func} {af:AFX} (hf:P.funcs[f]?=some fn) (hm:mFX P GL dr fn af=true) (hd:DrawsOk P GL af.N dr) {sl dm d:Nat} (hsl:sl<af.N) (hdm:dm<af.N) {I0:In} {O:Out} (hl:I0.vs.length=af.np)
    (hw:wpDf (Spec P GL) (SpecP P GL) (SpecD P GL) af.N sl dm d af.rs O af.c (inSt I0)):Spec P GL f d I0 O:=by
  simp only [mFX,Bool.and_eq_true,bne_iff_ne,beq_iff_eq] at hm
  obtain ⟨⟨⟨⟨⟨h1,h2⟩,h3⟩,h4⟩,h5⟩,h6⟩:=hm
  split at h6<;>(try cases h6)
  rename_i c hb
  have h4:=Nat.le_of_ble_eq_true h4
  intro S0 gb0 w0 vs hvs hhr hglo hnw
  have hlen:vs.length=I0.vs.length:=hvs.length.symm
  unfold Does
  have hcall:(callFunc f vs.toArray).run P w0= .ok (.enter f vs.toArray) w0:=by
    simp [callFunc,hf,hb,h1]
  rw [hcall]
  refine calls_of_wp_defers hf hb ?_
  let F:Fr:=⟨S0,w0,MS I0 gb0 (fun t=>vs.getD t undef) w0,gb0,af.N,GL,[]⟩
  have hrel:Rel F S0 (gbUp gb0) (inSt I0) {tmps:=vs.toArray++Array.replicate (fn.ntmps - vs.toArray.size) undef,defers:=[]} w0:=by
    refine Rel.init (by simp;omega) (by funext t;exact tv_init) ?_ hhr hglo
    have e:(List.range I0.vs.length).map (fun t=>vs.getD t undef)=vs:=by
      apply List.ext_getElem
      · simp [hlen]
      · intro n h1 h2
        simp
        rw [List.getElem?_eq_getElem h2]
        rfl
    rw [e]
    exact hvs
  generalize ({tmps:=vs.toArray++Array.replicate (fn.ntmps - vs.toArray.size) undef,defers:=[]}:Act)=a0 at hrel ⊢
  generalize inSt I0=σ0 at hrel hw
  obtain ⟨R,hR⟩: ∃R:Ending→World→Prop,R=fun e w'=> ∃v,e= .returned v∧ ∃S' gb',PostR d I0 O S0 gb0 (fun t=>vs.getD t undef) w0 S' gb' v w':=⟨_,rfl⟩
  rw [←hR]
  have leave: ∀ {S gb σ a w},Rel F S gb σ a w→postH d af.rs O .r σ→Leaves P fn a.tmps R a.defers .returning w:=by
    intro S gb σ a w hr hp
    obtain ⟨x,S'',gb'',g1,g2⟩:=Rel.ret (fn:=fn) hr hp h5
    rw [hr.defers]
    exact ⟨x,g1,by rw [hR];exact ⟨x,rfl,S'',gb'',g2⟩⟩
  have mid: ∀ {c2:Code} {c2':AC2} {g:Nat} {caps:List AV} {us:Array Value} {S gb σ a w},mC2 P GL af.N dr c2 c2'=true→Rel F S gb σ a w→PRlist S gb caps us.toList→
      (∃I M,I.vs.length=af.N∧CallOk sl σ ((List.range af.N).map X.s) I M∧postH d [.t sl] O .r (callSt sl σ ((List.range af.N).map X.s) I M)∧
        wpA2 (Spec P GL) (SpecP P GL) (fun v τ=>(∃T y,v= .ifc T y)∧leftD (SpecD P GL) sl dm af.rs M g caps v τ) c2' (fun e τ=>match e with | .x _=>False|_=>leftD (SpecD P GL) sl dm af.rs M g caps .nili τ) (inSt I))→
      c2.wp P (bodyPostD P fn R) {a with defers:={target:= .fn (.func g) us,args:= #[]}::a.defers} w:=by
    intro c2 c2' g caps us S gb σ a w hm2 hr hcaps hmid
    obtain ⟨I,M,hIl,hc,hpost,hw2⟩:=hmid
    have hsz:a.tmps.size=af.N:=hr.size
    have hl2:PRlist S gb (((List.range af.N).map X.s).map σ.v) a.tmps.toList:=by
      rw [←list_of_arr a,hsz]
      exact PRlist_tv hr _
    have hslot: ∀(i t:Nat),((List.range af.N).map X.s)[i]?=some (X.s t)→a.tmps.toList[i]?=some (tv a t):=by
      intro i t hi
      rw [List.getElem?_map] at hi
      cases hq:(List.range af.N)[i]? with
      |none=>rw [hq] at hi;cases hi
      |some j=>
        rw [hq] at hi
        simp only [Option.map_some,Option.some.injEq,X.s.injEq] at hi
        subst hi
        have hj:=List.getElem?_eq_some_iff.1 hq
        obtain ⟨hj1,hj2⟩:=hj
        simp only [List.length_range] at hj1
        simp only [List.getElem_range] at hj2
        subst hj2
        have:i<a.tmps.size:=by omega
        simp [tv,this]
    have hent:=call_entry hr hc hl2 hslot
    have hvs2:PRlist S gb I.vs a.tmps.toList:=wkL_PR hc.vs hl2
    have hglo2: ∀i us,GL.lookup i=some us→ ∀(o:Nat) (u:Value),us[o]?=some u→S i o=some u∧u.oneCell'=true:=fun i us hi o u hu=>⟨hr.le _ _ _ (hr.glo i us hi o u hu).1,(hr.glo i us hi o u hu).2⟩
    have hsv:(fun t=>a.tmps.toList.getD t undef)=tv a:=by
      funext t
      simp [tv,Array.getD_eq_getD_getElem?,List.getD_eq_getElem?_getD]
    have hdf:a.defers=[]:=hr.defers
    rw [hdf]
    let F2:Fr:=⟨S,w,MS I gb (fun t=>a.tmps.toList.getD t undef) w,gb,af.N,GL,[{target:= .fn (.func g) us,args:= #[]}]⟩
    have hrel2:Rel F2 S (gbUp gb) (inSt I) {a with defers:=[{target:= .fn (.func g) us,args:= #[]}]} w:=by
      refine Rel.init hsz (by rw [hsv];rfl) ?_ hent hglo2
      rw [hIl,hsv,←hsz,list_of_arr a]
      exact hvs2
    have fin: ∀ {v:AV} {u:Value} {S' gb' τ a' w'},Rel F2 S' gb' τ a' w'→leftD (SpecD P GL) sl dm af.rs M g caps v τ→PR S' gb' v u→
        ∃args,(invoke (.fn (.func g) us) #[]).run P w'= .ok (.enter g args) w'∧
          (v= .nili→CallsD P g args .returning w' fun e u' w''=> ∃x,e= .returned x∧u'= .returning∧ ∃y,(results fn a'.tmps).run P w''= .ok y w''∧R (.returned y) w'')∧
          ((∃T y,v= .ifc T y)→CallsD P g args (.panicking (thrown u)) w' fun e u' w''=> ∃x,e= .returned x∧u'= .panicking [{v:=u,recovered:=true}]∧ ∃y,(results fn a'.tmps).run P w''= .ok y w''∧R (.returned y) w''):=by
      intro v u S' gb' τ a' w' hr' hleft hpu
      obtain ⟨I2,O2,hspec,hc2,hp2⟩:=hleft
      have hle:(gbUp gb).le gb':=by
        intro i x hi
        cases i with
        |up j=>rw [hr'.up j];exact hi
        |_=>cases hi
      have hl3:PRlist S' gb' (((mpL Id.up caps).map X.c).map τ.v) us.toList:=by
        have e:((mpL Id.up caps).map X.c).map τ.v=mpL Id.up caps:=by
          rw [List.map_map]
          exact (List.map_congr_left (fun c _=>rfl)).trans (List.map_id _)
        rw [e]
        exact PRlist.mono hr'.le hle _ _ (PRlist_up _ _ hcaps)
      have hslot3: ∀(i t:Nat),((mpL Id.up caps).map X.c)[i]?=some (X.s t)→us.toList[i]?=some (tv a' t):=by
        intro i t hi
        rw [List.getElem?_map] at hi
        cases hq:(mpL Id.up caps)[i]? with
        |none=>rw [hq] at hi;cases hi
        |some j=>rw [hq] at hi;cases hi
      have hent3:=call_entry hr' hc2 hl3 hslot3
      have hvs3:PRlist S' gb' I2.vs us.toList:=wkL_PR hc2.vs hl3
      have hglo3: ∀i us,GL.lookup i=some us→ ∀(o:Nat) (u:Value),us[o]?=some u→S' i o=some u∧u.oneCell'=true:=fun i us hi o u hu=>⟨hr'.le _ _ _ (hr'.glo i us hi o u hu).1,(hr'.glo i us hi o u hu).2⟩
      have hgn: ∀i,i.isNw dm=true→gb' i=none:=by
        intro i hi
        cases hg:gb' i with
        |none=>rfl
        |some x=>
          rcases hr'.dom i (by rw [hg];simp) with h1|h1
          · obtain ⟨cs,hcs⟩:=Option.isSome_iff_exists.1 h1
            have:=hc2.free _ (lkB_mem _ _ _ hcs)
            simp only at this
            rw [this] at hi;cases hi
          · cases i<;>simp [Id.isUp,Id.isNw] at h1 hi
      obtain ⟨hrun,hn,hy⟩:=hspec S' gb' w' us.toList u hvs3 hent3 hglo3 hgn hpu
      have done: ∀ {x S'' gb'' w''},PostR dm I2 O2 S' gb' (fun t=>us.toList.getD t undef) w' S'' gb'' x w''→ ∃y,(results fn a'.tmps).run P w''= .ok y w''∧R (.returned y) w'':=by
        intro x S'' gb'' w'' hp
        have hr3:=(hr'.call hdm hc2 hl3 hslot3 hp).unput hdm
        obtain ⟨y,S3,gb3,g1,g2⟩:=Rel.ret (fn:=fn) hr3 hp2 h5
        refine ⟨y,g1,?_⟩
        have hr4:=hr.call hsl hc hl2 hslot g2
        obtain ⟨τ4,hfz,hok⟩:=hpost
        obtain ⟨S5,gb5,hr5⟩:=hr4.frzs hfz
        have hv:resA τ4 [.t sl]=some [lk τ4.e sl]:=rfl
        have hpo:=hr5.post (us:=[tv (a.put (some sl) y) sl]) hok hv (by simp only [PRlist];exact ⟨_,_,rfl,hr5.env sl,rfl⟩) (fun i s hi=>by
          cases i with
          |zero=>simp at hi;subst hi;rfl
          |succ i=>simp at hi)
        have ey:tv (a.put (some sl) y) sl=y:=by rw [tv_put (by rw [hsz];exact hsl),if_pos rfl]
        rw [hR]
        rw [ey] at hpo
        exact ⟨y,rfl,S5,_,hpo⟩
      refine ⟨us.toList.toArray,?_,fun e=>(hn e).mono fun e u' w'' ⟨x,h1,h2,S'',gb'',hp⟩=>⟨x,h1,h2,done hp⟩,fun e=>(hy e).mono fun e u' w'' ⟨x,h1,h2,S'',gb'',hp⟩=>⟨x,h1,h2,done hp⟩⟩
      rw [show us.toList.toArray=us from rfl] at hrun ⊢
      simp only [invoke]
      simpa using hrun
    refine code2_sound (F:=F2) hd hm2 (Q:=fun e τ=>match e with | .x _=>False|_=>leftD (SpecD P GL) sl dm af.rs M g caps .nili τ) (R:=fun v τ=>(∃T y,v= .ifc T y)∧leftD (SpecD P GL) sl dm af.rs M g caps v τ) ?_ ?_ hrel2 hw2
    · intro e S' gb' τ a' w' hr' hq
      have key:leftD (SpecD P GL) sl dm af.rs M g caps .nili τ→Leaves P fn a'.tmps R a'.defers .returning w':=by
        intro hq
        obtain ⟨args,hi,hn,_⟩:=fin (u:= .nilIface) hr' hq (by simp [PR])
        rw [hr'.defers]
        refine leaves_cons (by simp) hi ((hn rfl).mono ?_)
        rintro e u' w'' ⟨x,rfl,rfl,y,h1,h2⟩
        exact ⟨y,h1,h2⟩
      cases e
      · exact key hq
      · exact hq.elim
      · exact key hq
    · intro v u S' gb' τ a' w' hr' hq hpu hi
      show Leaves P fn a'.tmps R a'.defers (.panicking (thrown u)) w'
      obtain ⟨hv,hq⟩:=hq
      obtain ⟨args,hinv,hn,hy⟩:=fin hr' hq hpu
      rw [hr'.defers]
      refine leaves_cons (by simp) hinv ((hy hv).mono ?_)
      rintro e u' w'' ⟨x,rfl,rfl,y,h1,h2⟩
      exact ⟨y,h1,h2⟩
  have main: ∀ {acd:ACD} {c:Code},mCD P GL af.N dr c acd=true→ ∀ {S gb σ a w},Rel F S gb σ a w→wpDf (Spec P GL) (SpecP P GL) (SpecD P GL) af.N sl dm d af.rs O acd σ→c.wp P (bodyPostD P fn R) a w:=by
    intro acd
    induction acd with
    |sq a' r ih=>
      intro c hm S gb σ a w hr hw
      cases c
      case seq ca cb=>
        simp only [mCD,Bool.and_eq_true] at hm
        obtain ⟨hma,hmb⟩:=hm
        refine wp_seq (code_sound (F:=F) hd hma (Q:=fun e σ'=>match e with | .n=>wpDf (Spec P GL) (SpecP P GL) (SpecD P GL) af.N sl dm d af.rs O r σ'| .r=>postH d af.rs O .r σ'| .x _=>False) ?_ hr hw)
        intro e S1 gb1 σ1 a1 w1 hr1 hq
        cases e
        · exact ih hmb hr1 hq
        · exact hq.elim
        · exact leave hr1 hq
      all_goals simp [mCD] at hm
    |df l x c2'=>
      intro c hm S gb σ a w hr hw
      unfold mCD at hm
      split at hm
      · rename_i e;cases e
      · rename_i id ops c2 l' x' c2'' e
        cases e
        simp only [Bool.and_eq_true] at hm
        obtain ⟨hm1,hm2⟩:=hm
        split at hm1
        · rename_i o hdrop
          simp only [Bool.and_eq_true,Option.isNone_iff_eq_none] at hm1
          obtain ⟨⟨⟨hml,hg⟩,hdst⟩,hop⟩:=hm1
          refine wp_seq (wp_region_list ?_)
          have e:ops.toList=ops.toList.take l.length++[o]:=by rw [←hdrop,List.take_append_drop]
          rw [e]
          refine list_sound_app (F:=F) ?_ hml hr hw
          intro S1 gb1 σ1 a1 w1 hr1 hk
          split at hop<;>(try cases hop)
          rename_i y as ts hop'
          simp only [Bool.and_eq_true] at hop
          obtain ⟨has,hx⟩:=hop
          have hx:=mX_sound hr1 hx
          have has:as= #[]:=by apply Array.ext';simpa using has
          subst has
          split at hk
          · rename_i g caps hv
            rw [hv] at hx
            simp only [PR] at hx
            obtain ⟨us,hx,hcaps⟩:=hx
            simp only [wpList]
            rw [if_pos (by simp [Region.wanted,hg])]
            refine .inl ?_
            have hrun:(execOp a1.eval o).run P w1= .ok (.defer {target:= .fn (.func g) us,args:= #[]}) w1:=by
              unfold execOp
              simp [hop',resolve,hx,Deferred.ofValue]
            unfold Oper.wp
            rw [hrun,Oper.upon_defer,hdst]
            exact mid hm2 hr1 hcaps hk
          · cases hk
        · cases hm1
      · cases hm
  exact main h6 hrel hw
theorem fun_spX {P:Program} {GL:List (Nat×List Value)} {dr:Array Oper→List (List Nat)→List AOp→Bool} {f:Nat} {fn:Func} {af:AFX} (hf:P.funcs[f]?=some fn) (hm:mFX P GL dr fn af=true) (hd:DrawsOk P GL af.N dr) {sl dm d:Nat} (hsl:sl<af.N) (hdm:dm<af.N) {I:In} {O:Out} (hl:I.vs.length=af.np)
    (hw:wpDf (SpH P GL) (SpT P GL) (SpD P GL) af.N sl dm d af.rs O af.c (inSt I)):SpH P GL f d I O:=by
  rw [sph_eq,spt_eq,spd_eq] at hw;rw [sph_eq];exact fun_soundX hf hm hd hsl hdm hl hw
theorem fun_spD {P:Program} {GL:List (Nat×List Value)} {dr:Array Oper→List (List Nat)→List AOp→Bool} {f:Nat} {fn:Func} {af:AFD} (hf:P.funcs[f]?=some fn) (hm:mFD P GL dr fn af=true) (hd:DrawsOk P GL af.N dr) {d:Nat} {I:In} {v:AV} {O:Out} (hl:I.vs.length=af.np) (hi:v.ids=[])
    (hw:wpL (SpH P GL) af.l (wpA (SpH P GL) af.c (postH d [] O)) ((inSt I).put af.r v)):SpD P GL f d I v O:=by
  rw [sph_eq] at hw;rw [spd_eq];exact fun_soundDef hf hm hd hl hi hw
end Go.Ai
namespace Go.Ai
open Go.RowKit
variable {P:Program} {F:Fr} {S:Mem} {gb:Gb} {σ:St} {a:Act} {w:World}
abbrev rnd (l:Nat):Fence:=Fence.wide.inRound l
def noDef (o:Oper):Bool:=match o.op with | .defer _=>false|_=>true
theorem rowsIn_rnd {l n:Nat} {row:String} {args:Array Value} {R:Value→World→Prop} (h:Rows P row args w R):RowsIn (rnd l) n P row args w R:=by
 intro c cs _
 obtain ⟨v,w',r,s⟩:=h c cs
 exact ⟨v,w',r,stepsIn_wide.2 s⟩
theorem op_rnd {l n:Nat} {o:Oper} {K:Act→World→Prop} {Q:Exit→Act→World→Prop} (hd:noDef o=true) (h:o.wp P a w K Q):o.wpIn (rnd l) n P a w K Q:=by
 refine ⟨fun _ _=>trivial,?_⟩
 have he:o.semAt (rnd l).round a.eval=execOp a.eval o:=Oper.semAt_eq _ _ _ (fun c hc=>by unfold noDef at hd;rw [hc] at hd;cases hd)
 rw [he]
 unfold Oper.wp Oper.upon at h
 unfold Oper.uponIn
 have hdep:((rnd l).depth.isSome=true→1≤n):=fun h=>by cases h
 generalize (execOp a.eval o).run P w=r at h ⊢
 split at h
 ·exact h
 ·exact h
 ·exact h
 ·exact ⟨hdep,callsIn_wide.2 h⟩
 ·exact ⟨hdep,rowsIn_rnd h⟩
 ·exact h
 ·exact h.elim
theorem ops_rnd {l n:Nat} {ops:Array Oper} {Q:Exit→Act→World→Prop} (hd: ∀(i:Nat) (o:Oper),ops[i]?=some o→noDef o=true) (hQ: ∀a w,¬Q .outgrown a w): ∀(is:List Nat) (a:Act) (w:World),wpOps P ops Q is a w→wpOpsIn (rnd l) n P ops Q is a w
 |[],a,w,h=>by simpa [wpOps,wpOpsIn] using h
 |i::r,a,w,h=>by
  simp only [wpOps] at h
  simp only [wpOpsIn]
  cases ho:ops[i]? with
  |none=>
   rw [ho] at h
   exact ops_rnd hd hQ r a w h
  |some o=>
   rw [ho] at h
   dsimp only at h ⊢
   split
   ·rename_i hw
    rw [if_pos hw] at h
    rcases h with h|⟨_,a₀,w₀,hq⟩
    ·have:=op_rnd (l:=l) (n:=n) (hd i o ho) h
     exact Oper.wpIn_mono (fun a w hh=>ops_rnd hd hQ r a w hh) this
    ·exact absurd hq (hQ _ _)
   ·rename_i hw
    rw [if_neg hw] at h
    exact ⟨fun _ _=>trivial,ops_rnd hd hQ r _ _ h⟩
def rdOk:Code→Bool
 | .skip=>true
 | .region _ ops _=>ops.toList.all noDef
 | .seq x y=>rdOk x&&rdOk y
 | .cond _ x y=>rdOk x&&rdOk y
 | .block _ x=>rdOk x
 | .loop x=>rdOk x
 | .exit _=>true
 | .ret=>true
 |_=>false
theorem noDef_at {ops:Array Oper} (h:ops.toList.all noDef=true) (i:Nat) (o:Oper) (ho:ops[i]?=some o):noDef o=true:=
 List.all_eq_true.1 h o (by rw [←Array.getElem?_toList] at ho;exact List.mem_of_getElem? ho)
theorem code_rnd {l n:Nat} {dr:Array Oper→List (List Nat)→List AOp→Bool} (hmix:P.follows .mixedOrders=true) (hd:DrawsAny P F.GL F.N dr): ∀ {c:Code} {ac:AC},rdOk c=true→mC P F.GL F.N dr c ac=true→ ∀ {Q:AE→St→Prop} {Q':Exit→Act→World→Prop},(∀a w,¬Q' .outgrown a w)→(∀e S gb σ a w,Rel F S gb σ a w→Q e σ→Q' (toE e) a w)→
  ∀ {S:Mem} {gb:Gb} {σ:St} {a:Act} {w:World},Rel F S gb σ a w→wpA (Spec P F.GL) ac Q σ→c.wpIn (rnd l) n P Q' a w:=by
 intro c
 induction c with
 |skip=>
  intro ac hk hm Q Q' hO hQ S gb σ a w h hw
  cases ac<;>simp [mC] at hm
  exact wpIn_skip (hQ .n _ _ _ _ _ h hw)
 |region id ops draw=>
  intro ac hk hm Q Q' hO hQ S gb σ a w h hw
  cases ac
  case rg l=>
   cases draw<;>simp [mC] at hm
   refine wpIn_region (ops_rnd (noDef_at hk) hO _ _ _ ?_)
   rw [List.range_eq_range',←Array.length_toList,wpOps_eq_wpList ops.toList 0 (by simp)]
   exact list_sound (fun S gb σ a w h' hk=>hQ .n _ _ _ _ _ h' hk) hm h hw
  case rd us l=>
   cases draw<;>simp [mC] at hm
   refine wpIn_region_draw fun t=>ops_rnd (noDef_at hk) hO _ _ _ ?_
   simp only [Region.schedule,hmix,Bool.true_or,if_true]
   exact wpAny_sound ops.size t _ a _ (hd F rfl rfl ops us l hm.1 hm.2 (Q .n) Q' (fun S gb σ a w h' hk=>hQ .n _ _ _ _ _ h' hk) h hw)
  case fz s l=>
   cases draw<;>simp [mC] at hm
   simp only [wpA] at hw
   obtain ⟨b,n,sz,rows,tl,hf,hz,hw⟩:=hw
   obtain ⟨S',gb',h'⟩:=h.freezeP hf hz
   refine wpIn_region (ops_rnd (noDef_at hk) hO _ _ _ ?_)
   rw [List.range_eq_range',←Array.length_toList,wpOps_eq_wpList ops.toList 0 (by simp)]
   exact list_sound (fun S gb σ a w h' hk=>hQ .n _ _ _ _ _ h' hk) hm h' hw
  all_goals (cases draw<;>simp [mC] at hm)
 |seq x y ihx ihy=>
  intro ac hk hm Q Q' hO hQ S gb σ a w h hw
  cases ac<;>simp [mC] at hm
  simp only [rdOk,Bool.and_eq_true] at hk
  rename_i x' y'
  refine wpIn_seq (ihx hk.1 hm.1 (Q:=AE.sq (wpA (Spec P F.GL) y' Q) Q) (Q':=Exit.then (y.wpIn (rnd l) n P Q') Q') hO ?_ h hw)
  intro e S gb σ a w h' hq
  cases e
  ·exact ihy hk.2 hm.2 hO hQ h' hq
  ·exact hQ (.x _) _ _ _ _ _ h' hq
  ·exact hQ .r _ _ _ _ _ h' hq
 |cond c x y ihx ihy=>
  intro ac hk hm Q Q' hO hQ S gb σ a w h hw
  cases ac<;>simp [mC] at hm
  simp only [rdOk,Bool.and_eq_true] at hk
  rename_i c' x' y'
  obtain ⟨⟨hc,hx⟩,hy⟩:=hm
  have hv:=mX_sound h hc
  simp only [wpA] at hw
  split at hw
  ·rename_i t ht
   rw [ht] at hv
   simp only [PR] at hv
   refine wpIn_cond hv ?_
   cases t
   ·exact ihy hk.2 hy hO hQ h (by simpa using hw)
   ·exact ihx hk.1 hx hO hQ h (by simpa using hw)
  ·cases hw
 |block i x ih=>
  intro ac hk hm Q Q' hO hQ S gb σ a w h hw
  cases ac<;>simp [mC] at hm
  rename_i j x'
  obtain ⟨rfl,hx⟩:=hm
  refine wpIn_block (ih hk hx (Q:=AE.bl i Q) (Q':=Exit.inBlock i Q') hO ?_ h hw)
  intro e S gb σ a w h' hq
  cases e
  ·exact hQ .n _ _ _ _ _ h' hq
  ·rename_i j
   simp only [toE,Exit.inBlock]
   simp only [AE.bl] at hq
   split at hq
   ·rename_i e;rw [if_pos e];exact hQ .n _ _ _ _ _ h' hq
   ·rename_i e;rw [if_neg e];exact hQ (.x _) _ _ _ _ _ h' hq
  ·exact hQ .r _ _ _ _ _ h' hq
 |loop x ih=>
  intro ac hk hm Q Q' hO hQ S gb σ a w h hw
  cases ac<;>simp [mC] at hm
  rename_i x'
  simp only [wpA] at hw
  obtain ⟨n',hn⟩:=hw
  intro b k cs hro hb hr
  have key: ∀n' S gb σ a w,Rel F S gb σ a w→itA (wpA (Spec P F.GL) x') Q n' σ→ ∃e a' w',Q' e a' w'∧ArrivesIn (Machine.fenced P (rnd l)) P (lone (b.atR a (.code x:: .inLoop x::k)) cs w) b k cs e a' w':=by
   intro n'
   induction n' with
   |zero=>intro S gb σ a w h hn;exact hn.elim
   |succ n' ihn=>
    intro S gb σ a w h hn
    obtain ⟨τ,hτ,hbb⟩:=hn
    obtain ⟨gb',h'⟩:=h.weakR hτ
    obtain ⟨e,a₁,w₁,hq,harr⟩:=ih hk hm (Q:=AE.sq (itA (wpA (Spec P F.GL) x') Q n') Q) (Q':=Exit.then (fun a w=> ∃S gb σ,Rel F S gb σ a w∧itA (wpA (Spec P F.GL) x') Q n' σ) Q') hO (by
     intro e S gb σ a w h'' hq
     cases e
     ·exact ⟨_,_,_,h'',hq⟩
     ·exact hQ (.x _) _ _ _ _ _ h'' hq
     ·exact hQ .r _ _ _ _ _ h'' hq) h' hbb b (.inLoop x::k) cs hro hb hr
    cases e with
    |normal=>
     obtain ⟨S1,gb1,σ1,h1,hi1⟩:=hq
     obtain ⟨e₂,a₂,w₂,hq₂,harr₂⟩:=ihn _ _ _ _ _ h1 hi1
     exact ⟨e₂,a₂,w₂,hq₂,.of_steps (StepsIn.trans harr (.one (fenced_calm hb hr rfl) stepR_inLoop)) harr₂⟩
    |exit id=>exact ⟨_,a₁,w₁,hq,.pass (x:= .inLoop x) rfl (fun _ _=> .inl (by simp)) harr⟩
    |goto l=>exact ⟨_,a₁,w₁,hq,.pass (x:= .inLoop x) rfl (fun _ _=> .inl (by simp)) harr⟩
    |ret=>exact ⟨_,a₁,w₁,hq,.pass (x:= .inLoop x) rfl (fun _ _=> .inl (by simp)) harr⟩
    |panic ch=>exact ⟨_,a₁,w₁,hq,.pass (x:= .inLoop x) rfl (fun _ _=> .inl (by simp)) harr⟩
    |outgrown=>exact ⟨_,a₁,w₁,hq,.pass (x:= .inLoop x) rfl (fun _ _=> .inl (by simp)) harr⟩
  obtain ⟨e,a',w',hq,harr⟩:=key n' _ _ _ _ _ h hn
  exact ⟨e,a',w',hq,.of_steps (.one (fenced_calm hb hr rfl) stepR_loop) harr⟩
 |exit i=>
  intro ac hk hm Q Q' hO hQ S gb σ a w h hw
  cases ac<;>simp [mC] at hm
  subst hm
  exact wpIn_exit (hQ (.x _) _ _ _ _ _ h hw)
 |ret=>
  intro ac hk hm Q Q' hO hQ S gb σ a w h hw
  cases ac<;>simp [mC] at hm
  exact wpIn_ret (hQ .r _ _ _ _ _ h hw)
 |_=>intro ac hk;cases hk
end Go.Ai
namespace Go.Ai
open Go.RowKit
variable {P:Program} {F:Fr} {S:Mem} {gb:Gb} {σ:St} {a:Act} {w:World}
theorem plv_abide {bx:List (Id×List AV)} {pm:List (Pl×Nat)} {sv:Nat→Value} (h:HR S gb bx pm sv w) (hit: ∀d,(lkB bx d).isSome→d.isIt=false) {w':World} {row:Option Nat} (hg:w.grownBy w' row)
  (hr: ∀r,row=some r→ ∃o:Obj,w.heap[r]?=some o∧o.isCells=false) {p:Pl} {k:Nat} (hp:lkP pm p=some k):plv gb sv w' p=plv gb sv w p:=by
 cases p with
 |s t=>rfl
 |t t i=>rfl
 |b d off=>
  obtain ⟨h1,h2⟩:=h.pmb d off k hp
  obtain ⟨cs,hcs⟩:=Option.isSome_iff_exists.1 h1
  obtain ⟨g,us,T,e1,e3,_⟩:=h.box d cs hcs h2
  simp only [plv,e1]
  rw [World.cell?_of_block (a:=⟨g,off,none⟩) (grownBy_keeps_cells hg hr e3 rfl)]
theorem HR.abide {bx:List (Id×List AV)} {pm:List (Pl×Nat)} {sv:Nat→Value} (h:HR S gb bx pm sv w) (hit: ∀d,(lkB bx d).isSome→d.isIt=false) {w':World} {row:Option Nat} (hg:w.grownBy w' row)
  (hr: ∀r,row=some r→ ∃o:Obj,w.heap[r]?=some o∧o.isCells=false):HR S gb bx pm sv w':=by
 have hpl:=fun {p k}=>plv_abide h hit hg hr (p:=p) (k:=k)
 refine ⟨fun g o v e=>cell_kept (h.agree g o v e) hg hr,?_,?_,h.inj,?_,?_,?_,h.pmb⟩
 ·intro d cs hcs hi
  obtain ⟨g,us,T,e1,e3,e4,e5⟩:=h.box d cs hcs hi
  exact ⟨g,us,T,e1,(grownBy_keeps_cells hg hr e3 rfl).trans e3,e4,e5⟩
 ·intro d cs hcs hi
  have:=hit d (by rw [hcs];rfl)
  rw [hi] at this;cases this
 ·intro p k hp
  rw [hpl hp]
  have ho:=h.own p k hp
  refine ho.mono (fun g hgb=>?_) (fun _ _ _ e=>e)
  rcases ho with e|⟨_,g',n,cap,cur,T,e,h3,_⟩|⟨_,g',n,cap,cur,e,h3,_⟩
  ·rw [e] at hgb;simp [Value.ownBlock] at hgb
  ·rw [e] at hgb;simp [Value.ownBlock] at hgb;subst hgb;exact grownBy_keeps_cells hg hr h3 rfl
  ·rw [e] at hgb;simp [Value.ownBlock] at hgb;subst hgb;exact grownBy_keeps_cells hg hr h3 rfl
 ·intro p q k l b hp hq h1 h2
  rw [hpl hp] at h1
  rw [hpl hq] at h2
  exact h.ownd p q k l b hp hq h1 h2
 ·intro p k b d z hp h1
  rw [hpl hp] at h1
  exact h.ownb p k b d z hp h1
def noIt (bx:List (Id×List AV)):Prop:= ∀d,(lkB bx d).isSome→d.isIt=false
theorem Rel.abide (h:Rel F S gb σ a w) (hit:noIt σ.bx) {w':World} {row:Option Nat} (hg:w.grownBy w' row)
  (hr: ∀r,row=some r→(F.w0.heap.size≤r∨F.M r)∧ ∃o:Obj,w.heap[r]?=some o∧o.isCells=false):Rel F S gb σ a w':=by
 have hr2:=fun r e=>(hr r e).2
 refine ⟨h.defers,h.size,⟨hg.os.trans h.bw.os,hg.tape.trans h.bw.tape,hg.output.trans h.bw.output,Nat.le_trans h.bw.size hg.size,fun k hk hn=>?_⟩,h.ext,h.le,h.env,h.hr.abide hit hg hr2,h.newb,?_,h.dom,h.up,h.glo⟩
 ·refine (hg.block k (Nat.lt_of_lt_of_le hk h.bw.size) (fun e=>?_)).trans (h.bw.block k hk hn)
  rcases (hr k e.symm).1 with h1|h1
  ·omega
  ·exact hn h1
 ·intro p k g hp hq
  rw [plv_abide h.hr hit hg hr2 hp] at hq
  exact h.newo p k g hp hq
theorem put_put {d:Nat} (hd:d<a.tmps.size) (v:Value):(a.put (some d) v).put (some d) (tv a d)=a:=by
 obtain ⟨tm,df⟩:=a
 have e:(tm.setIfInBounds d v).setIfInBounds d (tm.getD d undef)=tm:=by
  apply Array.ext
  ·simp
  ·intro i h1 h2
   by_cases e:d=i
   ·subst e;simp [Array.getD_eq_getD_getElem?,h2]
   ·rw [Array.getElem_setIfInBounds_ne (h:=e),Array.getElem_setIfInBounds_ne (h:=e)]
    simpa using h2
 show Act.mk ((tm.setIfInBounds d v).setIfInBounds d (tm.getD d undef)) df=Act.mk tm df
 rw [e]
theorem Rel.unputR {d:Nat} {v:Value} (hd:d<F.N) (h:Rel F S gb σ (a.put (some d) v) w):Rel F S gb (σ.put d .undef) a w:=by
 have hs:d<a.tmps.size:=by
  have:=h.size
  simp [Act.put] at this
  omega
 have:=h.put hd (v:= .undef) (u:=tv a d) (by simp [PR])
 rwa [put_put hs] at this
theorem Rel.widen (h:Rel F S gb σ a w) {M':Nat→Prop} (hM: ∀g,F.M g→M' g):Rel {F with M:=M'} S gb σ a w:=
 ⟨h.defers,h.size,⟨h.bw.os,h.bw.tape,h.bw.output,h.bw.size,fun k hk hn=>h.bw.block k hk (fun e=>hn (hM k e))⟩,fun g o hg hn=>h.ext g o hg (fun e=>hn (hM g e)),h.le,h.env,h.hr,
  fun d g z hd hg=>(h.newb d g z hd hg).imp id (hM g),fun p k g hp hg=>(h.newo p k g hp hg).imp id (hM g),h.dom,h.up,h.glo⟩
def MO (gb:Gb) (σ:St) (a:Act) (w:World) (g:Nat):Prop:=(∃d z,(lkB σ.bx d).isSome∧gb d=some (g,z))∨ ∃p k,lkP σ.pm p=some k∧(plv gb (tv a) w p).ownBlock=some g
def Fr.at (F:Fr) (S:Mem) (gb:Gb) (σ:St) (a:Act) (w:World) (df:List Deferred):Fr:={F with S0:=S,w0:=w,M:=MO gb σ a w,df:=df}
theorem Rel.rebase (h:Rel F S gb σ a w) (df:List Deferred):Rel (F.at S gb σ a w df) S gb σ {a with defers:=df} w:=
 ⟨rfl,h.size,Bw.refl _ _,fun _ _ _ _=>rfl,Mem.le.refl _,h.env,h.hr,fun d g z hd hg=> .inr (.inl ⟨d,z,hd,hg⟩),fun p k g hp hg=> .inr (.inr ⟨p,k,hp,hg⟩),h.dom,h.up,
  fun i us hi o u hu=>⟨h.le _ _ _ (h.glo i us hi o u hu).1,(h.glo i us hi o u hu).2⟩⟩
theorem MO.of (h:Rel F S gb σ a w) {g:Nat} (hg:MO gb σ a w g):F.w0.heap.size≤g∨F.M g:=by
 rcases hg with ⟨d,z,hd,he⟩|⟨p,k,hp,he⟩
 ·exact h.newb d g z hd he
 ·exact h.newo p k g hp he
theorem Rel.unrebase (h:Rel F S gb σ a w) {df:List Deferred} {S':Mem} {gb':Gb} {σ':St} {a':Act} {w':World} (h':Rel (F.at S gb σ a w df) S' gb' σ' a' w'):Rel {F with df:=df} S' gb' σ' a' w':=by
 have hm: ∀ {g:Nat},(F.at S gb σ a w df).w0.heap.size≤g∨(F.at S gb σ a w df).M g→F.w0.heap.size≤g∨F.M g:=by
  intro g hg
  rcases hg with hg|hg
  ·exact .inl (Nat.le_trans h.bw.size hg)
  ·exact MO.of h hg
 refine ⟨h'.defers,h'.size,h.bw.trans h'.bw (fun g hlt hg=>?_),fun g o hlt hn=>?_,Mem.le.trans h.le h'.le,h'.env,h'.hr,fun d g z hd he=>hm (h'.newb d g z hd he),fun p k g hp he=>hm (h'.newo p k g hp he),h'.dom,h'.up,h.glo⟩
 ·rcases MO.of h hg with h1|h1
  ·exact absurd h1 (Nat.not_le_of_lt hlt)
  ·exact h1
 ·have h1:=h'.ext g o (Nat.lt_of_lt_of_le hlt h.bw.size) (fun hg=>by
   rcases MO.of h hg with h1|h1
   ·exact absurd h1 (Nat.not_le_of_lt hlt)
   ·exact hn h1)
  exact h1.trans (h.ext g o hlt hn)
theorem cells_ne {w:World} {l g:Nat} {us:Array Value} {T:Nat} {p:Nat×Nat} (hl: ∃o:Obj,w.heap[l]?=some o∧o.isCells=false) (h:w.heap[g]?=some (.cells us T p)):g≠l:=by
 rintro rfl
 obtain ⟨o,h1,h2⟩:=hl
 rw [h] at h1
 cases h1
 cases h2
theorem own_ne {w:World} {l g k:Nat} {v:Value} {S:Mem} (hl: ∃o:Obj,w.heap[l]?=some o∧o.isCells=false) (h:OwnR S w k v) (hg:v.ownBlock=some g):g≠l:=by
 rcases h with e|⟨_,g',n,cap,cur,T,e,h3,_⟩|⟨_,g',n,cap,cur,e,h3,_⟩
 ·rw [e] at hg;simp [Value.ownBlock] at hg
 ·rw [e] at hg;simp [Value.ownBlock] at hg;subst hg;exact cells_ne hl h3
 ·rw [e] at hg;simp [Value.ownBlock] at hg;subst hg;exact cells_ne hl h3
theorem HR.box_ne {bx:List (Id×List AV)} {pm:List (Pl×Nat)} {sv:Nat→Value} (h:HR S gb bx pm sv w) (hit:noIt bx) {l:Nat} (hl: ∃o:Obj,w.heap[l]?=some o∧o.isCells=false) {d:Id} {g:Nat} {z:BZ} (hd:(lkB bx d).isSome) (hg:gb d=some (g,z)):g≠l:=by
 obtain ⟨cs,hcs⟩:=Option.isSome_iff_exists.1 hd
 obtain ⟨g',us,T,e1,e3,_⟩:=h.box d cs hcs (hit d hd)
 rw [hg] at e1
 cases e1
 exact cells_ne hl e3
theorem MO.ne (h:HR S gb σ.bx σ.pm (tv a) w) (hit:noIt σ.bx) {l:Nat} (hl: ∃o:Obj,w.heap[l]?=some o∧o.isCells=false): ¬MO gb σ a w l:=by
 rintro (⟨d,z,hd,he⟩|⟨p,k,hp,he⟩)
 ·exact h.box_ne hit hl hd he rfl
 ·exact own_ne hl (h.own p k hp) he rfl
theorem agree_none {bx:List (Id×List AV)} {pm:List (Pl×Nat)} {sv:Nat→Value} (h:HR S gb bx pm sv w) {l:Nat} (hl: ∃o:Obj,w.heap[l]?=some o∧o.isCells=false) (o:Nat):S l o=none:=by
 cases hs:S l o with
 |none=>rfl
 |some v=>
  obtain ⟨ob,h1,h2⟩:=cells_of_cell (h.agree l o v hs)
  obtain ⟨ob',h3,h4⟩:=hl
  rw [h3] at h1
  cases h1
  rw [h4] at h2
  cases h2
theorem Rel.narrow {l:Nat} (h:Rel {F with M:=fun g=>F.M g∨g=l} S gb σ a w) (hit:noIt σ.bx) (hs:w.heap[l]?=F.w0.heap[l]?) (hl: ∃o:Obj,w.heap[l]?=some o∧o.isCells=false) (hS: ∀o,F.S0 l o=none):Rel F S gb σ a w:=by
 refine ⟨h.defers,h.size,⟨h.bw.os,h.bw.tape,h.bw.output,h.bw.size,fun k hk hn=>?_⟩,fun g o hg hn=>?_,h.le,h.env,h.hr,fun d g z hd he=>?_,fun p k g hp he=>?_,h.dom,h.up,h.glo⟩
 ·by_cases e:k=l
  ·rw [e];exact hs
  ·exact h.bw.block k hk (fun h1=>h1.elim hn e)
 ·by_cases e:g=l
  ·rw [e,hS];exact agree_none h.hr hl o
  ·exact h.ext g o hg (fun h1=>h1.elim hn e)
 ·rcases h.newb d g z hd he with h1|h1|h1
  ·exact .inl h1
  ·exact .inr h1
  ·exact absurd h1 (h.hr.box_ne hit hl hd he)
 ·rcases h.newo p k g hp he with h1|h1|h1
  ·exact .inl h1
  ·exact .inr h1
  ·exact absurd h1 (own_ne hl (h.hr.own p k hp) he)
end Go.Ai
namespace Go.Ai
open Go.RowKit
variable {P:Program} {F:Fr} {S:Mem} {gb:Gb} {σ:St} {a:Act} {w:World}
def zipE:List Nat→List AV→List (Nat×AV)
 |t::r,v::s=>(t,v)::zipE r s
 |_,_=>[]
theorem lk_mid {p:Nat} {v:AV} {B:List (Nat×AV)}: ∀ {r:List Nat} {s:List AV},p∉r→ ∀t,lk (zipE r s++(p,v)::B) t=if p=t then v else lk (zipE r s++B) t
 |[],s,_,t=>by simp [zipE,lk]
 |q::r,[],_,t=>by simp [zipE,lk]
 |q::r,u::s,h,t=>by
  simp only [List.mem_cons,not_or] at h
  simp only [zipE,List.cons_append,lk,lk_mid h.2]
  by_cases e1:q=t
  ·rw [if_pos e1,if_pos e1,if_neg (fun e=>h.1 (e.trans e1.symm))]
  ·rw [if_neg e1,if_neg e1]
theorem env_zip {g:Gb} {B:List (Nat×AV)}: ∀ {ps:List Nat} {x:List AV} {us:List Value} {tm:Array Value},(∀t,PR S g (lk B t) (tm.getD t undef))→ps.Nodup→(∀t∈ps,t<tm.size)→PRlist S g x us→ps.length=x.length→
  ∀t,PR S g (lk (zipE ps x++B) t) (((ps.zip us).foldl (fun t (q:Nat×Value)=>t.setIfInBounds q.1 q.2) tm).getD t undef)
 |[],x,us,tm,h,_,_,_,_=>by simpa [zipE] using h
 |p::r,[],us,tm,h,_,_,_,hl=>by simp at hl
 |p::r,v::s,us,tm,h,hn,hs,hx,hl=>by
  simp only [PRlist] at hx
  obtain ⟨u,us',rfl,hu,hx⟩:=hx
  simp only [List.nodup_cons] at hn
  have ih:=env_zip (B:=(p,v)::B) (ps:=r) (x:=s) (us:=us') (tm:=tm.setIfInBounds p u) (fun t=>by
   rw [getD_set (hs p (by simp))]
   simp only [lk]
   split
   ·exact hu
   ·exact h t) hn.2 (fun t ht=>by rw [Array.size_setIfInBounds];exact hs t (by simp [ht])) hx (by simpa using hl)
  intro t
  have:=ih t
  rw [lk_mid hn.1] at this
  simpa only [zipE,List.cons_append,lk,List.zip_cons_cons,List.foldl_cons] using this
theorem fold_size: ∀(l:List (Nat×Value)) (tm:Array Value),(l.foldl (fun t (q:Nat×Value)=>t.setIfInBounds q.1 q.2) tm).size=tm.size
 |[],_=>rfl
 |q::l,tm=>by rw [List.foldl_cons,fold_size l,Array.size_setIfInBounds]
theorem env_rd {f:Nat→AV}: ∀ {rd:List Nat} {vs:List AV},wkL (rd.map f) vs→(∀t,PR S gb (f t) (tv a t))→ ∀t,PR S (gbUp gb) (lk (zipE rd (mpL Id.up vs)) t) (tv a t)
 |[],vs,_,_,t=>by simp [zipE,lk,PR]
 |p::r,[],h,_,t=>by simp [wkL] at h
 |p::r,v::s,h,he,t=>by
  simp only [List.map_cons,wkL] at h
  simp only [mpL,zipE,lk]
  split
  ·rename_i e
   subst e
   exact PR_up _ _ (wk_PR h.1 (he p))
  ·exact env_rd h.2 he t
structure RdIn (d:Nat) (σ:St) (rd:List Nat) (I:In):Prop where
 ok:CallOk d σ (rd.map X.s) I ⟨.tup [],I.bx,[]⟩
 pm: ∀p∈I.pm,p.1.isB=true
 it:noIt I.bx
def rdSt (ps rd:List Nat) (x:List AV) (I:In):St:=⟨zipE ps x++zipE rd (mpL Id.up I.vs),mpB Id.up I.bx,mpP Id.up I.pm⟩
def normE (d:Nat):List (Nat×AV)→List (Nat×AV)
 |(t,.undef)::r=>if t=d then (t,.undef)::r else (d,.undef)::(t,.undef)::r
 |e=>(d,.undef)::e
theorem lk_normE (d:Nat) (e:List (Nat×AV)) (t:Nat):lk (normE d e) t=if d=t then .undef else lk e t:=by
 unfold normE
 split
 ·rename_i t' r
  split
  ·rename_i h;subst h
   simp only [lk]
   split<;>rfl
  ·simp only [lk]
 ·simp only [lk]
def rdNorm (d:Nat) (σ:St):St:=⟨normE d σ.e,σ.bx,dlS σ.pm d⟩
def rdOut (d:Nat) (σ:St) (rd:List Nat) (I:In) (O:Out):St:=⟨normE d σ.e,O.bx++rmBs σ.bx I.bx,dlS (retP d O.pm++dlS (dlXs (rd.map X.s) (dlBs σ.pm I.bx) I.pm) d) d⟩
theorem Rel.congrE (h:Rel F S gb σ a w) {e:List (Nat×AV)} (he: ∀t,lk e t=lk σ.e t):Rel F S gb ⟨e,σ.bx,σ.pm⟩ a w:=
 ⟨h.defers,h.size,h.bw,h.ext,h.le,fun t=>by rw [he];exact h.env t,h.hr,h.newb,h.newo,h.dom,h.up,h.glo⟩
theorem put_same {d:Nat} (hd:d<a.tmps.size):a.put (some d) (tv a d)=a:=by
 obtain ⟨tm,df⟩:=a
 have e:tm.setIfInBounds d (tm.getD d undef)=tm:=by
  apply Array.ext
  ·simp
  ·intro i h1 h2
   by_cases e:d=i
   ·subst e;simp [Array.getD_eq_getD_getElem?,h2]
   ·rw [Array.getElem_setIfInBounds_ne (h:=e)]
 show Act.mk (tm.setIfInBounds d (tm.getD d undef)) df=Act.mk tm df
 rw [e]
theorem Rel.norm {d:Nat} (hd:d<F.N) (h:Rel F S gb σ a w):Rel F S gb (rdNorm d σ) a w:=by
 have hs:d<a.tmps.size:=by rw [h.size];exact hd
 have:=h.put hd (v:= .undef) (u:=tv a d) (by simp [PR])
 have ha:=put_same hs
 rw [ha] at this
 exact this.congrE (fun t=>by rw [lk_normE];simp only [St.put,lk])
theorem plv_isB {sv sv':Nat→Value} {p:Pl} (h:p.isB=true):plv gb sv w p=plv gb sv' w p:=by
 cases p<;>simp [Pl.isB] at h<;>rfl
theorem HR.anySv {bx:List (Id×List AV)} {pm:List (Pl×Nat)} {sv sv':Nat→Value} (h:HR S gb bx pm sv w) (hb: ∀p k,lkP pm p=some k→p.isB=true):HR S gb bx pm sv' w:=by
 refine ⟨h.agree,h.box,h.its,h.inj,fun p k hp=>?_,fun p q k l b hp hq h1 h2=>?_,fun p k b d z hp h1=>?_,h.pmb⟩
 ·rw [plv_isB (hb p k hp) (sv':=sv)];exact h.own p k hp
 ·rw [plv_isB (hb p k hp) (sv':=sv)] at h1
  rw [plv_isB (hb q l hq) (sv':=sv)] at h2
  exact h.ownd p q k l b hp hq h1 h2
 ·rw [plv_isB (hb p k hp) (sv':=sv)] at h1
  exact h.ownb p k b d z hp h1
abbrev rdSv (rd:List Nat) (a:Act):Nat→Value:=fun t=>(rd.map (tv a)).getD t undef
theorem rd_vs (h:Rel F S gb σ a w): ∀rd:List Nat,PRlist S gb ((rd.map X.s).map σ.v) (rd.map (tv a))
 |[]=>by simp [PRlist]
 |t::r=>by
  simp only [List.map_cons,PRlist]
  exact ⟨_,_,rfl,h.env t,rd_vs h r⟩
theorem rd_sl {rd:List Nat} (i t:Nat) (h:(rd.map X.s)[i]?=some (X.s t)):(rd.map (tv a))[i]?=some (tv a t):=by
 simp only [List.getElem?_map,Option.map_eq_some_iff] at h ⊢
 obtain ⟨x,h1,h2⟩:=h
 cases h2
 exact ⟨_,h1,rfl⟩
abbrev rdFr (F:Fr) (S:Mem) (gb:Gb) (a:Act) (w:World) (rd:List Nat) (I:In):Fr:=⟨S,w,MS I gb (rdSv rd a) w,gb,F.N,F.GL,[]⟩
theorem round_entry (h:Rel F S gb σ a w) {d:Nat} {rd:List Nat} {I:In} (hi:RdIn d σ rd I) {ps:List Nat} {x:List AV} {us:List Value} (hx:PRlist S gb0 x us) (hps:ps.Nodup) (hl:ps.length=x.length) (hN: ∀t∈ps,t<F.N):
  Rel (rdFr F S gb a w rd I) S (gbUp gb) (rdSt ps rd x I) {tmps:=(ps.zip us).foldl (fun t (q:Nat×Value)=>t.setIfInBounds q.1 q.2) a.tmps,defers:=[]} w:=by
 have hhr:=call_entry h hi.ok (rd_vs h rd) (rd_sl (a:=a))
 have hup:=hhr.up
 have hpmB: ∀p k,lkP (mpP Id.up I.pm) p=some k→p.isB=true:=by
  intro p k hp
  obtain ⟨q,rfl,hq⟩:=lkP_mpP up_inj hp
  have:=hi.pm _ (lkP_mem _ _ _ hq)
  cases q<;>simp [Pl.isB,Pl.mp] at this ⊢
 refine ⟨rfl,?_,Bw.refl _ _,fun _ _ _ _=>rfl,Mem.le.refl _,?_,hup.anySv hpmB,?_,?_,?_,fun d=>rfl,fun i us hi o u hu=>⟨h.le _ _ _ (h.glo i us hi o u hu).1,(h.glo i us hi o u hu).2⟩⟩
 ·show (Array.size _)=F.N
  rw [fold_size];exact h.size
 ·have he:wkL (rd.map fun t=>lk σ.e t) I.vs:=by
   have:=hi.ok.vs
   rwa [List.map_map] at this
  refine env_zip (B:=zipE rd (mpL Id.up I.vs)) (env_rd he h.env) hps (fun t ht=>by rw [h.size];exact hN t ht) (PRlist.mono (Mem.le.refl S) (gb0_le _) _ _ hx) hl
 ·intro i g z hi hq
  obtain ⟨c1,hc1⟩:=Option.isSome_iff_exists.1 hi
  obtain ⟨j,cs,rfl,hj,_⟩:=lkB_mpB_some up_inj hc1
  exact .inr (.inl ⟨j,z,by rw [hj];rfl,hq⟩)
 ·intro p k g hp hg
  have hB:=hpmB p k hp
  obtain ⟨q,rfl,hq⟩:=lkP_mpP up_inj hp
  rw [plv_isB hB (sv':=rdSv rd a),plv_up] at hg
  exact .inr (.inr ⟨q,k,hq,hg⟩)
 ·intro i hi
  cases i<;>simp [gbUp,Id.isUp] at hi ⊢
theorem round_exit (h:Rel F S gb σ a w) {d:Nat} (hd:d<F.N) {rd:List Nat} {I:In} {O:Out} (hc:CallOk d σ (rd.map X.s) I O) {S':Mem} {gb':Gb} {σ':St} {a':Act} {w':World} (hr0:Rel (rdFr F S gb a w rd I) S' gb' σ' a' w') (hq: ∃τ,Frzs σ' τ∧OutOk d [] O τ):
  ∃S'' gb'',S.le S''∧Rel F S'' gb'' (rdOut d σ rd I O) a w':=by
 obtain ⟨τ,hfz,hok⟩:=hq
 obtain ⟨S',gb',hr⟩:=hr0.frzs hfz
 have hv:resA τ []=some []:=rfl
 obtain ⟨o1,o2,o3,o4⟩:=hr.out hok hv (us:=[]) (by simp [PRlist]) (by simp) rfl
 have hp:PostR d I O S gb (fun t=>(rd.map (tv a)).getD t undef) w S' (gbOut d gb' O.bx) (.tuple #[]) w':=by
  refine ⟨hr.bw,hr.ext,hr.le,?_,?_,o1,o2,o3,o4⟩
  ·intro i hi
   have:gbOut d gb' O.bx i=gb' (i.inn d):=gbOut_ok (fun e=>by rw [hi] at e;cases e)
   rw [this,inn_notNw hi]
   exact hr.up i
  ·intro i hi hne
   simp only [gbOut] at hne
   split at hne
   ·exact absurd rfl hne
   ·rename_i hno
    cases hs:(lkB O.bx i).isSome with
    |true=>rfl
    |false=>exact absurd ⟨hi,hs⟩ hno
 have hu:=(h.call hd hc (rd_vs h rd) (rd_sl (a:=a)) hp).unputR hd
 exact ⟨S',_,hp.le,hu.congrE (fun t=>by
  rw [lk_normE]
  simp only [St.put,callSt,lk]
  split<;>rfl)⟩
end Go.Ai
namespace Go.Ai
open Go.RowKit
variable {P:Program} {F:Fr} {S:Mem} {gb:Gb} {σ:St} {a:Act} {w:World}
def jmp:AE→Option Code
 | .n=>none
 | .r=>some .ret
 | .x i=>some (.exit i)
def rdPost (d:Nat) (σ:St) (rd:List Nat) (I:In) (K:AE→St→Prop):AE→St→Prop:=fun e σ'=>
 ∃O,(∃τ,Frzs σ' τ∧OutOk d [] O τ)∧CallOk d σ (rd.map X.s) I O∧(∀p∈σ'.bx,p.1.isIt=false)∧K e (rdOut d σ rd I O)
def wpRd (Sp:Nat→Nat→In→Out→Prop) (d:Nat) (ps rd:List Nat) (asg bd:AC) (x:List AV) (K:AE→St→Prop) (σ:St):Prop:=
 ∃I,RdIn d σ rd I∧wpA Sp asg (fun e τ=>e= .n∧(∀p∈τ.bx,p.1.isIt=false)∧wpA Sp bd (rdPost d σ rd I K) τ) (rdSt ps rd x I)
theorem noIt_of {bx:List (Id×List AV)} (h: ∀p∈bx,p.1.isIt=false):noIt bx:=fun d hd=>by
 obtain ⟨cs,hcs⟩:=Option.isSome_iff_exists.1 hd
 exact h _ (lkB_mem _ _ _ hcs)
theorem noIt_out (hit:noIt σ.bx) {d:Nat} {rd:List Nat} {I:In} {O:Out} {τ:St} (ho:OutOk d [] O τ):noIt (rdOut d σ rd I O).bx:=by
 intro i hi
 simp only [rdOut,lkB_app] at hi
 split at hi
 ·rename_i c hc
  have h1:=(ho.bx _ (lkB_mem _ _ _ hc)).1
  cases hq:i.isIt with
  |false=>rfl
  |true=>rw [inn_it hq] at h1;cases h1
 ·rw [lkB_rmBs] at hi
  split at hi
  ·cases hi
  ·exact hit i hi
theorem putObj_grown2 (W:World) (l:Nat) (o o':Obj):(W.putObj l o).grownBy (W.putObj l o') (some l):=
 ⟨rfl,rfl,rfl,by simp,fun k _ hk=>by rw [World.putObj_heap_other (fun e=>hk (by rw [e])),World.putObj_heap_other (fun e=>hk (by rw [e]))]⟩
theorem round_in {n l:Nat} {dr:Array Oper→List (List Nat)→List AOp→Bool} (hmix:P.follows .mixedOrders=true) (hda:DrawsAny P F.GL F.N dr) {asg bd:Code} {aasg abd:AC} (ok1:rdOk asg=true) (ok2:rdOk bd=true) (m1:mC P F.GL F.N dr asg aasg=true) (m2:mC P F.GL F.N dr bd abd=true)
  (h₀:Rel F S gb σ a w) (hit:noIt σ.bx) {d:Nat} (hd:d<F.N) {rd ps:List Nat} {x:List AV} {us:List Value} (hx:PRlist S gb0 x us) (hps:ps.Nodup) (hl:ps.length=x.length) (hN: ∀t∈ps,t<F.N)
  {rec:Loop} (hst:rec.state= .ready) (hrec:w.heap[l]?=some (.loop rec)) (hlF:F.w0.heap.size≤l) (hpe:rec.pending=none) {K:AE→St→Prop} (hw:wpRd (Spec P F.GL) d ps rd aasg abd x K σ) {fn:FuncId} {R:Ending→World→Prop}
  (hK: ∀(e:AE) (S':Mem) (gb':Gb) (σ':St) (W:World),S.le S'→Rel F S' gb' σ' a W→noIt σ'.bx→K e σ'→W.heap[l]?=some (.loop {rec with state:=if (jmp e).isNone then .ready else .done,pending:=jmp e})→
   (∀(k:Nat) (o:Obj),k≠l→w.heap[k]?=some o→o.isCells=false→W.heap[k]?=some o)→w.heap.size≤W.heap.size→(∀g,MO gb' σ' a W g→w.heap.size≤g∨MO gb σ a w g)→
   (∀g o,g<w.heap.size→ ¬MO gb σ a w g→S' g o=S g o)→(∀g,g<w.heap.size→ ¬MO gb σ a w g→g≠l→W.heap[g]?=w.heap[g]?)→R (.returned (.bool (jmp e).isNone)) W):
  RoundIn Fence.wide n P l fn ((ps.zip us).foldl (fun t (q:Nat×Value)=>t.setIfInBounds q.1 q.2) a.tmps) asg bd w R:=by
 obtain ⟨I,hI,hw⟩:=hw
 have h:=h₀.rebase a.defers
 have ha:({a with defers:=a.defers}:Act)=a:=rfl
 rw [ha] at h
 have hlt:l<w.heap.size:=(Array.getElem?_eq_some_iff.1 hrec).1
 have hnc: ∃o:Obj,w.heap[l]?=some o∧o.isCells=false:=⟨_,hrec,rfl⟩
 have hE:=round_entry h hI hx hps hl hN
 have hhr:=call_entry h hI.ok (rd_vs h rd) (rd_sl (a:=a))
 have hms: ∀k o,w.heap[k]?=some o→o.isCells=false→ ¬MS I gb (rdSv rd a) w k:=by
  rintro k o ho hc (⟨d',z,hd',he⟩|⟨p,q,hp,he⟩)
  ·exact hhr.box_ne hI.it ⟨o,ho,hc⟩ hd' he rfl
  ·exact own_ne ⟨o,ho,hc⟩ (hhr.own p q hp) he rfl
 refine roundIn_of_wpIn trivial ?_
 refine code_rnd (l:=l) (n:=n) (F:=rdFr F S gb a w rd I) hmix hda ok1 m1 (Q:=fun e τ=>e= .n∧(∀p∈τ.bx,p.1.isIt=false)∧wpA (Spec P F.GL) abd (rdPost d σ rd I K) τ) (fun _ _ hf=>hf) ?_ hE hw
 rintro e S2 gb2 σ2 a2 w2 hr2 ⟨rfl,hit2,hw2⟩
 have hit2:=noIt_of hit2
 have hrec2:w2.heap[l]?=some (.loop rec):=(hr2.bw.block l hlt (hms l _ hrec rfl)).trans hrec
 refine ⟨_,run_beginRound hrec2 hst,?_⟩
 have hlt2:l<w2.heap.size:=(Array.getElem?_eq_some_iff.1 hrec2).1
 obtain ⟨F',hF'⟩: ∃F':Fr,F'={rdFr F S gb a w rd I with M:=fun g=>(rdFr F S gb a w rd I).M g∨g=l}:=⟨_,rfl⟩
 have hr2':Rel F' S2 gb2 σ2 a2 w2:=by rw [hF'];exact hr2.widen (fun g hg=> .inl hg)
 obtain ⟨w3,hw3⟩: ∃w3,w3=w2.putObj l (.loop {rec with state:= .busy}):=⟨_,rfl⟩
 have hg3:w2.grownBy w3 (some l):=by rw [hw3];exact grownBy_putObj' w2 l _
 have hr3:Rel F' S2 gb2 σ2 a2 w3:=hr2'.abide hit2 hg3 (fun r e=>by cases e;exact ⟨.inr (by rw [hF'];exact .inr rfl),_,hrec2,rfl⟩)
 have hb3:w3.heap[l]?=some (.loop {rec with state:= .busy}):=by rw [hw3];exact World.putObj_heap_same hlt2
 have hrb:=hr3.rebase []
 have ha2:({a2 with defers:=[]}:Act)=a2:=by
  have:=hr2.defers
  obtain ⟨t,df⟩:=a2
  simp only at this
  subst this
  rfl
 rw [ha2] at hrb
 rw [←hw3]
 have hGL:(F'.at S2 gb2 σ2 a2 w3 []).GL=F.GL:=by rw [hF'];rfl
 have hNN:(F'.at S2 gb2 σ2 a2 w3 []).N=F.N:=by rw [hF'];rfl
 refine code_rnd (l:=l) (n:=n) (F:=F'.at S2 gb2 σ2 a2 w3 []) hmix (by rw [hGL,hNN];exact hda) ok2 (by rw [hGL,hNN];exact m2) (Q:=rdPost d σ rd I K) (fun _ _ hf=>hf) ?_ hrb (by rw [hGL];exact hw2)
 rintro e S4 gb4 σ4 a4 w4 hr4 ⟨O,hq,hc,hit4,hk⟩
 have hit4:=noIt_of hit4
 have hb4:w4.heap[l]?=some (.loop {rec with state:= .busy}):=by
  refine (hr4.bw.block l (Array.getElem?_eq_some_iff.1 hb3).1 ?_).trans hb3
  exact MO.ne hr3.hr hit2 ⟨_,hb3,rfl⟩
 have hlt4:l<w4.heap.size:=(Array.getElem?_eq_some_iff.1 hb4).1
 have hr4':=hr3.unrebase hr4
 have hdf:{F' with df:=([]:List Deferred)}=F':=by rw [hF']
 rw [hdf] at hr4'
 have hr5:Rel F' S4 gb4 σ4 a4 (w4.putObj l (.loop rec)):=hr4'.abide hit4 (grownBy_putObj' w4 l _) (fun r e=>by cases e;exact ⟨.inr (by rw [hF'];exact .inr rfl),_,hb4,rfl⟩)
 have h5:(w4.putObj l (.loop rec)).heap[l]?=some (.loop rec):=World.putObj_heap_same hlt4
 rw [hF'] at hr5
 have hr6:=hr5.narrow hit4 (h5.trans hrec.symm) ⟨_,h5,rfl⟩ (fun o=>agree_none h₀.hr hnc o)
 obtain ⟨S7,gb7,hS7,hr7⟩:=round_exit h hd hc hr6 hq
 obtain ⟨τ,_,hok⟩:=hq
 have hit7:=noIt_out hit (rd:=rd) (I:=I) hok
 have fin: ∀jump:Option Code,jump=jmp e→ ∃v w',(Instr.endRound l jump).run P w4= .ok v w'∧R (.returned v) w':=by
  rintro jump rfl
  have hu:=h₀.unrebase hr7
  have hdf':{F with df:=a.defers}=F:=by rw [h₀.defers]
  rw [hdf'] at hu
  have hg7:=putObj_grown2 w4 l (.loop rec) (.loop {rec with state:=if (jmp e).isNone then .ready else .done,pending:=jmp e})
  have hab:=hu.abide hit7 hg7 (fun r e=>by cases e;exact ⟨.inl hlF,_,h5,rfl⟩)
  refine ⟨_,_,run_endRound _ hb4,hK e S7 gb7 _ _ hS7 hab hit7 hk (World.putObj_heap_same hlt4) (fun k o hkl ho hoc=>?_) ?_ (fun g hg=>?_) (fun g o hg hn=>hr7.ext g o hg hn) (fun g hg hn hgl=>?_)⟩
  ·rw [World.putObj_heap_other hkl]
   have hk5:(w4.putObj l (.loop rec)).heap[k]?=some o:=(hr6.bw.block k (Array.getElem?_eq_some_iff.1 ho).1 (hms k o ho hoc)).trans ho
   rwa [World.putObj_heap_other hkl] at hk5
  ·refine Nat.le_trans (show w.heap.size≤_ from hr7.bw.size) ?_
   simp [World.putObj]
  ·have hg2:MO gb7 (rdOut d σ rd I O) a (w4.putObj l (.loop rec)) g:=by
    rcases hg with hg|⟨p,k,hp,he⟩
    ·exact .inl hg
    ·refine .inr ⟨p,k,hp,?_⟩
     rwa [plv_abide hu.hr hit7 hg7 (fun r e=>by cases e;exact ⟨_,h5,rfl⟩) hp] at he
   exact MO.of hr7 hg2
  ·rw [World.putObj_heap_other hgl]
   have:=hr7.bw.block g hg hn
   rwa [World.putObj_heap_other hgl] at this
 cases e with
 |n=>exact fin none rfl
 |r=>exact fin (some .ret) rfl
 |x i=>exact fin (some (.exit i)) rfl
end Go.Ai
