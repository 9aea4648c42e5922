/- AiPan: a part of the proof: the rules, or what functions compute. Conditions: as each theorem says. -/
import Derived.Test.YtpaipepdakekbaaGreatDoorAiFunH
set_option linter.unusedSimpArgs false
set_option linter.unusedVariables false
namespace Go.Ai
open Go.RowKit
variable {P:Program} {F:Fr} {S:Mem} {gb:Gb} {σ:St} {a:Act} {w:World}

abbrev thrown (v:Value):List PanicEntry:=[{v,recovered:=false}]
def DoesP (P:Program) (f:FuncId) (vs:Array Value) (w:World) (R:Value→World→Prop):Prop:=
 match (callFunc f vs).run P w with
 | .ok (.enter f' as') w'=>Calls P f' as' w' fun e w''=> ∃v,e= .panicked (thrown v)∧R v w''
 |_=>False
def SpecP (P:Program) (GL:List (Nat×List Value)) (f d:Nat) (I:In) (O:Out):Prop:=
 ∀(S:Mem) (gb:Gb) (w:World) (vs:List Value),PRlist S gb I.vs vs→HR S gb I.bx I.pm (fun t=>vs.getD t undef) w→
  (∀i us,GL.lookup i=some us→ ∀(o:Nat) (u:Value),us[o]?=some u→S i o=some u∧u.oneCell'=true)→(∀i,i.isNw d=true→gb i=none)→
  DoesP P f vs.toArray w fun v w'=> ∃S' gb',PostR d I O S gb (fun t=>vs.getD t undef) w S' gb' v w'

inductive AP where
 |ce (d f:Nat) (xs:List X)
 |cd (d:Nat) (x:X) (xs:List X)
 |pn (d:Nat) (x:X)
inductive AC2 where
 |c (a:AC)
 |rp (l:List AOp) (o:AP) (l':List AOp)
 |sq (a b:AC2)
 |cd (x:X) (a b:AC2)
 |bl (i:Nat) (a:AC2)
 |lp (a:AC2)
 |sc (a:AC2)

section
variable (S:Nat→Nat→In→Out→Prop) (SP:Nat→Nat→In→Out→Prop) (R:AV→St→Prop)
def callP (d:Nat) (σ:St) (xs:List X) (I:In) (O:Out):St:=⟨(d,.undef)::(callSt d σ xs I O).e,(callSt d σ xs I O).bx,dlS (callSt d σ xs I O).pm d⟩
def wpCP (f d:Nat) (xs:List X) (σ:St):Prop:= ∃I O,SP f d I O∧CallOk d σ xs I O∧O.r.ids=[]∧R O.r (callP d σ xs I O)
def wpo:AP→(St→Prop)→St→Prop
 | .ce d f xs,K,σ=>wpC S f d xs K σ∨wpCP SP R f d xs σ
 | .cd d x xs,K,σ=>match σ.v x with
  | .fn f caps=>wpC S f d (xs++caps.map X.c) K σ∨wpCP SP R f d (xs++caps.map X.c) σ
  |_=>False
 | .pn _ x,_,σ=>match σ.v x with
  | .ifc T v=>v.ids=[]∧R (.ifc T v) σ
  |_=>False
def wpA2:AC2→(AE→St→Prop)→St→Prop
 | .c a,Q,σ=>wpA S a Q σ
 | .rp l o l',Q,σ=>wpL S l (wpo S SP R o (wpL S l' (Q .n))) σ
 | .sq a b,Q,σ=>wpA2 a (AE.sq (wpA2 b Q) Q) σ
 | .cd x a b,Q,σ=>match σ.v x with
  | .bool t=>if t=true then wpA2 a Q σ else wpA2 b Q σ
  |_=>False
 | .bl i a,Q,σ=>wpA2 a (AE.bl i Q) σ
 | .lp a,Q,σ=> ∃n,itA (wpA2 a) Q n σ
 | .sc a,Q,σ=>wpA2 a Q σ
end
theorem wpA_mono {S:Nat→Nat→In→Out→Prop}: ∀ {c:AC} {Q Q':AE→St→Prop} {σ:St},(∀e σ,Q e σ→Q' e σ)→wpA S c Q σ→wpA S c Q' σ:=by
 intro c
 have m1: ∀ {o:AOp} {K K':St→Prop} {σ:St},(∀σ,K σ→K' σ)→wp1 S o K σ→wp1 S o K' σ:=fun hk h=>wp1_mono hk h
 have mL: ∀ {l:List AOp} {K K':St→Prop} {σ:St},(∀σ,K σ→K' σ)→wpL S l K σ→wpL S l K' σ:=by
  intro l
  induction l with
  |nil=>intro K K' σ hk h;exact hk _ h
  |cons o r ih=>intro K K' σ hk h;exact m1 (fun σ h=>ih hk h) h
 have mD: ∀ {us:List (List Nat)} {l:List AOp} {j:Nat} {h:List (Nat×Bx)} {K K':St→Prop} {σ:St},(∀σ,K σ→K' σ)→wpLd S us l j h K σ→wpLd S us l j h K' σ:=by
  intro us
  induction us with
  |nil=>intro l j h K K' σ hk hw;cases l with
   |nil=>exact hk _ hw
   |cons=>exact hw.elim
  |cons u us ih=>intro l j h K K' σ hk hw;cases l with
   |nil=>exact hw.elim
   |cons o r=>exact ⟨hw.1,m1 (fun σ h=>kpK_iff.2 ⟨(kpK_iff.1 h).1,ih hk (kpK_iff.1 h).2⟩) hw.2⟩
 have sqm: ∀ {B B':St→Prop} {Q Q':AE→St→Prop},(∀σ,B σ→B' σ)→(∀e σ,Q e σ→Q' e σ)→ ∀e σ,AE.sq B Q e σ→AE.sq B' Q' e σ:=by
  intro B B' Q Q' hb hq e σ h
  cases e
  ·exact hb _ h
  ·exact hq _ _ h
  ·exact hq _ _ h
 induction c with
 |sk=>intro Q Q' σ hq h;exact hq _ _ h
 |rg l=>intro Q Q' σ hq h;exact mL (fun σ h=>hq _ _ h) h
 |rd us l=>intro Q Q' σ hq h;exact mD (fun σ h=>hq _ _ h) h
 |sq a b iha ihb=>intro Q Q' σ hq h;exact iha (sqm (fun σ h=>ihb hq h) hq) h
 |cd x a b iha ihb=>
  intro Q Q' σ hq h
  unfold wpA at h ⊢
  split at h
  ·rename_i t ht
   split at h
   ·rename_i e;rw [if_pos e];exact iha hq h
   ·rename_i e;rw [if_neg e];exact ihb hq h
  ·cases h
 |bl i a ih=>
  intro Q Q' σ hq h
  refine ih (fun e σ h=>?_) h
  cases e
  ·exact hq _ _ h
  ·rename_i j
   unfold AE.bl at h ⊢
   by_cases e:j=i
   ·simp only [if_pos e] at h ⊢;exact hq _ _ h
   ·simp only [if_neg e] at h ⊢;exact hq _ _ h
  ·exact hq _ _ h
 |lp a ih=>
  intro Q Q' σ hq h
  obtain ⟨n,hn⟩:=h
  refine ⟨n,?_⟩
  induction n generalizing σ with
  |zero=>exact hn
  |succ n ihn=>
   obtain ⟨τ,hτ,hb⟩:=hn
   exact ⟨τ,hτ,ih (sqm (fun σ h=>ihn h) hq) hb⟩
 |ex i=>intro Q Q' σ hq h;exact hq _ _ h
 |rt=>intro Q Q' σ hq h;exact hq _ _ h
 |sc a ih=>intro Q Q' σ hq h;exact ih hq h
 |lb=>intro Q Q' σ hq h;exact hq _ _ h
 |no=>intro Q Q' σ hq h;exact h

theorem wpL_mono {S:Nat→Nat→In→Out→Prop}: ∀ {l:List AOp} {K K':St→Prop} {σ:St},(∀σ,K σ→K' σ)→wpL S l K σ→wpL S l K' σ:=by
 intro l
 induction l with
 |nil=>intro K K' σ hk h;exact hk _ h
 |cons o r ih=>intro K K' σ hk h;exact wp1_mono (fun σ h=>ih hk h) h
theorem wpo_mono {S SP:Nat→Nat→In→Out→Prop} {R:AV→St→Prop} {K K':St→Prop} (hk: ∀σ,K σ→K' σ): ∀ {o:AP} {σ:St},wpo S SP R o K σ→wpo S SP R o K' σ:=by
 intro o σ h
 cases o with
 |ce d f xs=>
  rcases h with ⟨I,O,h1,h2,h3⟩|h
  ·exact .inl ⟨I,O,h1,h2,hk _ h3⟩
  ·exact .inr h
 |cd d x xs=>
  simp only [wpo] at h ⊢
  split at h
  ·rcases h with ⟨I,O,h1,h2,h3⟩|h
   ·exact .inl ⟨I,O,h1,h2,hk _ h3⟩
   ·exact .inr h
  ·cases h
 |pn d x=>exact h
theorem sq_mono {B B':St→Prop} {Q Q':AE→St→Prop} (hb: ∀σ,B σ→B' σ) (hq: ∀e σ,Q e σ→Q' e σ): ∀e σ,AE.sq B Q e σ→AE.sq B' Q' e σ:=by
 intro e σ h
 cases e
 ·exact hb _ h
 ·exact hq _ _ h
 ·exact hq _ _ h
theorem wpA2_mono {S SP:Nat→Nat→In→Out→Prop} {R:AV→St→Prop}: ∀ {c:AC2} {Q Q':AE→St→Prop} {σ:St},(∀e σ,Q e σ→Q' e σ)→wpA2 S SP R c Q σ→wpA2 S SP R c Q' σ:=by
 intro c
 induction c with
 |c a=>intro Q Q' σ hq h;exact wpA_mono hq h
 |rp l o l'=>intro Q Q' σ hq h;exact wpL_mono (fun σ h=>wpo_mono (fun σ h=>wpL_mono (fun σ h=>hq _ _ h) h) h) h
 |sq a b iha ihb=>intro Q Q' σ hq h;exact iha (sq_mono (fun σ h=>ihb hq h) hq) h
 |cd x a b iha ihb=>
  intro Q Q' σ hq h
  unfold wpA2 at h ⊢
  split at h
  ·rename_i t ht
   split at h
   ·rename_i e;rw [if_pos e];exact iha hq h
   ·rename_i e;rw [if_neg e];exact ihb hq h
  ·cases h
 |bl i a ih=>
  intro Q Q' σ hq h
  refine ih (fun e σ h=>?_) h
  cases e
  ·exact hq _ _ h
  ·rename_i j
   unfold AE.bl at h ⊢
   by_cases e:j=i
   ·simp only [if_pos e] at h ⊢;exact hq _ _ h
   ·simp only [if_neg e] at h ⊢;exact hq _ _ h
  ·exact hq _ _ h
 |lp a ih=>
  intro Q Q' σ hq h
  obtain ⟨n,hn⟩:=h
  refine ⟨n,?_⟩
  induction n generalizing σ with
  |zero=>exact hn
  |succ n ihn=>
   obtain ⟨τ,hτ,hb⟩:=hn
   exact ⟨τ,hτ,ih (sq_mono (fun σ h=>ihn h) hq) hb⟩
 |sc a ih=>intro Q Q' σ hq h;exact ih hq h
theorem wp_lp2 {S SP:Nat→Nat→In→Out→Prop} {R:AV→St→Prop} {α:Type} {c:AC2} {Q:AE→St→Prop} (st:α→St) (I:α→Prop) (μ:α→Nat)
  (step: ∀x,I x→wpA2 S SP R c (AE.sq (lpQ st I μ x) Q) (st x)) {σ:St} (x:α) (hx:I x) (hw:Weak σ (st x)):wpA2 S SP R (.lp c) Q σ:=by
 have key: ∀n x,μ x<n→I x→ ∀σ,WeakR σ (st x)→itA (wpA2 S SP R c) Q n σ:=by
  intro n
  induction n with
  |zero=>intro x h;omega
  |succ n ih=>
   intro x hn hx σ hw
   refine ⟨st x,hw,wpA2_mono ?_ (step x hx)⟩
   intro e σ' h
   cases e
   ·obtain ⟨y,hy,hlt,hwy⟩:=h
    exact ih y (by omega) hy σ' hwy
   ·exact h
   ·exact h
 exact ⟨μ x+1,key _ x (by omega) hx σ (.inl hw)⟩
theorem wp_lpk2 {S SP:Nat→Nat→In→Out→Prop} {R:AV→St→Prop} {α:Type} {c:AC2} {Q:AE→St→Prop} (st:α→St) (I:α→Prop) (μ:α→Nat)
  (step: ∀(K:St→Prop) (x:α),(∀(y:α) (σ':St),I y→μ y<μ x→Weak σ' (st y)→K σ')→I x→wpA2 S SP R c (AE.sq K Q) (st x)) {σ:St} (x:α) (hx:I x) (hw:Weak σ (st x)):wpA2 S SP R (.lp c) Q σ:=
 wp_lp2 st I μ (fun x hx=>step (lpQ st I μ x) x (fun y σ' h1 h2 h3=>lpQ_mk y h1 h2 h3) hx) x hx hw

def mAP (P:Program) (GL:List (Nat×List Value)) (N:Nat) (o:Oper):AP→Bool
 | .ce d f xs=>o.guard.isNone&&mt1 P GL N o (.ce d f xs)
 | .cd d x xs=>o.guard.isNone&&mt1 P GL N o (.cd d x xs)
 | .pn _ x=>o.guard.isNone&&(match o.op with | .panic y=>mX GL x y|_=>false)
def mts3 (P:Program) (GL:List (Nat×List Value)) (N:Nat) (ops:Array Oper) (os:List Oper) (l:List AOp) (p:AP) (l':List AOp):Bool:=match os.drop l.length with
 |o::r=>mts P GL N ops (os.take l.length) l&&mAP P GL N o p&&mts P GL N ops r l'
 |[]=>false
def mC2 (P:Program) (GL:List (Nat×List Value)) (N:Nat) (dr:Array Oper→List (List Nat)→List AOp→Bool):Code→AC2→Bool
 |c,.c a=>mC P GL N dr c a
 | .region _ ops false,.rp l o l'=>mts3 P GL N ops ops.toList l o l'
 | .seq x y,.sq x' y'=>mC2 P GL N dr x x'&&mC2 P GL N dr y y'
 | .cond c x y,.cd c' x' y'=>mX GL c' c&&mC2 P GL N dr x x'&&mC2 P GL N dr y y'
 | .block i x,.bl j x'=>i==j&&mC2 P GL N dr x x'
 | .loop x,.lp x'=>mC2 P GL N dr x x'
 | .scope x,.sc x'=>mC2 P GL N dr x x'
 |_,_=>false
theorem Rel.unput {e:List (Nat×AV)} {bx:List (Id×List AV)} {pm:List (Pl×Nat)} {d:Nat} {u:Value} (hd:d<F.N) (h:Rel F S gb ⟨e,bx,pm⟩ (a.put (some d) u) w):Rel F S gb ⟨(d,.undef)::e,bx,dlS pm d⟩ a w:=by
 have hs:a.tmps.size=F.N:=by have:=h.size;simpa [Act.put] using this
 have hd':d<a.tmps.size:=by rw [hs];exact hd
 have hat: ∀p k,lkP (dlS pm d) p=some k→p.at d=false∧lkP pm p=some k:=by
  intro p k hk
  rw [lkP_dlS] at hk
  split at hk
  ·cases hk
  ·rename_i hne;exact ⟨by simpa using hne,hk⟩
 refine ⟨h.defers,hs,h.bw,h.ext,h.le,?_,⟨h.hr.agree,h.hr.box,h.hr.its,h.hr.inj,?_,?_,?_,?_⟩,h.newb,?_,h.dom,h.up,h.glo⟩
 ·intro t
  simp only [lk]
  split
  ·simp [PR]
  ·rename_i ne
   have:=h.env t
   rwa [tv_put hd',if_neg ne] at this
 ·intro p k hk
  obtain ⟨h1,h2⟩:=hat p k hk
  have:=h.hr.own p k h2
  rwa [plv_put hd' h1] at this
 ·intro p q k l b hk hl h1 h2
  obtain ⟨p1,p2⟩:=hat p k hk
  obtain ⟨q1,q2⟩:=hat q l hl
  rw [←plv_put (u:=u) hd' p1] at h1
  rw [←plv_put (u:=u) hd' q1] at h2
  exact h.hr.ownd p q k l b p2 q2 h1 h2
 ·intro p k b d' z hk h1
  obtain ⟨p1,p2⟩:=hat p k hk
  rw [←plv_put (u:=u) hd' p1] at h1
  exact h.hr.ownb p k b d' z p2 h1
 ·intro e off k hk;exact h.hr.pmb e off k (hat _ k hk).2
 ·intro p k g hk hg
  obtain ⟨p1,p2⟩:=hat p k hk
  rw [←plv_put (u:=u) hd' p1] at hg
  exact h.newo p k g p2 hg
theorem callP_sound (h:Rel F S gb σ a w) {o:Oper} {d f:Nat} (h2:d<F.N) (h1:o.dst=some d) {xs:List X} {vs:List Value} (hl:PRlist S gb (xs.map σ.v) vs) (hsl: ∀(i t:Nat),xs[i]?=some (X.s t)→vs[i]?=some (tv a t))
  (hrun:(execOp a.eval o).run P w=(callFunc f vs.toArray).run P w) {R:AV→St→Prop} (hw:wpCP (SpecP P F.GL) R f d xs σ) {K':Act→World→Prop} {Q:Exit→Act→World→Prop}
  (hR: ∀v u S gb σ a w,Rel F S gb σ a w→R v σ→PR S gb v u→v.ids=[]→Q (.panic (thrown u)) a w):o.wp P a w K' Q:=by
 obtain ⟨I,O,hspec,hc,hi,hr⟩:=hw
 have hent:=call_entry h hc hl hsl
 have hvs:PRlist S gb I.vs vs:=wkL_PR hc.vs hl
 have hglo: ∀i us,F.GL.lookup i=some us→ ∀(o:Nat) (u:Value),us[o]?=some u→S i o=some u∧u.oneCell'=true:=fun i us hi o u hu=>⟨h.le _ _ _ (h.glo i us hi o u hu).1,(h.glo i us hi o u hu).2⟩
 have hgn: ∀i,i.isNw d=true→gb i=none:=by
  intro i hi
  cases hg:gb i with
  |none=>rfl
  |some x=>
   rcases h.dom i (by rw [hg];simp) with h1|h1
   ·obtain ⟨cs,hcs⟩:=Option.isSome_iff_exists.1 h1
    have:=hc.free _ (lkB_mem _ _ _ hcs)
    simp only at this
    rw [this] at hi;cases hi
   ·cases i<;>simp [Id.isUp,Id.isNw] at h1 hi
 have hd:=hspec S gb w vs hvs hent hglo hgn
 unfold Oper.wp
 rw [hrun]
 unfold DoesP at hd
 split at hd
 ·rename_i f' as' w' he
  rw [he]
  simp only [Oper.upon_enter]
  refine hd.mono ?_
  rintro e w'' ⟨u,rfl,S',gb',hp⟩
  exact hR O.r u S' gb' _ a w'' ((h.call h2 hc hl hsl hp).unput h2) hr hp.r hi
 ·exact hd.elim
theorem opP_sound (h:Rel F S gb σ a w) {o:Oper} {p:AP} (hm:mAP P F.GL F.N o p=true) {R:AV→St→Prop} {K:St→Prop} (hw:wpo (Spec P F.GL) (SpecP P F.GL) R p K σ) {K':Act→World→Prop} {Q:Exit→Act→World→Prop}
  (hK: ∀S gb σ a w,Rel F S gb σ a w→K σ→K' a w) (hR: ∀v u S gb σ a w,Rel F S gb σ a w→R v σ→PR S gb v u→v.ids=[]→Q (.panic (thrown u)) a w):o.guard=none∧o.wp P a w K' Q:=by
 cases p with
 |ce d f xs=>
  simp only [mAP,Bool.and_eq_true,Option.isNone_iff_eq_none] at hm
  refine ⟨hm.1,?_⟩
  rcases hw with hw|hw
  ·exact op1_sound h hm.2 (ao:= .ce d f xs) (K:=K) (by simpa only [wp1] using hw) hK
  ·have hm:=hm.2
   simp only [mt1,Bool.and_eq_true,slotOk_iff] at hm
   obtain ⟨⟨h1,h2⟩,hm⟩:=hm
   split at hm<;>(try cases hm)
   rename_i f' as ts hop
   simp only [Bool.and_eq_true,beq_iff_eq] at hm
   obtain ⟨rfl,hxs⟩:=hm
   refine callP_sound h h2 h1 (mXs_sound h hxs) (fun i t hi=>mXs_slot hxs hi) ?_ hw hR
   have harr:(List.map a.eval as.toList).toArray=as.map a.eval:=by
    apply Array.ext';simp
   rw [harr]
   unfold execOp
   simp [hop,resolve,Act.eval,Deferred.ofValue,invoke]
 |cd d x xs=>
  simp only [mAP,Bool.and_eq_true,Option.isNone_iff_eq_none] at hm
  refine ⟨hm.1,?_⟩
  simp only [wpo] at hw
  split at hw
  ·rename_i f caps hv
   rcases hw with hw|hw
   ·exact op1_sound h hm.2 (ao:= .cd d x xs) (K:=K) (by simp only [wp1,hv];exact hw) hK
   ·have hm:=hm.2
    simp only [mt1,Bool.and_eq_true,slotOk_iff] at hm
    obtain ⟨⟨h1,h2⟩,hm⟩:=hm
    split at hm<;>(try cases hm)
    rename_i f' as ts hop
    simp only [Bool.and_eq_true] at hm
    obtain ⟨hx,hxs⟩:=hm
    have hx:=mX_sound h hx
    rw [hv] at hx
    simp only [PR] at hx
    obtain ⟨us,hx,hcaps⟩:=hx
    have hl:=mXs_sound h hxs
    have hall:PRlist S gb ((xs++caps.map X.c).map σ.v) (List.map a.eval as.toList++us.toList):=by
     rw [List.map_append]
     refine hl.append ?_
     have:(List.map σ.v (caps.map X.c))=caps:=by
      rw [List.map_map]
      exact (List.map_congr_left (fun c _=>rfl)).trans (List.map_id _)
     rw [this];exact hcaps
    have hlen:(List.map a.eval as.toList).length=xs.length:=by
     have:=hl.length
     simpa using this.symm
    refine callP_sound h h2 h1 hall (fun i t hi=>?_) ?_ hw hR
    ·rw [List.getElem?_append] at hi
     split at hi
     ·rename_i hlt
      rw [List.getElem?_append_left (by omega)]
      exact mXs_slot hxs hi
     ·rw [List.getElem?_map] at hi
      cases hq:caps[i - xs.length]? with
      |none=>rw [hq] at hi;cases hi
      |some c=>rw [hq] at hi;cases hi
    ·have harr:(List.map a.eval as.toList++us.toList).toArray=as.map a.eval++us:=by
      apply Array.ext';simp
     rw [harr]
     unfold execOp
     simp [hop,resolve,hx,Deferred.ofValue,invoke]
  ·cases hw
 |pn d x=>
  simp only [mAP,Bool.and_eq_true,Option.isNone_iff_eq_none] at hm
  obtain ⟨hg,hm⟩:=hm
  refine ⟨hg,?_⟩
  split at hm<;>(try cases hm)
  rename_i y hop
  have hx:=mX_sound h hm
  simp only [wpo] at hw
  split at hw
  ·rename_i T v hv
   obtain ⟨hi,hr⟩:=hw
   rw [hv] at hx
   have hx':=hx
   simp only [PR] at hx
   obtain ⟨u,hu,_⟩:=hx
   unfold Oper.wp execOp
   simp only [hop]
   rw [hu] at hx' ⊢
   simp [Instr.panic,goPanic]
   exact hR _ _ S gb σ a w h hr hx' (by simpa [AV.ids] using hi)
  ·cases hw
theorem list_sound_app {ops:Array Oper} {rest:List Oper} {K:St→Prop} {Q:Exit→Act→World→Prop} (hQ: ∀S gb σ a w,Rel F S gb σ a w→K σ→wpList P ops Q rest a w):
  ∀ {l:List Oper} {al:List AOp},mts P F.GL F.N ops l al=true→ ∀ {S:Mem} {gb:Gb} {σ:St} {a:Act} {w:World},Rel F S gb σ a w→wpL (Spec P F.GL) al K σ→wpList P ops Q (l++rest) a w
 |[],al,hm,S,gb,σ,a,w,h,hw=>by
  cases al<;>simp [mts] at hm
  exact hQ _ _ _ _ _ h hw
 |o::r,al,hm,S,gb,σ,a,w,h,hw=>by
  cases al with
  |nil=>simp [mts] at hm
  |cons ao s=>
   simp only [mts,Bool.and_eq_true] at hm
   simp only [wpL] at hw
   have:=opg_sound h hm.1 hw (K':=wpList P ops Q (r++rest)) (Q:=Q) (fun S gb σ a w h' hk=>list_sound_app hQ hm.2 h' hk)
   rw [List.cons_append]
   simp only [wpList]
   split
   ·rename_i hc;rw [if_pos hc] at this;exact .inl this
   ·rename_i hc;rw [if_neg hc] at this;exact this
theorem list3_sound {ops:Array Oper} {os:List Oper} {l:List AOp} {p:AP} {l':List AOp} (hm:mts3 P F.GL F.N ops os l p l'=true) {R:AV→St→Prop} {K:St→Prop} {Q:Exit→Act→World→Prop} (hQ: ∀S gb σ a w,Rel F S gb σ a w→K σ→Q .normal a w)
  (hR: ∀v u S gb σ a w,Rel F S gb σ a w→R v σ→PR S gb v u→v.ids=[]→Q (.panic (thrown u)) a w) (h:Rel F S gb σ a w) (hw:wpL (Spec P F.GL) l (wpo (Spec P F.GL) (SpecP P F.GL) R p (wpL (Spec P F.GL) l' K)) σ):wpList P ops Q os a w:=by
 unfold mts3 at hm
 split at hm
 ·rename_i o r hd
  simp only [Bool.and_eq_true] at hm
  have e:os=os.take l.length++o::r:=by rw [←hd,List.take_append_drop]
  rw [e]
  refine list_sound_app (K:=wpo (Spec P F.GL) (SpecP P F.GL) R p (wpL (Spec P F.GL) l' K)) ?_ hm.1.1 h hw
  intro S gb σ a w h hw
  obtain ⟨hg,hwp⟩:=opP_sound (Q:=Q) (K':=wpList P ops Q r) h hm.1.2 hw (fun S gb σ a w h hk=>list_sound hQ hm.2 h hk) hR
  simp only [wpList]
  rw [if_pos (by simp [Region.wanted,hg])]
  exact .inl hwp
 ·cases hm
theorem code2_sound {dr:Array Oper→List (List Nat)→List AOp→Bool} (hd:DrawsOk P F.GL F.N dr) {R:AV→St→Prop}: ∀ {c:Code} {ac:AC2},mC2 P F.GL F.N dr c ac=true→ ∀ {Q:AE→St→Prop} {Q':Exit→Act→World→Prop},(∀e S gb σ a w,Rel F S gb σ a w→Q e σ→Q' (toE e) a w)→
  (∀v u S gb σ a w,Rel F S gb σ a w→R v σ→PR S gb v u→v.ids=[]→Q' (.panic (thrown u)) a w)→
  ∀ {S:Mem} {gb:Gb} {σ:St} {a:Act} {w:World},Rel F S gb σ a w→wpA2 (Spec P F.GL) (SpecP P F.GL) R ac Q σ→c.wp P Q' a w:=by
 intro c
 have plain: ∀(c:Code) {ac:AC2} {a':AC},ac= .c a'→mC2 P F.GL F.N dr c ac=true→ ∀ {Q:AE→St→Prop} {Q':Exit→Act→World→Prop},(∀e S gb σ a w,Rel F S gb σ a w→Q e σ→Q' (toE e) a w)→
   ∀ {S:Mem} {gb:Gb} {σ:St} {a:Act} {w:World},Rel F S gb σ a w→wpA2 (Spec P F.GL) (SpecP P F.GL) R ac Q σ→c.wp P Q' a w:=by
  intro c ac a' e hm Q Q' hQ S gb σ a w h hw
  subst e
  have hm':mC P F.GL F.N dr c a'=true:=by cases c<;>simpa only [mC2] using hm
  exact code_sound hd hm' hQ h hw
 induction c with
 |region id ops draw=>
  intro ac hm Q Q' hQ hR S gb σ a w h hw
  cases ac
  case c a'=>exact plain _ rfl hm hQ h hw
  case rp l o l'=>
   cases draw<;>simp [mC2] at hm
   exact wp_region_list (list3_sound hm (fun S gb σ a w h' hk=>hQ .n _ _ _ _ _ h' hk) hR h hw)
  all_goals (cases draw<;>simp [mC2] at hm)
 |seq x y ihx ihy=>
  intro ac hm Q Q' hQ hR S gb σ a w h hw
  cases ac
  case c a'=>exact plain _ rfl hm hQ h hw
  case sq x' y'=>
   simp only [mC2,Bool.and_eq_true] at hm
   refine wp_seq (ihx hm.1 (Q:=AE.sq (wpA2 (Spec P F.GL) (SpecP P F.GL) R y' Q) Q) ?_ ?_ h hw)
   ·intro e S gb σ a w h' hq
    cases e
    ·exact ihy hm.2 hQ hR h' hq
    ·exact hQ (.x _) _ _ _ _ _ h' hq
    ·exact hQ .r _ _ _ _ _ h' hq
   ·exact hR
  all_goals simp [mC2] at hm
 |cond c x y ihx ihy=>
  intro ac hm Q Q' hQ hR S gb σ a w h hw
  cases ac
  case c a'=>exact plain _ rfl hm hQ h hw
  case cd c' x' y'=>
   simp only [mC2,Bool.and_eq_true] at hm
   obtain ⟨⟨hc,hx⟩,hy⟩:=hm
   have hv:=mX_sound h hc
   simp only [wpA2] at hw
   split at hw
   ·rename_i t ht
    rw [ht] at hv
    simp only [PR] at hv
    refine wp_cond hv ?_
    cases t
    ·exact ihy hy hQ hR h (by simpa using hw)
    ·exact ihx hx hQ hR h (by simpa using hw)
   ·cases hw
  all_goals simp [mC2] at hm
 |block i x ih=>
  intro ac hm Q Q' hQ hR S gb σ a w h hw
  cases ac
  case c a'=>exact plain _ rfl hm hQ h hw
  case bl j x'=>
   simp only [mC2,Bool.and_eq_true,beq_iff_eq] at hm
   obtain ⟨rfl,hx⟩:=hm
   refine wp_block (ih hx (Q:=AE.bl i Q) ?_ ?_ h hw)
   ·intro e S gb σ a w h' hq
    cases e
    ·exact hQ .n _ _ _ _ _ h' hq
    ·rename_i j
     simp only [toE,Exit.inBlock]
     simp only [AE.bl] at hq
     split at hq
     ·rename_i e;rw [if_pos e];exact hQ .n _ _ _ _ _ h' hq
     ·rename_i e;rw [if_neg e];exact hQ (.x _) _ _ _ _ _ h' hq
    ·exact hQ .r _ _ _ _ _ h' hq
   ·exact hR
  all_goals simp [mC2] at hm
 |loop x ih=>
  intro ac hm Q Q' hQ hR S gb σ a w h hw
  cases ac
  case c a'=>exact plain _ rfl hm hQ h hw
  case lp x'=>
   simp only [mC2] at hm
   simp only [wpA2] at hw
   obtain ⟨n,hn⟩:=hw
   intro b k cs
   have key: ∀n S gb σ a w,Rel F S gb σ a w→itA (wpA2 (Spec P F.GL) (SpecP P F.GL) R x') Q n σ→ ∃e a' w',Q' e a' w'∧Arrives P (lone (b.at a (.code x:: .inLoop x::k)) cs w) b k cs e a' w':=by
    intro n
    induction n with
    |zero=>intro S gb σ a w h hn;exact hn.elim
    |succ n ihn=>
     intro S gb σ a w h hn
     obtain ⟨τ,hτ,hb⟩:=hn
     obtain ⟨gb',h'⟩:=h.weakR hτ
     obtain ⟨e,a₁,w₁,hq,harr⟩:=ih hm (Q:=AE.sq (itA (wpA2 (Spec P F.GL) (SpecP P F.GL) R x') Q n) Q) (Q':=Exit.then (fun a w=> ∃S gb σ,Rel F S gb σ a w∧itA (wpA2 (Spec P F.GL) (SpecP P F.GL) R x') Q n σ) Q') (by
      intro e S gb σ a w h'' hq
      cases e
      ·exact ⟨_,_,_,h'',hq⟩
      ·exact hQ (.x _) _ _ _ _ _ h'' hq
      ·exact hQ .r _ _ _ _ _ h'' hq) hR h' hb b (.inLoop x::k) cs
     cases e with
     |normal=>
      obtain ⟨S1,gb1,σ1,h1,hi1⟩:=hq
      obtain ⟨e₂,a₂,w₂,hq₂,harr₂⟩:=ihn _ _ _ _ _ h1 hi1
      exact ⟨e₂,a₂,w₂,hq₂,.of_steps (Steps.trans harr (.one step_inLoop)) harr₂⟩
     |exit id=>exact ⟨_,a₁,w₁,hq,.pass (x:= .inLoop x) rfl (fun _ _=> .inl (by simp)) harr⟩
     |goto l=>exact ⟨_,a₁,w₁,hq,.pass (x:= .inLoop x) rfl (fun _ _=> .inl (by simp)) harr⟩
     |ret=>exact ⟨_,a₁,w₁,hq,.pass (x:= .inLoop x) rfl (fun _ _=> .inl (by simp)) harr⟩
     |panic ch=>exact ⟨_,a₁,w₁,hq,.pass (x:= .inLoop x) rfl (fun _ _=> .inl (by simp)) harr⟩
     |outgrown=>exact ⟨_,a₁,w₁,hq,.pass (x:= .inLoop x) rfl (fun _ _=> .inl (by simp)) harr⟩
   obtain ⟨e,a',w',hq,harr⟩:=key n _ _ _ _ _ h hn
   exact ⟨e,a',w',hq,.of_steps (.one step_loop) harr⟩
  all_goals simp [mC2] at hm
 |scope x ih=>
  intro ac hm Q Q' hQ hR S gb σ a w h hw
  cases ac
  case c a'=>exact plain _ rfl hm hQ h hw
  case sc x'=>
   simp only [mC2] at hm
   refine wp_scope_straight (ih hm (Q:=Q) ?_ ?_ h hw)
   ·intro e S gb σ a w h' hq
    cases e<;>exact hQ _ _ _ _ _ _ h' hq
   ·exact hR
  all_goals simp [mC2] at hm
 |_=>
  intro ac hm Q Q' hQ hR S gb σ a w h hw
  cases ac
  case c a'=>exact plain _ rfl hm hQ h hw
  all_goals simp [mC2] at hm

structure AF2 where
 c:AC2
 rs:List AR
 np:Nat
 N:Nat
def mF2 (P:Program) (GL:List (Nat×List Value)) (dr:Array Oper→List (List Nat)→List AOp→Bool) (fn:Func) (f:AF2):Bool:=
 fn.name != "runtime.NumGoroutine"&&fn.params.size+fn.nfree==f.np&&fn.ntmps==f.N&&Nat.ble f.np f.N&&mRs P f.rs fn.results.toList&&(match fn.body with |some c=>mC2 P GL f.N dr c f.c|none=>false)
@[irreducible] def SpT (P:Program) (GL:List (Nat×List Value)) (f d:Nat) (I:In) (O:Out):Prop:=SpecP P GL f d I O
theorem spt_eq (P:Program) (GL:List (Nat×List Value)):SpT P GL=SpecP P GL:=by funext f d I O;unfold SpT;rfl
def postT (d:Nat) (O:Out) (v:AV) (σ:St):Prop:=v=O.r∧(∀p∈O.pm,∃b o,p.1= .b b o)∧OutOk d [] ⟨.tup [],O.bx,O.pm⟩ σ
theorem HR.svB {bx:List (Id×List AV)} {pm:List (Pl×Nat)} {sv sv':Nat→Value} (h:HR S gb bx pm sv w) (hp: ∀p k,lkP pm p=some k→ ∃b o,p= .b b o):HR S gb bx pm sv' w:=by
 have e: ∀p k,lkP pm p=some k→plv gb sv' w p=plv gb sv w p:=by
  intro p k hk
  obtain ⟨b,o,rfl⟩:=hp p k hk
  rfl
 refine ⟨h.agree,h.box,h.its,h.inj,?_,?_,?_,h.pmb⟩
 ·intro p k hk;rw [e p k hk];exact h.own p k hk
 ·intro p q k l b hk hl h1 h2
  rw [e p k hk] at h1
  rw [e q l hl] at h2
  exact h.ownd p q k l b hk hl h1 h2
 ·intro p k b d z hk h1
  rw [e p k hk] at h1
  exact h.ownb p k b d z hk h1
theorem fun_soundP {GL:List (Nat×List Value)} {dr:Array Oper→List (List Nat)→List AOp→Bool} {f:Nat} {fn:Func} {af:AF2} (hf:P.funcs[f]?=some fn) (hm:mF2 P GL dr fn af=true) (hd:DrawsOk P GL af.N dr) {d:Nat} {I:In} {O:Out} (hl:I.vs.length=af.np)
  (hw:wpA2 (Spec P GL) (SpecP P GL) (postT d O) af.c (fun _ _=>False) (inSt I)):SpecP P GL f d I O:=by
 simp only [mF2,Bool.and_eq_true,bne_iff_ne,beq_iff_eq] at hm
 obtain ⟨⟨⟨⟨⟨h1,h2⟩,h3⟩,h4⟩,h5⟩,h6⟩:=hm
 split at h6<;>(try cases h6)
 rename_i c hb
 have h4:=Nat.le_of_ble_eq_true h4
 intro S gb w vs hvs hhr hglo hnw
 have hlen:vs.length=I.vs.length:=hvs.length.symm
 unfold DoesP
 have hcall:(callFunc f vs.toArray).run P w= .ok (.enter f vs.toArray) w:=by
  simp [callFunc,hf,hb,h1]
 rw [hcall]
 refine calls_of_wp hf hb ?_
 let F:Fr:=⟨S,w,MS I gb (fun t=>vs.getD t undef) w,gb,af.N,GL,[]⟩
 have hsv:tv {tmps:=vs.toArray++Array.replicate (fn.ntmps - vs.toArray.size) undef,defers:=[]}=fun t=>vs.getD t undef:=by
  funext t;exact tv_init
 have hup:=hhr.up
 have hrel:Rel F S (gbUp gb) (inSt I) {tmps:=vs.toArray++Array.replicate (fn.ntmps - vs.toArray.size) undef,defers:=[]} w:=by
  refine ⟨rfl,?_,Bw.refl _ _,fun _ _ _ _=>rfl,Mem.le.refl _,?_,by rw [hsv];exact hup,?_,?_,?_,fun d=>rfl,hglo⟩
  ·show (vs.toArray++Array.replicate (fn.ntmps - vs.toArray.size) undef).size=af.N
   simp;omega
  ·intro t
   have:=(lk_initE (PRlist_up _ _ hvs) 0 t).2 t (by omega)
   rw [tv_init]
   exact this
  ·intro i g z hi hq
   obtain ⟨c1,hc1⟩:=Option.isSome_iff_exists.1 hi
   obtain ⟨j,cs,rfl,hj,_⟩:=lkB_mpB_some up_inj hc1
   exact .inr (.inl ⟨j,z,by rw [hj];rfl,hq⟩)
  ·intro p k g hp hg
   obtain ⟨q,rfl,hq⟩:=lkP_mpP up_inj hp
   rw [hsv,plv_up] at hg
   exact .inr (.inr ⟨q,k,hq,hg⟩)
  ·intro i hi
   cases i<;>simp [gbUp,Id.isUp] at hi ⊢
 refine code2_sound (F:=F) hd h6 (Q:=fun _ _=>False) (R:=postT d O) (fun _ _ _ _ _ _ _ hq=>hq.elim) ?_ hrel hw
 rintro v u S' gb' σ' a' w' hr ⟨rfl,hpm,hok⟩ hp hi
 have hv:resA σ' []=some []:=rfl
 obtain ⟨o1,o2,o3,o4⟩:=hr.out hok hv (us:=[]) (by simp [PRlist]) (fun i s hi=>by simp at hi) rfl
 refine ⟨hr.defers,u,rfl,S',gbOut d gb' O.bx,hr.bw,hr.ext,hr.le,?_,?_,PR.noids _ _ hi hp,o2.svB (fun p k hk=>hpm _ (lkP_mem _ _ _ hk)),o3,?_⟩
 ·intro i hi
  have:gbOut d gb' O.bx i=gb' (i.inn d):=gbOut_ok (fun e=>by rw [hi] at e;cases e)
  rw [this,inn_notNw hi]
  exact hr.up i
 ·intro i hi hne
  simp only [gbOut] at hne
  split at hne
  ·exact absurd rfl hne
  ·rename_i hno
   cases hs:(lkB O.bx i).isSome with
   |true=>rfl
   |false=>exact absurd ⟨hi,hs⟩ hno
 ·intro p k g hk hg
  obtain ⟨b,o,e⟩:=hpm _ (lkP_mem _ _ _ hk)
  simp only at e
  subst e
  exact o4 _ k g hk hg
theorem fun_soundR {GL:List (Nat×List Value)} {dr:Array Oper→List (List Nat)→List AOp→Bool} {f:Nat} {fn:Func} {af:AF2} (hf:P.funcs[f]?=some fn) (hm:mF2 P GL dr fn af=true) (hd:DrawsOk P GL af.N dr) {d:Nat} {I:In} {O:Out} (hl:I.vs.length=af.np)
  (hw:wpA2 (Spec P GL) (SpecP P GL) (fun _ _=>False) af.c (postH d af.rs O) (inSt I)):Spec P GL f d I O:=by
 simp only [mF2,Bool.and_eq_true,bne_iff_ne,beq_iff_eq] at hm
 obtain ⟨⟨⟨⟨⟨h1,h2⟩,h3⟩,h4⟩,h5⟩,h6⟩:=hm
 split at h6<;>(try cases h6)
 rename_i c hb
 have h4:=Nat.le_of_ble_eq_true h4
 intro S gb w vs hvs hhr hglo hnw
 have hlen:vs.length=I.vs.length:=hvs.length.symm
 unfold Does
 have hcall:(callFunc f vs.toArray).run P w= .ok (.enter f vs.toArray) w:=by
  simp [callFunc,hf,hb,h1]
 rw [hcall]
 refine calls_of_wp hf hb ?_
 let F:Fr:=⟨S,w,MS I gb (fun t=>vs.getD t undef) w,gb,af.N,GL,[]⟩
 have hsv:tv {tmps:=vs.toArray++Array.replicate (fn.ntmps - vs.toArray.size) undef,defers:=[]}=fun t=>vs.getD t undef:=by
  funext t;exact tv_init
 have hup:=hhr.up
 have hrel:Rel F S (gbUp gb) (inSt I) {tmps:=vs.toArray++Array.replicate (fn.ntmps - vs.toArray.size) undef,defers:=[]} w:=by
  refine ⟨rfl,?_,Bw.refl _ _,fun _ _ _ _=>rfl,Mem.le.refl _,?_,by rw [hsv];exact hup,?_,?_,?_,fun d=>rfl,hglo⟩
  ·show (vs.toArray++Array.replicate (fn.ntmps - vs.toArray.size) undef).size=af.N
   simp;omega
  ·intro t
   have:=(lk_initE (PRlist_up _ _ hvs) 0 t).2 t (by omega)
   rw [tv_init]
   exact this
  ·intro i g z hi hq
   obtain ⟨c1,hc1⟩:=Option.isSome_iff_exists.1 hi
   obtain ⟨j,cs,rfl,hj,_⟩:=lkB_mpB_some up_inj hc1
   exact .inr (.inl ⟨j,z,by rw [hj];rfl,hq⟩)
  ·intro p k g hp hg
   obtain ⟨q,rfl,hq⟩:=lkP_mpP up_inj hp
   rw [hsv,plv_up] at hg
   exact .inr (.inr ⟨q,k,hq,hg⟩)
  ·intro i hi
   cases i<;>simp [gbUp,Id.isUp] at hi ⊢
 refine code2_sound (F:=F) hd h6 (Q:=postH d af.rs O) (R:=fun _ _=>False) ?_ (fun _ _ _ _ _ _ _ _ hq=>hq.elim) hrel hw
 intro e S0' gb0' σ0 a' w' hr0 hq0
 have fin: ∀σ0,Rel F S0' gb0' σ0 a' w'→(∃τ,Frzs σ0 τ∧OutOk d af.rs O τ)→a'.defers=[]∧ ∃v,(results fn a'.tmps).run P w'= .ok v w'∧(∃u,Ending.returned v= .returned u∧ ∃S'' gb'',PostR d I O S gb (fun t=>vs.getD t undef) w S'' gb'' u w'):=by
  rintro σ0 hr0 ⟨τ,hfz,hok⟩
  obtain ⟨S',gb',hr⟩:=hr0.frzs hfz
  refine ⟨hr.defers,?_⟩
  have hr':=hok.r
  split at hr'
  ·rename_i vs' hv
   obtain ⟨us,hrun,g2,g3⟩:=res_run (P:=P) hr h5 hv
   obtain ⟨o1,o2,o3,o4⟩:=hr.out hok hv g2 g3 (by rw [←g2.length];exact (mRs_length (qs:=[]) hv).symm)
   refine ⟨_,hrun,_,rfl,S',gbOut d gb' O.bx,hr.bw,hr.ext,hr.le,?_,?_,o1,o2,o3,o4⟩
   ·intro i hi
    have:gbOut d gb' O.bx i=gb' (i.inn d):=gbOut_ok (fun e=>by rw [hi] at e;cases e)
    rw [this,inn_notNw hi]
    exact hr.up i
   ·intro i hi hne
    simp only [gbOut] at hne
    split at hne
    ·exact absurd rfl hne
    ·rename_i hno
     cases hs:(lkB O.bx i).isSome with
     |true=>rfl
     |false=>exact absurd ⟨hi,hs⟩ hno
  ·cases hr'
 cases e
 ·exact fin _ hr0 hq0
 ·exact hq0.elim
 ·exact fin _ hr0 hq0
theorem fun_spT {P:Program} {GL:List (Nat×List Value)} {dr:Array Oper→List (List Nat)→List AOp→Bool} {f:Nat} {fn:Func} {af:AF2} (hf:P.funcs[f]?=some fn) (hm:mF2 P GL dr fn af=true) (hd:DrawsOk P GL af.N dr) {d:Nat} {I:In} {O:Out} (hl:I.vs.length=af.np)
  (hw:wpA2 (SpH P GL) (SpT P GL) (postT d O) af.c (fun _ _=>False) (inSt I)):SpT P GL f d I O:=by
 rw [sph_eq,spt_eq] at hw;rw [spt_eq];exact fun_soundP hf hm hd hl hw
theorem fun_spR {P:Program} {GL:List (Nat×List Value)} {dr:Array Oper→List (List Nat)→List AOp→Bool} {f:Nat} {fn:Func} {af:AF2} (hf:P.funcs[f]?=some fn) (hm:mF2 P GL dr fn af=true) (hd:DrawsOk P GL af.N dr) {d:Nat} {I:In} {O:Out} (hl:I.vs.length=af.np)
  (hw:wpA2 (SpH P GL) (SpT P GL) (fun _ _=>False) af.c (postH d af.rs O) (inSt I)):SpH P GL f d I O:=by
 rw [sph_eq,spt_eq] at hw;rw [sph_eq];exact fun_soundR hf hm hd hl hw
section
variable {S SP:Nat→Nat→In→Out→Prop} {R:AV→St→Prop} {Q:AE→St→Prop} {σ:St} {K:St→Prop}
@[simp] theorem wpA2_c {a}:wpA2 S SP R (.c a) Q σ=wpA S a Q σ:=rfl
@[simp] theorem wpA2_rp {l o l'}:wpA2 S SP R (.rp l o l') Q σ=wpL S l (wpo S SP R o (wpL S l' (Q .n))) σ:=rfl
@[simp] theorem wpA2_sq {a b}:wpA2 S SP R (.sq a b) Q σ=wpA2 S SP R a (AE.sq (wpA2 S SP R b Q) Q) σ:=rfl
@[simp] theorem wpA2_bl {i a}:wpA2 S SP R (.bl i a) Q σ=wpA2 S SP R a (AE.bl i Q) σ:=rfl
@[simp] theorem wpA2_sc {a}:wpA2 S SP R (.sc a) Q σ=wpA2 S SP R a Q σ:=rfl
@[simp] theorem wpA2_cd {x a b}:wpA2 S SP R (.cd x a b) Q σ=onB (wpA2 S SP R a Q) (wpA2 S SP R b Q) σ (σ.v x):=rfl
def onP (S SP:Nat→Nat→In→Out→Prop) (R:AV→St→Prop) (f d:Nat) (xs:List X) (K:St→Prop) (σ:St):Prop:=wpC S f d xs K σ∨wpCP SP R f d xs σ
def onPd (S SP:Nat→Nat→In→Out→Prop) (R:AV→St→Prop) (d:Nat) (xs:List X) (K:St→Prop) (σ:St):AV→Prop
 | .fn f caps=>onP S SP R f d (xs++caps.map X.c) K σ
 |_=>False
def onT (R:AV→St→Prop) (σ:St):AV→Prop
 | .ifc T v=>v.ids=[]∧R (.ifc T v) σ
 |_=>False
@[simp] theorem wpo_ce {d f xs}:wpo S SP R (.ce d f xs) K σ=onP S SP R f d xs K σ:=rfl
@[simp] theorem wpo_cd {d x xs}:wpo S SP R (.cd d x xs) K σ=onPd S SP R d xs K σ (σ.v x):=by
 simp only [wpo];unfold onPd onP;cases σ.v x<;>rfl
@[simp] theorem onPd_fn {d xs f caps}:onPd S SP R d xs K σ (.fn f caps)=onP S SP R f d (xs++caps.map X.c) K σ:=rfl
@[simp] theorem wpo_pn {d x}:wpo S SP R (.pn d x) K σ=onT R σ (σ.v x):=by
 simp only [wpo];unfold onT;cases σ.v x<;>rfl
@[simp] theorem onT_ifc {T v}:onT R σ (.ifc T v)=(v.ids=[]∧R (.ifc T v) σ):=rfl
end
theorem onP_h {P:Program} {GL:List (Nat×List Value)} {SP:Nat→Nat→In→Out→Prop} {R:AV→St→Prop} {K:St→Prop} {σ:St} {f d:Nat} {xs:List X} (I:In) (O:Out) (h:SpH P GL f d I O) (hc:CallOk d σ xs I O) (hk:K (callSt d σ xs I O)):onP (SpH P GL) SP R f d xs K σ:= .inl ⟨I,O,h,hc,hk⟩
theorem onP_t {P:Program} {GL:List (Nat×List Value)} {S:Nat→Nat→In→Out→Prop} {R:AV→St→Prop} {K:St→Prop} {σ:St} {f d:Nat} {xs:List X} (I:In) (O:Out) (h:SpT P GL f d I O) (hc:CallOk d σ xs I O) (hi:O.r.ids=[]) (hk:R O.r (callP d σ xs I O)):onP S (SpT P GL) R f d xs K σ:= .inr ⟨I,O,h,hc,hi,hk⟩
attribute [simp] callP
end Go.Ai
