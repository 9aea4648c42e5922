/- AiShelf2: a part of the proof: the rules, or what functions compute. Conditions: as each theorem says. -/
import Derived.Test.YtidcomakahbepaaGreatDoorAiShelf
import Derived.Shelf.Strconv.Itoa3
set_option linter.unusedSimpArgs false
set_option linter.unusedVariables false
namespace Go.Ai
open Go.RowKit
theorem shelf_specG {P:Program} {GL:List (Nat×List Value)} {f:Nat} {fn:Func} (hf:P.funcs[f]?=some fn) (hname:(fn.name== "runtime.NumGoroutine")=false) (hb:fn.body.isSome=true) {l:List AV} {r:AV}
  (h: ∀(S:Mem) (gb:Gb) (w:World) (vs:List Value),PRlist S gb l vs→(∀g o v,S g o=some v→w.cell? ⟨g,o,none⟩=some v)→
   (∀i us,GL.lookup i=some us→ ∀(o:Nat) (u:Value),us[o]?=some u→w.cell? ⟨i,o,none⟩=some u)→
   Calls P f vs.toArray w fun e w'=> ∃v,e= .returned v∧Below w.heap.size w w'∧PR S gb r v):Sp P GL f l r:=by
 rw [sp_eq]
 intro d S gb w vs hvs hhr hglo hnw
 have h1:=h S gb w vs hvs hhr.agree (fun i us hi o u hu=>hhr.agree _ _ _ (hglo i us hi o u hu).1)
 unfold Does
 have hcall:(callFunc f vs.toArray).run P w= .ok (.enter f vs.toArray) w:=by
  obtain ⟨c,hc⟩:=Option.isSome_iff_exists.1 hb
  have hn: ¬fn.name= "runtime.NumGoroutine":=by simpa using hname
  simp [callFunc,hf,hc,hn]
 rw [hcall]
 refine h1.mono fun e w' ⟨v,he,hbel,hp⟩=>⟨v,he,S,gb,Bw.of_below hbel,fun _ _ _ _=>rfl,Mem.le.refl _,fun _ _=>rfl,fun i hi hne=>absurd (hnw i hi) hne,hp,⟨?_,?_,?_,?_,?_,?_,?_,?_⟩,?_,?_⟩
 ·intro g o u hu
  have:=hhr.agree g o u hu
  have hlt:=World.block_lt_of_cell? w _ this
  rw [hbel.cell (p:=⟨g,o,none⟩) (by simpa using hlt)];exact this
 ·intro d cs hcs;simp [lkB] at hcs
 ·intro d cs hcs;simp [lkB] at hcs
 ·intro d d' g z z' hg;simp [lkB] at hg
 ·intro p k hk;simp [lkP] at hk
 ·intro p q k l b hk;simp [lkP] at hk
 ·intro p k b d z hk;simp [lkP] at hk
 ·intro d off k hk;simp [lkP] at hk
 ·intro d g z hg;simp [lkB] at hg
 ·intro p k g hk;simp [lkP] at hk
end Go.Ai
