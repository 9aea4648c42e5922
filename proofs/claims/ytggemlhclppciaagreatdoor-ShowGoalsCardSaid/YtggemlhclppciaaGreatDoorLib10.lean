/- Lib10: a part of the proof: the rules, or what functions compute. Conditions: as each theorem says. -/
import Derived.Test.YtggemlhclppciaaGreatDoorLib7
import Derived.Laws.Externs
set_option linter.unusedSimpArgs false
set_option linter.unusedVariables false
namespace Go.Ai
open Go.RowKit
theorem PostR.pure {d:Nat} {l:List AV} {r:AV} {S:Mem} {gb:Gb} {sv:Nat→Value} {w:World} {v:Value} (hhr:HR S gb [] [] sv w) (hnw: ∀i,i.isNw d=true→gb i=none) (hp:PR S gb r v):
  PostR d ⟨l,[],[]⟩ ⟨r,[],[]⟩ S gb sv w S gb v w:=by
 refine ⟨Bw.refl _ _,fun _ _ _ _=>rfl,Mem.le.refl _,fun _ _=>rfl,fun i hi hne=>absurd (hnw i hi) hne,hp,⟨hhr.agree,?_,?_,?_,?_,?_,?_,?_⟩,?_,?_⟩
 ·intro d cs hcs;simp [lkB] at hcs
 ·intro d cs hcs;simp [lkB] at hcs
 ·intro d d' g z z' hg;simp [lkB] at hg
 ·intro p k hk;simp [lkP] at hk
 ·intro p q k l b hk;simp [lkP] at hk
 ·intro p k b d z hk;simp [lkP] at hk
 ·intro d off k hk;simp [lkP] at hk
 ·intro d g z hg;simp [lkB] at hg
 ·intro p k g hk;simp [lkP] at hk
@[simp] theorem wkL_refl: ∀(l:List AV),wkL l l
 |[]=>trivial
 |v::r=>⟨.inl rfl,wkL_refl r⟩
end Go.Ai
