/- P15: a part of the proof: the rules, or what functions compute. Conditions: as each theorem says. -/
import Derived.Test.YtidcomakahbepaaGreatDoorP14
set_option linter.unusedSimpArgs false
set_option linter.unusedVariables false
set_option maxRecDepth 20000
namespace Go.Ai
open Go.Proofs Go.Lib
set_option maxRecDepth 100000
theorem gl_is : gl = [(2, firstCells), (3, accCells)] := by kernel_rfl
theorem u8_glo (W : World) (h : laidMet Tryz.prog [("unicode/utf8.acceptRanges", acceptData), ("unicode/utf8.first", firstData)] W) : ∀ i us, List.lookup i gl = some us → ∀ (o : Nat) (u : Value), us[o]? = some u → W.cell? ⟨i, o, none⟩ = some u ∧ u.oneCell' = true := by
 intro i us hi o u hu
 rw [gl_is] at hi
 simp only [List.lookup] at hi
 split at hi
 ·rename_i e
  have e := eq_of_beq e
  subst e
  obtain rfl := Option.some.inj hi
  exact first_cell (laidMet.reads h (by simp)) o u hu
 ·split at hi
  ·rename_i e
   have e := eq_of_beq e
   subst e
   obtain rfl := Option.some.inj hi
   exact acc_cell (laidMet.reads h (by simp)) o u hu
  ·cases hi
end Go.Ai
