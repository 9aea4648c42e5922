/- YtmbnoejneocmmaaGreatDoorP4: part of the abstract interpreter library (values, rules, soundness against the model) or of what a function of the seat computes. Conditions: as each theorem says. -/
import Derived.Test.YtmbnoejneocmmaaGreatDoorP2
import Derived.Test.YtmbnoejneocmmaaGreatDoorP3
set_option linter.unusedSimpArgs false
set_option linter.unusedVariables false
namespace Go.Ai
open Go.Proofs
end Go.Ai
set_option linter.unusedSimpArgs false
set_option linter.unusedVariables false
namespace Go.Ai
open Go.Proofs
end Go.Ai
set_option linter.unusedSimpArgs false
set_option linter.unusedVariables false
namespace Go.Ai
open Go.Proofs
end Go.Ai
set_option linter.unusedSimpArgs false
set_option linter.unusedVariables false
namespace Go.Ai
open Go.Proofs
end Go.Ai
set_option linter.unusedSimpArgs false
set_option linter.unusedVariables false
namespace Go.Ai
open Go.Proofs
/-! ### Runes -/
theorem get_at (s : List UInt8) (i : Nat) (h : i < s.length) : (ByteArray.mk s.toArray).get! (i + 0) = s[i] := by
  show (ByteArray.mk s.toArray).get! i = _
  simp [ByteArray.get!, getElem!_pos, h]
theorem rune_lo {s : List UInt8} {i : Nat} (h : i < s.length) (hb : s[i].toNat < 128) : runeAt s i = ((s[i].toNat : Int), 1) := by
  unfold runeAt Utf8.decode
  simp only [get_at s i h, hb, if_true]
theorem rune_hi {s : List UInt8} {i : Nat} (h : i < s.length) (hb : ¬ s[i].toNat < 128) : 128 ≤ (runeAt s i).1 := by
  unfold runeAt Utf8.decode
  simp only [get_at s i h, hb, if_false, Utf8.runeError]
  generalize (ByteArray.mk s.toArray).get! (i + 1) = x1
  generalize (ByteArray.mk s.toArray).get! (i + 2) = x2
  generalize (ByteArray.mk s.toArray).get! (i + 3) = x3
  generalize (s[i]).toNat = b at *
  split
  · split
    · simp only []; omega
    · simp only []; omega
  · split
    · split
      · rename_i h2; simp only [Bool.and_eq_true, decide_eq_true_eq] at h2; simp only []; omega
      · simp only []; omega
    · split
      · split
        · rename_i h2; simp only [Bool.and_eq_true, decide_eq_true_eq] at h2; simp only []; omega
        · simp only []; omega
      · simp only []; omega
theorem rune_pos {s : List UInt8} {i : Nat} : 1 ≤ (runeAt s i).2 := by
  unfold runeAt Utf8.decode
  simp only [Utf8.runeError]
  repeat' split
  all_goals (simp only []; omega)
end Go.Ai
set_option linter.unusedSimpArgs false
set_option linter.unusedVariables false
namespace Go.Ai
open Go.Proofs
end Go.Ai
