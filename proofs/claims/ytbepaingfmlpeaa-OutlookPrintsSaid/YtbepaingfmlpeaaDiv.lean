/- YtbepaingfmlpeaaDiv: part of the abstract interpreter library (values, rules, soundness against the model) or of what a function of the seat computes. Conditions: as each theorem says. -/
import Derived.Test.YtbepaingfmlpeaaNum
set_option linter.unusedSimpArgs false
set_option linter.unusedVariables false
namespace Go.Ai
open Go.Proofs

/-! ### Plain laws of Knuth's division -/
theorem mul_split (q y1 y0 : Nat) : q * (y1 * 4294967296 + y0) = q * y1 * 4294967296 + q * y0 := by rw [Nat.mul_add, Nat.mul_assoc]
theorem un_split {q y1 r un : Nat} (he : q * y1 + r = un) : un * 4294967296 = q * y1 * 4294967296 + r * 4294967296 := by
  have := congrArg (fun x => x * 4294967296) he
  simp only [Nat.add_mul] at this
  exact this.symm
theorem div_lt_of {N Y q : Nat} (hY : 0 < Y) (h : N < q * Y) : N / Y < q := (Nat.div_lt_iff_lt_mul hY).2 h
theorem lin1 {A B r v un y1 y0 : Nat} (he : A + r = un) (hun : un < y1 * 4294967296 + y0) (hv : v < 4294967296) (h3 : 4294967296 * y1 ≤ A) (h4 : 4294967296 * y0 ≤ B) : A * 4294967296 + r * 4294967296 + v < A * 4294967296 + B := by omega
theorem lin2 {A B r v : Nat} (h : r * 4294967296 + v < B) : A * 4294967296 + r * 4294967296 + v < A * 4294967296 + B := Nat.lt_of_le_of_lt (Nat.le_of_eq (Nat.add_assoc _ _ _)) (Nat.add_lt_add_left h _)
theorem lin3 {A B r v : Nat} (h : B ≤ r * 4294967296 + v) : A * 4294967296 + B ≤ A * 4294967296 + r * 4294967296 + v := by omega
/-- The guess is never too small, and the loop's two ends find it right. -/
theorem digit_step {un v y1 y0 q r D : Nat} (hun : un < y1 * 4294967296 + y0) (hy0 : y0 < 4294967296) (hy1 : 2147483648 ≤ y1) (hv : v < 4294967296)
    (hD : D = (un * 4294967296 + v) / (y1 * 4294967296 + y0))
    (hq : D ≤ q) (he : q * y1 + r = un) (hbad : 4294967296 ≤ q ∨ r * 4294967296 + v < q * y0) :
    1 ≤ q ∧ D ≤ q - 1 := by
  have hpos : 0 < y1 * 4294967296 + y0 := by clear hD; omega
  have h2 : D < q := by
    rw [hD]
    apply div_lt_of hpos
    clear hD hq
    rw [mul_split, un_split he]
    rcases hbad with h | h
    · exact lin1 he hun hv (Nat.mul_le_mul_right y1 h) (Nat.mul_le_mul_right y0 h)
    · exact lin2 h
  clear hD
  omega
theorem digit_end {un v y1 y0 q r D : Nat} (hy1 : 2147483648 ≤ y1) (hD : D = (un * 4294967296 + v) / (y1 * 4294967296 + y0))
    (hq : D ≤ q) (he : q * y1 + r = un) (hok : q * y0 ≤ r * 4294967296 + v) :
    q = D := by
  have hpos : 0 < y1 * 4294967296 + y0 := by clear hD; omega
  have : q ≤ D := by
    rw [hD]
    apply (Nat.le_div_iff_mul_le hpos).2
    clear hD hq
    rw [mul_split, un_split he]
    exact lin3 hok
  clear hD
  omega
theorem guess_hi {un y1 y0 : Nat} (hun : un < y1 * 4294967296 + y0) (hy0 : y0 < 4294967296) (hy1 : 2147483648 ≤ y1) : un / y1 ≤ 4294967297 := by
  have : un / y1 < 4294967298 := by
    apply (Nat.div_lt_iff_lt_mul (by omega)).2
    omega
  omega
theorem guess_lo {un v y1 y0 : Nat} (hy0 : y0 < 4294967296) (hy1 : 2147483648 ≤ y1) (hv : v < 4294967296) : (un * 4294967296 + v) / (y1 * 4294967296 + y0) ≤ un / y1 := by
  have hpos : 0 < y1 * 4294967296 + y0 := by omega
  have h1 : (un * 4294967296 + v) / (y1 * 4294967296 + y0) ≤ (un * 4294967296 + v) / (y1 * 4294967296) := Nat.div_le_div_left (Nat.le_add_right _ _) (Nat.mul_pos (by omega) (by decide))
  have h2 : (un * 4294967296 + v) / (y1 * 4294967296) = un / y1 := by
    rw [Nat.mul_comm y1, ← Nat.div_div_eq_div_mul]
    congr 1
    omega
  omega
theorem digit_over {y0 q r v : Nat} (hy0 : y0 < 4294967296) (hq : q ≤ 4294967297) (hr : 4294967296 ≤ r) : q * y0 ≤ r * 4294967296 + v := by
  have h1 : q * y0 ≤ 4294967297 * 4294967295 := Nat.mul_le_mul hq (by omega)
  have h2 : 4294967296 * 4294967296 ≤ r * 4294967296 := Nat.mul_le_mul_right _ hr
  omega
theorem or_shift (a b s : Nat) (hb : b < 2 ^ s) : a * 2 ^ s ||| b = a * 2 ^ s + b := by
  rw [← Nat.shiftLeft_eq, Nat.shiftLeft_add_eq_or_of_lt hb]
end Go.Ai
