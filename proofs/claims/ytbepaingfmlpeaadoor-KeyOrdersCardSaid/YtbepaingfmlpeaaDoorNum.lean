/- YtbepaingfmlpeaaDoorNum: part of the abstract interpreter library (values, rules, soundness against the model) or of what a function of the seat computes. Conditions: as each theorem says. -/
import Derived.Test.YtbepaingfmlpeaaDoorCode
import Derived.Laws.Bits64b
set_option linter.unusedSimpArgs false
set_option linter.unusedVariables false
namespace Go.Ai
open Go.Proofs
abbrev u (n : Nat) : AV := .int .u64 n
def wide (n : Nat) : AV := .agg [u (n / 18446744073709551616), u (n % 18446744073709551616)]
abbrev i6 (n : Int) : AV := .int .i64 n

theorem sh32 (x : Int) : x.fdiv (2 ^ min 32 IntKind.u64.bits) = x / 4294967296 := by
  have : (2 : Int) ^ min 32 IntKind.u64.bits = 4294967296 := by decide
  rw [this]; exact Int.fdiv_eq_ediv_of_nonneg _ (by decide)
theorem mask32 (n : Int) (h1 : 0 ≤ n) (h2 : n < 18446744073709551616) : bits BinOp.and IntKind.u64 n 4294967295 = n % 4294967296 := by
  obtain ⟨m, rfl⟩ := Int.eq_ofNat_of_zero_le h1
  have := bits_and_u64_nat m 4294967295 (by omega) (by omega)
  rw [show ((4294967295 : Nat) : Int) = 4294967295 from rfl] at this
  rw [this, show (4294967295 : Nat) = 2 ^ 32 - 1 from rfl, Nat.and_two_pow_sub_one_eq_mod]
  omega
theorem mul_law (x1 x0 y1 y0 : Int) (h1 : 0 ≤ x1) (h2 : x1 < 4294967296) (h3 : 0 ≤ x0) (h4 : x0 < 4294967296) (h5 : 0 ≤ y1) (h6 : y1 < 4294967296) (h7 : 0 ≤ y0) (h8 : y0 < 4294967296) :
    ((x1 * y1 % 18446744073709551616 + (x1 * y0 % 18446744073709551616 + x0 * y0 % 18446744073709551616 / 4294967296) % 18446744073709551616 / 4294967296) % 18446744073709551616 +
      ((x1 * y0 % 18446744073709551616 + x0 * y0 % 18446744073709551616 / 4294967296) % 18446744073709551616 % 4294967296 + x0 * y1 % 18446744073709551616) % 18446744073709551616 / 4294967296) % 18446744073709551616
      = (x1 * 4294967296 + x0) * (y1 * 4294967296 + y0) / 18446744073709551616 := by
  have e : (x1 * 4294967296 + x0) * (y1 * 4294967296 + y0) = x1 * y1 * 18446744073709551616 + (x1 * y0 + x0 * y1) * 4294967296 + x0 * y0 := by
    simp only [Int.add_mul, Int.mul_add]
    have : x1 * 4294967296 * (y1 * 4294967296) = x1 * y1 * 18446744073709551616 := by
      rw [show (18446744073709551616 : Int) = 4294967296 * 4294967296 from rfl]; ac_rfl
    rw [this, show x1 * 4294967296 * y0 = x1 * y0 * 4294967296 by ac_rfl, show x0 * (y1 * 4294967296) = x0 * y1 * 4294967296 by ac_rfl]
    omega
  rw [e]
  have b : ∀ a c : Int, 0 ≤ a → a < 4294967296 → 0 ≤ c → c < 4294967296 → 0 ≤ a * c ∧ a * c ≤ 18446744065119617025 := fun a c ha hb hc hd => by
    refine ⟨Int.mul_nonneg ha hc, ?_⟩
    have := Int.mul_le_mul (show a ≤ 4294967295 by omega) (show c ≤ 4294967295 by omega) hc (by decide)
    simpa using this
  have b1 := b x1 y1 h1 h2 h5 h6
  have b2 := b x1 y0 h1 h2 h7 h8
  have b3 := b x0 y1 h3 h4 h5 h6
  have b4 := b x0 y0 h3 h4 h7 h8
  generalize x1 * y1 = p at *
  generalize x1 * y0 = q at *
  generalize x0 * y1 = r at *
  generalize x0 * y0 = s at *
  omega
theorem mul64 (x y : Nat) (hx : x < 18446744073709551616) (hy : y < 18446744073709551616) : Sp Tryd.prog gl 92 [u x, u y] (.tup [u (x * y / 18446744073709551616), u (x * y % 18446744073709551616)]) := by
  refine s92 rfl rfl ?_
  simp [c92]
  have wm : ∀ n : Int, 0 ≤ n % 18446744073709551616 ∧ n % 18446744073709551616 < 18446744073709551616 := fun n => by omega
  rw [mask32 x (by omega) (by omega), mask32 y (by omega) (by omega)]
  simp only [sh32, wrap_u64m]
  rw [mask32 _ (wm _).1 (wm _).2]
  have := mul_law (x / 4294967296) (x % 4294967296) (y / 4294967296) (y % 4294967296) (by omega) (by omega) (by omega) (by omega) (by omega) (by omega) (by omega) (by omega)
  refine ⟨?_, trivial⟩
  rw [this]
  congr 2 <;> omega
theorem times_spec (x y : Nat) (hx : x < 18446744073709551616) (hy : y < 18446744073709551616) : Sp Tryd.prog gl 80 [u x, u y] (wide (x * y)) := by
  refine s80 rfl rfl ?_
  simp [c80]
  refine onC_mk _ (mul64 x y hx hy) ?_
  simp [wide]
end Go.Ai
