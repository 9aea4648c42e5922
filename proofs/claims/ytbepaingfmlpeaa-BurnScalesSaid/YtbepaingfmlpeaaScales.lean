/- YtbepaingfmlpeaaScales: part of the abstract interpreter library (values, rules, soundness against the model) or of what a function of the seat computes. Conditions: as each theorem says. -/
import Derived.Test.YtbepaingfmlpeaaRates
set_option linter.unusedSimpArgs false
set_option linter.unusedVariables false
namespace Go.Ai
open Go.Proofs
theorem scale_holds (t f g n k : Nat) (hk : 0 < k) (h : g ≤ n) : holdsN t f (k * g) (k * n) = holdsN t f g n := by
  have h1 : ¬ n < g := by omega
  have h2 : ¬ k * n < k * g := by have := Nat.mul_le_mul_left k h; omega
  have e1 : f * (1000000 - t) * (k * n) = k * (f * (1000000 - t) * n) := by rw [Nat.mul_left_comm]
  have e2 : (k * n - k * g) * 1000000000 = k * ((n - g) * 1000000000) := by rw [← Nat.mul_sub, Nat.mul_assoc]
  have e3 : decide (k * (f * (1000000 - t) * n) < k * ((n - g) * 1000000000)) = decide (f * (1000000 - t) * n < (n - g) * 1000000000) := by
    rw [decide_eq_decide]; exact Nat.mul_lt_mul_left hk
  unfold holdsN
  rw [if_neg h1, if_neg h2, e1, e2, e3]
theorem scale_rate (t g n k : Nat) (hk : 0 < k) (h : g ≤ n) : rateN t (k * g) (k * n) = rateN t g n := by
  have h1 : ¬ n < g := by omega
  have h2 : ¬ k * n < k * g := by have := Nat.mul_le_mul_left k h; omega
  have h3 : k * n = 0 ↔ n = 0 := by rw [Nat.mul_eq_zero]; omega
  have e2 : (k * n - k * g) * 1000000000 = k * ((n - g) * 1000000000) := by rw [← Nat.mul_sub, Nat.mul_assoc]
  have e4 : k * ((n - g) * 1000000000) / (k * n) = (n - g) * 1000000000 / n := Nat.mul_div_mul_left _ _ hk
  unfold rateN
  rw [if_neg h1, if_neg h2, e2, e4]
  simp only [h3]
theorem more_bad (t f g g' n : Nat) (hg : g' ≤ g) (h : g ≤ n) : (holdsN t f g' n).2 = (holdsN t f g n).2 ∧ ((holdsN t f g n).1 = true → (holdsN t f g' n).1 = true) := by
  have h1 : ¬ n < g := by omega
  have h2 : ¬ n < g' := by omega
  have e : (n - g) * 1000000000 ≤ (n - g') * 1000000000 := Nat.mul_le_mul_right _ (by omega)
  unfold holdsN
  rw [if_neg h1, if_neg h2]
  split
  · simp
  · refine ⟨rfl, fun h => ?_⟩
    simp only [decide_eq_true_eq] at h ⊢
    exact Nat.lt_of_lt_of_le h e
abbrev u16 (n : Nat) : AV := .int .u16 n
set_option maxRecDepth 10000 in
theorem burnScales_spec (t f g n tm mo : Nat) (ht : t < 4294967296) (hf : f < 18446744073709551616) (hg : g < 18446744073709551616) (hn : n < 18446744073709551616) (htm : tm < 65536) (hmo : mo < 18446744073709551616) :
    Sp Try.prog 7 [u32 t, u f, cnt g n, u16 tm, u mo] (.bool true) := by
  refine s7 rfl ?_
  by_cases h1 : 1099511627776 ≤ n
  · simp -implicitDefEqProofs [c7]
    refine onC_mk _ awake21_spec ?_
    simp -implicitDefEqProofs [show (1099511627776 : Int) ≤ n by omega]
  by_cases h2 : n < g
  · simp -implicitDefEqProofs [c7]
    refine onC_mk _ awake21_spec ?_
    simp -implicitDefEqProofs [show ¬ (1099511627776 : Int) ≤ n by omega, h2]
  obtain ⟨k, hk⟩ : ∃ k, k = tm % 1000 + 1 := ⟨_, rfl⟩
  have hk1 : 0 < k ∧ k ≤ 1000 := by omega
  have bn : k * n ≤ 1000 * 1099511627776 := Nat.mul_le_mul hk1.2 (by omega)
  have bg : k * g ≤ 1000 * 1099511627776 := Nat.mul_le_mul hk1.2 (by omega)
  have w1 : IntKind.u64.wrap ((tm : Int).tmod 1000) = (tm % 1000 : Nat) := by rw [Int.tmod_eq_emod_of_nonneg (by omega), wrap_u64] <;> omega
  have w2 : IntKind.u64.wrap (((tm % 1000 : Nat) : Int) + 1) = k := by rw [wrap_u64] <;> omega
  have w3 : IntKind.u64.wrap ((k : Int) * g) = (k * g : Nat) := by rw [← Int.natCast_mul, wrap_u64] <;> omega
  have w4 : IntKind.u64.wrap ((k : Int) * n) = (k * n : Nat) := by rw [← Int.natCast_mul, wrap_u64] <;> omega
  have w5 : IntKind.u64.wrap ((g : Int) + 1) = (g + 1 : Nat) := by rw [wrap_u64] <;> omega
  have w6 : ((mo : Int).tmod ((g + 1 : Nat) : Int)) = (mo % (g + 1) : Nat) := by rw [Int.tmod_eq_emod_of_nonneg (by omega)]; rfl
  have w8 : ¬ ((g + 1 : Nat) : Int) = 0 := by omega
  obtain ⟨m, hm⟩ : ∃ m, m = mo % (g + 1) := ⟨_, rfl⟩
  have hm1 : m ≤ g := by rw [hm]; have := Nat.mod_lt mo (show 0 < g + 1 by omega); omega
  rw [← hm] at w6
  have w7 : IntKind.u64.wrap ((g : Int) - m) = (g - m : Nat) := by rw [wrap_u64] <;> omega
  have A := holds_spec t f g n ht hf hg hn
  have A2 := holds_spec t f (k * g) (k * n) ht hf (by omega) (by omega)
  have A3 := holds_spec t f (g - m) n ht hf (by omega) hn
  have R := rate_spec t g n ht hg hn
  have R2 := rate_spec t (k * g) (k * n) ht (by omega) (by omega)
  obtain ⟨l1, l2⟩ := more_bad t f g (g - m) n (by omega) (by omega)
  rw [scale_holds t f g n k hk1.1 (by omega)] at A2
  rw [scale_rate t g n k hk1.1 (by omega)] at R2
  rw [l1] at A3
  generalize (rateN t g n).1 = a at *
  generalize (rateN t g n).2 = e at *
  generalize (holdsN t f g n).1 = h at *
  generalize (holdsN t f g n).2 = c at *
  generalize (holdsN t f (g - m) n).1 = d at *
  have b1 : ¬ (1099511627776 : Int) ≤ n := by omega
  clear hm hk l1 bn bg
  generalize k * g = kg at *
  generalize k * n = kn at *
  generalize g - m = gm at *
  generalize hg1 : g + 1 = g1 at *
  clear hg1
  simp -implicitDefEqProofs [c7]
  refine onC_mk _ awake21_spec ?_
  simp -implicitDefEqProofs [b1, h2]
  rw [w1, w2]
  refine onC_mk _ A ?_
  simp -implicitDefEqProofs
  rw [w3, w4]
  refine onC_mk _ A2 ?_
  have w8' : g1 ≠ 0 := by omega
  simp -implicitDefEqProofs [w5, w8', w6, w7]
  refine onC_mk _ A3 ?_
  simp -implicitDefEqProofs
  refine onC_mk _ R ?_
  simp -implicitDefEqProofs [w3, w4]
  refine onC_mk _ R2 ?_
  cases h
  · simp -implicitDefEqProofs
  · simp -implicitDefEqProofs [l2 rfl]
end Go.Ai
