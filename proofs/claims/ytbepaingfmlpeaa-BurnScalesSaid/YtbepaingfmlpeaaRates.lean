/- YtbepaingfmlpeaaRates: part of the abstract interpreter library (values, rules, soundness against the model) or of what a function of the seat computes. Conditions: as each theorem says. -/
import Derived.Test.YtbepaingfmlpeaaExact
import Derived.Test.YtbepaingfmlpeaaBurn
set_option linter.unusedSimpArgs false
set_option linter.unusedVariables false
namespace Go.Ai
open Go.Proofs
def rateN (t g n : Nat) : Nat × Nat := if 1000000 < t then (0, 8) else if n < g then (0, 16) else if t = 1000000 then (0, 4) else if n = 0 then (0, 0) else ((n - g) * 1000000000 / n / (1000000 - t), 0)
theorem bad_le (g n : Nat) (h0 : 0 < n) : (n - g) * 1000000000 / n ≤ 1000000000 := by
  apply Nat.div_le_of_le_mul
  exact Nat.mul_le_mul_right _ (Nat.sub_le _ _)
theorem badW (g n : Nat) (hn : n < 18446744073709551616) : (n - g) * 1000000000 < 340282366920938463463374607431768211456 := by
  have : (n - g) * 1000000000 ≤ 18446744073709551616 * 1000000000 := Nat.mul_le_mul_right _ (by omega)
  omega
theorem rate_spec (t g n : Nat) (ht : t < 4294967296) (hg : g < 18446744073709551616) (hn : n < 18446744073709551616) :
    Sp Try.prog 23 [u32 t, cnt g n] (.tup [u (rateN t g n).1, i6 (rateN t g n).2]) := by
  refine s23 rfl ?_
  by_cases h1 : 1000000 < t
  · simp -implicitDefEqProofs [c23]
    refine onC_mk _ (may_spec t g n) ?_
    simp -implicitDefEqProofs [mayN, rateN, h1]
  by_cases h2 : n < g
  · simp -implicitDefEqProofs [c23]
    refine onC_mk _ (may_spec t g n) ?_
    simp -implicitDefEqProofs [mayN, rateN, h1, h2]
  have M : mayN t g n = 0 := by simp [mayN, h1, h2]
  have R := rest_spec t (by omega)
  by_cases h3 : t = 1000000
  · simp -implicitDefEqProofs [c23]
    refine onC_mk _ (may_spec t g n) ?_
    rw [M]
    simp -implicitDefEqProofs
    refine onC_mk _ R ?_
    simp -implicitDefEqProofs [rateN, h1, h2, h3]
  have b3 : (((1000000 - t : Nat) : Int) == 0) = false := by simp; omega
  by_cases h4 : n = 0
  · simp -implicitDefEqProofs [c23]
    refine onC_mk _ (may_spec t g n) ?_
    rw [M]
    simp -implicitDefEqProofs
    refine onC_mk _ R ?_
    subst h4
    obtain rfl : g = 0 := by omega
    simp -implicitDefEqProofs [rateN, h1, h3, b3]
  have b4 : ((n : Int) == 0) = false := by simp; omega
  have hr : rateN t g n = ((n - g) * 1000000000 / n / (1000000 - t), 0) := by simp [rateN, h1, h2, h3, h4]
  have B := bad_spec g n (by omega) hn
  have F1 := floor_spec ((n - g) * 1000000000) n (by omega) (badW g n hn) hn
  have q1 := bad_le g n (by omega)
  rw [hr]
  generalize (n - g) * 1000000000 = X at *
  generalize X / n = Y at *
  generalize X % n = Z at *
  have F2 := floor_spec Y (1000000 - t) (by omega) (by omega) (by omega)
  have q2 : Y / (1000000 - t) ≤ Y := Nat.div_le_self _ _
  generalize Y / (1000000 - t) = V at *
  generalize Y % (1000000 - t) = V2 at *
  have wV : wide V = .agg [u 0, u V] := by unfold wide; rw [Nat.div_eq_of_lt (by omega), Nat.mod_eq_of_lt (by omega)]
  rw [wV] at F2
  have w1 : IntKind.u64.wrap ((1000000 - t : Nat) : Int) = (1000000 - t : Nat) := by rw [wrap_u64] <;> omega
  simp only [wide] at B F1 F2
  simp -implicitDefEqProofs [c23]
  refine onC_mk _ (may_spec t g n) ?_
  rw [M]
  simp -implicitDefEqProofs
  refine onC_mk _ R ?_
  simp -implicitDefEqProofs [b3, b4]
  refine onC_mk _ B ?_
  simp -implicitDefEqProofs
  refine onC_mk _ F1 ?_
  simp -implicitDefEqProofs
  refine onC_mk _ R ?_
  simp -implicitDefEqProofs
  rw [w1]
  refine onC_mk _ F2 ?_
  simp -implicitDefEqProofs
theorem cmpN_le (a b : Nat) : cmpN a b ≤ 0 ↔ a ≤ b := by
  unfold cmpN
  repeat' split
  all_goals (simp; try omega)
theorem half_lo {lo hi : Nat} (h : 1 < hi - lo) : lo < lo + (hi - lo) / 2 ∧ lo + (hi - lo) / 2 < hi := by omega
set_option maxRecDepth 10000 in
theorem rrate_spec (t g n : Nat) (ht : t < 4294967296) (hg : g < 18446744073709551616) (hn : n < 18446744073709551616) :
    Sp Try.prog 24 [u32 t, cnt g n] (.tup [u (rateN t g n).1, i6 (rateN t g n).2]) := by
  refine s24 rfl ?_
  by_cases h1 : 1000000 < t
  · simp -implicitDefEqProofs [c24, rateN, show (1000000 : Int) < t by omega, h1]
  by_cases h2 : n < g
  · simp -implicitDefEqProofs [c24, rateN, show ¬ (1000000 : Int) < t by omega, h1, h2]
  by_cases h3 : t = 1000000
  · simp -implicitDefEqProofs [c24, rateN, h1, h2, h3]
  have b3 : ((t : Int) == 1000000) = false := by simp; omega
  by_cases h4 : n = 0
  · subst h4
    obtain rfl : g = 0 := by omega
    simp -implicitDefEqProofs [c24, rateN, h1, h3, show ¬ (1000000 : Int) < t by omega, b3]
  have b4 : ((n : Int) == 0) = false := by simp; omega
  have hr : rateN t g n = ((n - g) * 1000000000 / n / (1000000 - t), 0) := by simp [rateN, h1, h2, h3, h4]
  rw [hr]
  have q1 := bad_le g n (by omega)
  have iff : ∀ m, m * (1000000 - t) * n ≤ (n - g) * 1000000000 ↔ m ≤ (n - g) * 1000000000 / n / (1000000 - t) := by
    intro m
    rw [Nat.le_div_iff_mul_le (by omega), Nat.le_div_iff_mul_le (by omega)]
  have q2 : (n - g) * 1000000000 / n / (1000000 - t) ≤ (n - g) * 1000000000 / n := Nat.div_le_self _ _
  have B := rbad_spec g n (by omega) hn
  have BL := badL_len g n
  have BV := badL_val g n hn
  generalize (n - g) * 1000000000 / n / (1000000 - t) = R at *
  simp -implicitDefEqProofs [c24, show ¬ (1000000 : Int) < t by omega, show ¬ n < g by omega, b3, b4]
  refine wp_lpk (α := Nat × Nat) (fun x => ⟨[(0, u32 t), (3, .ptr 3 0), (6, u x.1), (7, u x.2)], [(3, [u g, u n])], []⟩)
    (fun x => x.1 ≤ R ∧ R < x.2 ∧ x.2 ≤ 1000000001) (fun x => x.2 - x.1) ?_ (0, 1000000001) ?_ ?_
  · rintro K ⟨lo, hi⟩ hk ⟨i1, i2, i3⟩
    replace hk := fun a b σ' => hk (a, b) σ'
    simp only at hk
    simp only at i1 i2 i3
    have w1 : IntKind.u64.wrap ((hi : Int) - lo) = (hi - lo : Nat) := by rw [wrap_u64] <;> omega
    have w2 : IntKind.u64.wrap (((hi - lo : Nat) : Int).tdiv 2) = ((hi - lo) / 2 : Nat) := by rw [Int.tdiv_eq_ediv_of_nonneg (by omega), wrap_u64] <;> omega
    have w3 : IntKind.u64.wrap ((lo : Int) + ((hi - lo) / 2 : Nat)) = (lo + (hi - lo) / 2 : Nat) := by rw [wrap_u64] <;> omega
    simp -implicitDefEqProofs
    rw [w1]
    refine onB_dec (fun h => ?_) (fun h => ?_)
    · have hm := half_lo (lo := lo) (hi := hi) (by omega)
      simp -implicitDefEqProofs
      rw [w1, w2, w3]
      generalize lo + (hi - lo) / 2 = mid at *
      have A := allow_spec t mid g n (by omega) (by omega) hn
      have AL := allowL_len t mid n
      have AV := allowL_val t mid n (by omega) hn
      have CS := compare_spec (allowL t mid n) (badL g n) (by omega) (by omega)
      have cm : cmpN (val (allowL t mid n)) (val (badL g n)) ≤ 0 ↔ mid ≤ R := by
        rw [cmpN_le, AV, BV]
        exact iff mid
      clear iff AV BV
      generalize cmpN (val (allowL t mid n)) (val (badL g n)) = cc at *
      generalize allowL t mid n = la at *
      generalize badL g n = lb at *
      refine onC_mk _ A ?_
      simp -implicitDefEqProofs
      refine onC_mk _ B ?_
      simp -implicitDefEqProofs
      refine onC_mk _ CS ?_
      simp -implicitDefEqProofs
      refine onB_dec (fun hc => ?_) (fun hc => ?_)
      · simp -implicitDefEqProofs
        refine hk mid hi _ ⟨cm.1 hc, i2, i3⟩ (by omega) ?_
        apply weak_mk <;> simp
      · simp -implicitDefEqProofs
        refine hk lo mid _ ⟨i1, by have := fun x => hc (cm.2 x); omega, by omega⟩ (by omega) ?_
        apply weak_mk <;> simp
    · obtain rfl : lo = R := by omega
      simp -implicitDefEqProofs
  · exact ⟨by simp only; omega, by simp only; omega, by simp only; omega⟩
  · apply weak_mk <;> simp
/-- The plain law. -/
theorem rates_law (t f g n : Nat) (hf : f < 18446744073709551616) :
    ((rateN t g n).2 = 0 ∧ (holdsN t f g n).2 = 0 ∧ n ≠ 0 ∧ ((holdsN t f g n).1 = true → f ≤ (rateN t g n).1) ∧ ((rateN t g n).1 ≤ f ∨ (holdsN t f g n).1 = true)) ∨
    (((rateN t g n).2 ≠ 0 ∨ (holdsN t f g n).2 ≠ 0 ∨ n = 0) ∧ ((holdsN t f g n).1 = true → t = 1000000)) := by
  by_cases h1 : 1000000 < t
  · right; simp [rateN, holdsN, h1]
  by_cases h2 : n < g
  · right; simp [rateN, holdsN, h1, h2]; split <;> simp
  by_cases h3 : t = 1000000
  · right; simp [rateN, h1, h2, h3]
  by_cases h4 : n = 0
  · right; subst h4; simp [holdsN]; repeat' split
    all_goals simp_all
  by_cases h5 : 1000000 < f
  · right; simp [holdsN, h5]
  left
  have hr : rateN t g n = ((n - g) * 1000000000 / n / (1000000 - t), 0) := by simp [rateN, h1, h2, h3, h4]
  have hh : holdsN t f g n = (decide (f * (1000000 - t) * n < (n - g) * 1000000000), 0) := by simp [holdsN, h1, h2, h5]
  have iff : ∀ m, m * (1000000 - t) * n ≤ (n - g) * 1000000000 ↔ m ≤ (n - g) * 1000000000 / n / (1000000 - t) := by
    intro m
    rw [Nat.le_div_iff_mul_le (by omega), Nat.le_div_iff_mul_le (by omega)]
  rw [hr, hh]
  refine ⟨rfl, rfl, h4, fun h => (iff f).1 (Nat.le_of_lt (by simpa using h)), ?_⟩
  by_cases hc : (n - g) * 1000000000 / n / (1000000 - t) ≤ f
  · exact .inl hc
  · right
    have h6 := (iff (f + 1)).2 (by omega)
    have h7 : 0 < (1000000 - t) * n := Nat.mul_pos (by omega) (by omega)
    rw [Nat.mul_assoc, Nat.add_mul] at h6
    rw [decide_eq_true_eq, Nat.mul_assoc]
    omega
theorem burnRates_spec (t f g n : Nat) (ht : t < 4294967296) (hf : f < 18446744073709551616) (hg : g < 18446744073709551616) (hn : n < 18446744073709551616) : Sp Try.prog 6 [u32 t, u f, cnt g n] (.bool true) := by
  have A := rate_spec t g n ht hg hn
  have B := rrate_spec t g n ht hg hn
  have C := holds_spec t f g n ht hf hg hn
  have L := rates_law t f g n hf
  generalize (rateN t g n).1 = a at *
  generalize (rateN t g n).2 = e at *
  generalize (holdsN t f g n).1 = h at *
  generalize (holdsN t f g n).2 = k at *
  refine s6 rfl ?_
  simp -implicitDefEqProofs [c6]
  refine onC_mk _ awake21_spec ?_
  simp -implicitDefEqProofs
  refine onC_mk _ A ?_
  simp -implicitDefEqProofs
  refine onC_mk _ B ?_
  simp -implicitDefEqProofs
  refine onC_mk _ C ?_
  rcases L with ⟨rfl, rfl, h3, h4, h5⟩ | ⟨h1, h2⟩
  · have b3 : ((n : Int) == 0) = false := by simp; omega
    cases h
    · simp at h5
      simp -implicitDefEqProofs [b3, h5]
    · simp at h4
      simp -implicitDefEqProofs [b3, h4]
      refine onB_dec (fun h => ?_) (fun h => ?_) <;> simp
      rw [if_pos (by omega)]; rfl
  · by_cases h0 : e = 0
    · subst h0
      by_cases hk : k = 0
      · subst hk
        have : n = 0 := by simpa using h1
        subst this
        cases h
        · simp -implicitDefEqProofs
        · simp -implicitDefEqProofs [h2 rfl]
      · have bk : ((k : Int) != 0) = true := by simp [hk]
        cases h
        · simp -implicitDefEqProofs [bk]
        · simp -implicitDefEqProofs [bk, h2 rfl]
    · have bk : ((e : Int) != 0) = true := by simp [h0]
      cases h
      · simp -implicitDefEqProofs [bk]
      · simp -implicitDefEqProofs [bk, h2 rfl]
end Go.Ai
