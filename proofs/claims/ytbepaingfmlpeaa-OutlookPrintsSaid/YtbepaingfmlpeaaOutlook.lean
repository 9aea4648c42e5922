/- YtbepaingfmlpeaaOutlook: part of the abstract interpreter library (values, rules, soundness against the model) or of what a function of the seat computes. Conditions: as each theorem says. -/
import Derived.Test.YtbepaingfmlpeaaLedger2
set_option linter.unusedSimpArgs false
set_option linter.unusedVariables false
namespace Go.Ai
open Go.Proofs
abbrev outl (k : Nat) (m l : Nat) : AV := .agg [i6 k, u m, u l]
def outw (k : Nat) (n : Nat) : AV := outl k (n / 18446744073709551616) (n % 18446744073709551616)
theorem scmp0_spec (b : Bool) (s : Nat) : ∃ c : Int, Sp Try.prog gl 72 [sgn b s, sg2 false 0 0] (i6 c) ∧ (c ≤ 0 ↔ (b = true ∨ s = 0)) := by
  have R1 := srt1 b s
  have R2 := srt1 false 0
  have C := xcompare_spec s 0
  have e2 : sgi (if false = true then -(0 : Nat) else (0 : Nat)) = sg2 false 0 0 := rfl
  have e3 : sgn false 0 = sg2 false 0 0 := rfl
  rw [e2, e3] at R2
  by_cases h : b = true ∧ s ≠ 0
  · obtain ⟨rfl, h⟩ := h
    have e1 : sgi (if true = true then -(s : Int) else s) = sgn true s := by unfold sgi; rw [if_pos rfl, decide_eq_true (by omega)]; simp
    rw [e1] at R1
    refine ⟨-1, ?_, by simp⟩
    refine s72 rfl rfl ?_
    unfold sgn wide at *
    generalize s / 18446744073709551616 = m at *
    generalize s % 18446744073709551616 = l at *
    simp -implicitDefEqProofs [c72]
    refine onC_mk _ R1 ?_
    simp -implicitDefEqProofs
    refine onC_mk _ R2 ?_
    simp -implicitDefEqProofs
  · have e1 : sgi (if b = true then -(s : Int) else s) = sgn false s := by
      unfold sgi
      cases b
      · rw [if_neg (by decide), decide_eq_false (by omega), Int.natAbs_natCast]
      · have : s = 0 := by simpa using h
        subst this; rfl
    rw [e1] at R1
    refine ⟨cmpN s 0, ?_, ?_⟩
    · refine s72 rfl rfl ?_
      have e4 : wide 0 = .agg [u 0, u 0] := rfl
      rw [e4] at C
      generalize cmpN s 0 = cc at *
      unfold sgn wide at *
      generalize s / 18446744073709551616 = m at *
      generalize s % 18446744073709551616 = l at *
      simp -implicitDefEqProofs [c72]
      refine onC_mk _ R1 ?_
      simp -implicitDefEqProofs
      refine onC_mk _ R2 ?_
      simp -implicitDefEqProofs
      refine onC_mk _ C ?_
      simp -implicitDefEqProofs
    · have : cmpN s 0 ≤ 0 ↔ s ≤ 0 := by
        unfold cmpN; split
        · omega
        · split <;> omega
      rw [this]
      cases b <;> simp at h ⊢ <;> omega
/-- The forecast: kind, ticks; the error. -/
def outN (b : Bool) (s bad : Nat) (w : Int) : (Nat × Nat) × Nat :=
  if w < 1 ∨ 34560000 < w then ((0, 0), 8) else if b = true ∨ s = 0 then ((0, 0), 0) else if bad = 0 then ((1, 0), 0)
  else if s * w.toNat < 340282366920938463463374607431768211456 then ((2, (s * w.toNat + bad * 1000000 - 1) / (bad * 1000000)), 0) else ((0, 0), 3)
theorem ceil_ceil (x a b : Nat) (ha : 0 < a) (hb : 0 < b) : ((x + a - 1) / a + b - 1) / b = (x + b * a - 1) / (b * a) := by
  have hab : 0 < b * a := Nat.mul_pos hb ha
  have key : ∀ y n : Nat, 0 < n → ∀ k, (y + n - 1) / n ≤ k ↔ y ≤ k * n := by
    intro y n hn k
    constructor
    · intro h
      have := (Nat.div_lt_iff_lt_mul hn).1 (Nat.lt_succ_of_le h)
      rw [Nat.succ_mul] at this
      omega
    · intro h
      apply Nat.le_of_lt_succ
      apply (Nat.div_lt_iff_lt_mul hn).2
      rw [Nat.succ_mul]
      omega
  have := fun k => (key _ b hb k).trans (key x a ha (k * b))
  have h2 := key x (b * a) hab
  apply Nat.le_antisymm
  · apply (this _).2; rw [Nat.mul_assoc]; exact (h2 _).1 (Nat.le_refl _)
  · apply (h2 _).2; rw [← Nat.mul_assoc]; exact (this _).1 (Nat.le_refl _)
set_option maxRecDepth 10000 in
theorem forecast_spec (b : Bool) (s bad : Nat) (w : Int) (hs : s < 340282366920938463463374607431768211456) (hb : bad < 18446744073709551616) (hw1 : -9223372036854775808 ≤ w) (hw2 : w < 9223372036854775808) :
    Sp Try.prog gl 32 [sgn b s, u bad, i6 w] (.tup [outw (outN b s bad w).1.1 (outN b s bad w).1.2, i6 (outN b s bad w).2]) := by
  refine s32 rfl rfl ?_
  obtain ⟨cc, C, hcc⟩ := scmp0_spec b s
  by_cases c1 : w < 1
  · have e : outN b s bad w = ((0, 0), 8) := by unfold outN; rw [if_pos (.inl c1)]
    rw [e]
    unfold sgn
    simp -implicitDefEqProofs [c32, c1, outw]
  by_cases c2 : 34560000 < w
  · have e : outN b s bad w = ((0, 0), 8) := by unfold outN; rw [if_pos (.inr c2)]
    rw [e]
    unfold sgn
    simp -implicitDefEqProofs [c32, c1, c2, outw]
  have e0 : ¬ (w < 1 ∨ 34560000 < w) := by omega
  by_cases c3 : b = true ∨ s = 0
  · have e : outN b s bad w = ((0, 0), 0) := by unfold outN; rw [if_neg e0, if_pos c3]
    have hc := hcc.2 c3
    rw [e]
    unfold sgn at *
    simp -implicitDefEqProofs [c32, c1, c2, outw]
    refine onC_mk _ C ?_
    simp -implicitDefEqProofs [hc]
  have hc : ¬ cc ≤ 0 := fun h => c3 (hcc.1 h)
  by_cases c4 : bad = 0
  · have e : outN b s bad w = ((1, 0), 0) := by unfold outN; rw [if_neg e0, if_neg c3, if_pos c4]
    rw [e]
    subst c4
    unfold sgn at *
    simp -implicitDefEqProofs [c32, c1, c2, outw]
    refine onC_mk _ C ?_
    simp -implicitDefEqProofs [hc]
  have b4 : ((bad : Int) == 0) = false := by simp [c4]
  have w1 : IntKind.u64.wrap w = (w.toNat : Int) := by rw [wrap_u64] <;> omega
  have M := xmore_spec s w.toNat hs (by omega)
  by_cases c5 : s * w.toNat < 340282366920938463463374607431768211456
  · have e : outN b s bad w = ((2, (s * w.toNat + bad * 1000000 - 1) / (bad * 1000000)), 0) := by unfold outN; rw [if_neg e0, if_neg c3, if_neg c4, if_pos c5]
    rw [e]
    rw [if_pos c5] at M
    have X1 := xceil_spec (s * w.toNat) 1000000 (by omega) c5 (by omega)
    have q1 : (s * w.toNat + 1000000 - 1) / 1000000 < 340282366920938463463374607431768211456 := by omega
    have X2 := xceil_spec ((s * w.toNat + 1000000 - 1) / 1000000) bad (by omega) q1 hb
    rw [ceil_ceil _ 1000000 bad (by omega) (by omega)] at X2
    obtain ⟨Y, hY⟩ : ∃ Y, Y = (s * w.toNat + 1000000 - 1) / 1000000 := ⟨_, rfl⟩
    rw [← hY] at X1 X2
    obtain ⟨Z, hZ⟩ : ∃ Z, Z = (s * w.toNat + bad * 1000000 - 1) / (bad * 1000000) := ⟨_, rfl⟩
    rw [← hZ] at X2 ⊢
    obtain ⟨V, hV⟩ : ∃ V, V = s * w.toNat := ⟨_, rfl⟩
    rw [← hV] at M X1
    clear hY hZ hV e c5 q1 hcc c3 e0 hs
    unfold sgn outw wide at *
    generalize s / 18446744073709551616 = s1 at *
    generalize s % 18446744073709551616 = s2 at *
    generalize V / 18446744073709551616 = v1 at *
    generalize V % 18446744073709551616 = v2 at *
    generalize Y / 18446744073709551616 = y1 at *
    generalize Y % 18446744073709551616 = y2 at *
    generalize Z / 18446744073709551616 = z1 at *
    generalize Z % 18446744073709551616 = z2 at *
    simp -implicitDefEqProofs [c32, c1, c2]
    refine onC_mk _ C ?_
    simp -implicitDefEqProofs [hc, b4]
    rw [w1]
    refine onC_mk _ M ?_
    simp -implicitDefEqProofs
    refine onC_mk _ X1 ?_
    simp -implicitDefEqProofs
    refine onC_mk _ X2 ?_
    simp -implicitDefEqProofs
  · have e : outN b s bad w = ((0, 0), 3) := by unfold outN; rw [if_neg e0, if_neg c3, if_neg c4, if_neg c5]
    rw [e]
    rw [if_neg c5] at M
    clear e c5 hcc c3 e0 hs
    have e4 : wide 0 = .agg [u 0, u 0] := rfl
    rw [e4] at M
    unfold sgn wide at *
    generalize s / 18446744073709551616 = s1 at *
    generalize s % 18446744073709551616 = s2 at *
    simp -implicitDefEqProofs [c32, c1, c2, outw]
    refine onC_mk _ C ?_
    simp -implicitDefEqProofs [hc, b4]
    rw [w1]
    refine onC_mk _ M ?_
    simp -implicitDefEqProofs
theorem oright_spec (k m l : Nat) : Sp Try.prog gl 34 [outl k m l] (.bool (if k = 0 ∨ k = 1 then decide (m = 0 ∧ l = 0) else decide (k = 2 ∧ ¬ (m = 0 ∧ l = 0)))) := by
  refine s34 rfl rfl ?_
  have em : ((m : Int) == 0) = decide (m = 0) := by rw [Bool.eq_iff_iff]; simp
  have el : ((l : Int) == 0) = decide (l = 0) := by rw [Bool.eq_iff_iff]; simp
  rcases (by omega : k = 0 ∨ k = 1 ∨ k = 2 ∨ 2 < k) with rfl | rfl | rfl | hk
  · simp -implicitDefEqProofs [c34, em, el]
  · simp -implicitDefEqProofs [c34, em, el]
  · simp -implicitDefEqProofs [c34, em, el]
  · simp -implicitDefEqProofs [c34, em, el, show ((k : Int) == 0) = false by simp; omega, show ((k : Int) == 1) = false by simp; omega, show ((k : Int) == 2) = false by simp; omega, show k ≠ 0 by omega, show k ≠ 1 by omega, show k ≠ 2 by omega]
end Go.Ai
