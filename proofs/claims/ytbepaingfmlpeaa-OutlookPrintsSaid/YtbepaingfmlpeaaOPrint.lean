/- YtbepaingfmlpeaaOPrint: part of the abstract interpreter library (values, rules, soundness against the model) or of what a function of the seat computes. Conditions: as each theorem says. -/
import Derived.Test.YtbepaingfmlpeaaXRead
import Derived.Test.YtbepaingfmlpeaaOutlook3
set_option linter.unusedSimpArgs false
set_option linter.unusedVariables false
namespace Go.Ai
open Go.Proofs
abbrev outz (k : Int) (m l : Nat) : AV := .agg [i6 k, u m, u l]
def goneS : List UInt8 := [103, 111, 110, 101]
def neverS : List UInt8 := [110, 101, 118, 101, 114]
def rightZ (k : Int) (m l : Nat) : Bool := if k = 0 ∨ k = 1 then decide (m = 0 ∧ l = 0) else decide (k = 2 ∧ ¬ (m = 0 ∧ l = 0))
def printZ (k : Int) (m l : Nat) : List UInt8 := if rightZ k m l = true then (if k = 0 then goneS else if k = 1 then neverS else dec (m * 18446744073709551616 + l)) else [63]
def readZ (s : List UInt8) : (Int × Nat) × Nat := if s = goneS then ((0, 0), 0) else if s = neverS then ((1, 0), 0) else if (readN s).2 ≠ 0 then ((0, 0), (readN s).2) else if (readN s).1 = 0 then ((0, 0), 5) else ((2, (readN s).1), 0)
theorem wide_ml (m l : Nat) (hl : l < 18446744073709551616) : wide (m * 18446744073709551616 + l) = .agg [u m, u l] := by
  unfold wide
  rw [show (m * 18446744073709551616 + l) / 18446744073709551616 = m by omega, show (m * 18446744073709551616 + l) % 18446744073709551616 = l by omega]
theorem kcase (k : Int) : k = 0 ∨ k = 1 ∨ k = 2 ∨ (k ≠ 0 ∧ k ≠ 1 ∧ k ≠ 2) := by omega
theorem orightz_spec (k : Int) (m l : Nat) : Sp Try.prog gl 34 [outz k m l] (.bool (rightZ k m l)) := by
  refine s34 rfl rfl ?_
  have em : ((m : Int) == 0) = decide (m = 0) := by rw [Bool.eq_iff_iff]; simp
  have el : ((l : Int) == 0) = decide (l = 0) := by rw [Bool.eq_iff_iff]; simp
  unfold rightZ
  rcases kcase k with rfl | rfl | rfl | ⟨h0, h1, h2⟩
  · simp -implicitDefEqProofs [c34, em, el]
  · simp -implicitDefEqProofs [c34, em, el]
  · simp -implicitDefEqProofs [c34, em, el]
  · simp -implicitDefEqProofs [c34, em, el, show (k == 0) = false by simp; omega, show (k == 1) = false by simp; omega, show (k == 2) = false by simp; omega, h0, h1, h2]
theorem rrightz_spec (k : Int) (m l : Nat) : Sp Try.prog gl 41 [outz k m l] (.bool (rightZ k m l)) := by
  refine s41 rfl rfl ?_
  have em : ((m : Int) == 0) = decide (m = 0) := by rw [Bool.eq_iff_iff]; simp
  have el : ((l : Int) == 0) = decide (l = 0) := by rw [Bool.eq_iff_iff]; simp
  unfold rightZ
  rcases kcase k with rfl | rfl | rfl | ⟨h0, h1, h2⟩
  · simp -implicitDefEqProofs [c41, em, el]
  · simp -implicitDefEqProofs [c41, em, el]
  · by_cases hm : m = 0
    · subst hm
      by_cases hl : l = 0
      · subst hl; simp -implicitDefEqProofs [c41]
      · have h1 : 0 < l := by omega
        simp -implicitDefEqProofs [c41, h1, hl]
    · have h1 : 0 < m := by omega
      simp -implicitDefEqProofs [c41, h1, hm]
  · simp -implicitDefEqProofs [c41, em, el, show (k == 0) = false by simp; omega, show (k == 1) = false by simp; omega, show (k == 2) = false by simp; omega, h0, h1, h2]
theorem right_cases (k : Int) (m l : Nat) : (rightZ k m l = false ∧ printZ k m l = [63]) ∨ (k = 0 ∧ m = 0 ∧ l = 0 ∧ rightZ k m l = true ∧ printZ k m l = goneS) ∨ (k = 1 ∧ m = 0 ∧ l = 0 ∧ rightZ k m l = true ∧ printZ k m l = neverS) ∨
    (k = 2 ∧ ¬ (m = 0 ∧ l = 0) ∧ rightZ k m l = true ∧ printZ k m l = dec (m * 18446744073709551616 + l)) := by
  cases hr : rightZ k m l with
  | false => left; exact ⟨rfl, by unfold printZ; rw [hr]; rfl⟩
  | true =>
    right
    have hp : printZ k m l = (if k = 0 then goneS else if k = 1 then neverS else dec (m * 18446744073709551616 + l)) := by unfold printZ; rw [if_pos hr]
    unfold rightZ at hr
    split at hr
    · rename_i h
      simp only [decide_eq_true_eq] at hr
      rcases h with rfl | rfl
      · left; exact ⟨rfl, hr.1, hr.2, rfl, by rw [hp, if_pos rfl]⟩
      · right; left; exact ⟨rfl, hr.1, hr.2, rfl, by rw [hp, if_neg (by decide), if_pos rfl]⟩
    · simp only [decide_eq_true_eq] at hr
      obtain ⟨rfl, hr⟩ := hr
      right; right; exact ⟨rfl, hr, rfl, by rw [hp, if_neg (by decide), if_neg (by decide)]⟩
theorem oprint_spec (k : Int) (m l : Nat) (hm : m < 18446744073709551616) (hl : l < 18446744073709551616) : Sp Try.prog gl 38 [outz k m l] (.str (printZ k m l)) := by
  refine s38 rfl rfl ?_
  have R := orightz_spec k m l
  rcases right_cases k m l with ⟨hr, hp⟩ | ⟨rfl, rfl, rfl, hr, hp⟩ | ⟨rfl, rfl, rfl, hr, hp⟩ | ⟨rfl, _, hr, hp⟩
  · rw [hr] at R; rw [hp]
    simp -implicitDefEqProofs [c38]
    refine onC_mk _ R ?_
    simp -implicitDefEqProofs
  · rw [hr] at R; rw [hp]
    simp -implicitDefEqProofs [c38]
    refine onC_mk _ R ?_
    simp -implicitDefEqProofs [goneS]
  · rw [hr] at R; rw [hp]
    simp -implicitDefEqProofs [c38]
    refine onC_mk _ R ?_
    simp -implicitDefEqProofs [neverS]
  · rw [hr] at R; rw [hp]
    have D := xprint_spec (m * 18446744073709551616 + l) (by omega)
    rw [wide_ml m l hl] at D
    generalize dec (m * 18446744073709551616 + l) = d at *
    simp -implicitDefEqProofs [c38]
    refine onC_mk _ R ?_
    simp -implicitDefEqProofs
    refine onC_mk _ D ?_
    simp -implicitDefEqProofs
theorem rprint_spec (k : Int) (m l : Nat) (hm : m < 18446744073709551616) (hl : l < 18446744073709551616) : Sp Try.prog gl 42 [outz k m l] (.str (printZ k m l)) := by
  refine s42 rfl rfl ?_
  have R := rrightz_spec k m l
  rcases right_cases k m l with ⟨hr, hp⟩ | ⟨rfl, rfl, rfl, hr, hp⟩ | ⟨rfl, rfl, rfl, hr, hp⟩ | ⟨rfl, _, hr, hp⟩
  · rw [hr] at R; rw [hp]
    simp -implicitDefEqProofs [c42]
    refine onC_mk _ R ?_
    simp -implicitDefEqProofs
  · rw [hr] at R; rw [hp]
    simp -implicitDefEqProofs [c42]
    refine onC_mk _ R ?_
    simp -implicitDefEqProofs [goneS]
  · rw [hr] at R; rw [hp]
    simp -implicitDefEqProofs [c42]
    refine onC_mk _ R ?_
    simp -implicitDefEqProofs [neverS]
  · rw [hr] at R; rw [hp]
    have B := bits_spec (m * 18446744073709551616 + l) (by omega)
    rw [wide_ml m l hl] at B
    have D := digits_spec (bitsOf (m * 18446744073709551616 + l) 128) (by rw [bitsOf_len]; omega)
    rw [bitsOf_val128 _ (by omega)] at D
    generalize dec (m * 18446744073709551616 + l) = d at *
    generalize bitsOf (m * 18446744073709551616 + l) 128 = b at *
    simp -implicitDefEqProofs [c42]
    refine onC_mk _ R ?_
    simp -implicitDefEqProofs
    refine onC_mk _ B ?_
    simp -implicitDefEqProofs
    refine onC_mk _ D ?_
    simp -implicitDefEqProofs
theorem readN_lt (s : List UInt8) : (readN s).1 < 340282366920938463463374607431768211456 := by
  unfold readN
  split
  · split
    · assumption
    · simp
  · simp
theorem readZ_lt (s : List UInt8) : (readZ s).1.2 < 340282366920938463463374607431768211456 := by
  have := readN_lt s
  unfold readZ
  split
  · simp
  · split
    · simp
    · split
      · simp
      · split
        · simp
        · exact this
theorem oread_spec (s : List UInt8) (hs : s.length ≤ 1000000) : Sp Try.prog gl 39 [.str s] (.tup [outz (readZ s).1.1 ((readZ s).1.2 / 18446744073709551616) ((readZ s).1.2 % 18446744073709551616), i6 (readZ s).2]) := by
  refine s39 rfl rfl ?_
  have X := xread_spec s hs
  by_cases h1 : s = goneS
  · have e : readZ s = ((0, 0), 0) := by unfold readZ; rw [if_pos h1]
    rw [e]; subst h1
    simp -implicitDefEqProofs [c39, goneS]
  · have h1' : (s == [103, 111, 110, 101]) = false := by rw [beq_eq_false_iff_ne]; exact h1
    by_cases h2 : s = neverS
    · have e : readZ s = ((1, 0), 0) := by unfold readZ; rw [if_neg h1, if_pos h2]
      rw [e]; subst h2
      simp -implicitDefEqProofs [c39, neverS]
    · have h2' : (s == [110, 101, 118, 101, 114]) = false := by rw [beq_eq_false_iff_ne]; exact h2
      by_cases h3 : (readN s).2 = 0
      · by_cases h4 : (readN s).1 = 0
        · have e : readZ s = ((0, 0), 5) := by unfold readZ; rw [if_neg h1, if_neg h2, if_neg (fun h => h h3), if_pos h4]
          rw [e]
          rw [h3, h4, show wide 0 = .agg [u 0, u 0] from rfl] at X
          have R := orightz_spec 2 0 0
          rw [show rightZ 2 0 0 = false from rfl] at R
          clear h1 h2 e
          simp -implicitDefEqProofs [c39, h1', h2']
          refine onC_mk _ X ?_
          simp -implicitDefEqProofs
          refine onC_mk _ R ?_
          simp -implicitDefEqProofs
        · have e : readZ s = ((2, (readN s).1), 0) := by unfold readZ; rw [if_neg h1, if_neg h2, if_neg (fun h => h h3), if_neg h4]
          rw [e]
          rw [h3] at X
          unfold wide at X
          have R := orightz_spec 2 ((readN s).1 / 18446744073709551616) ((readN s).1 % 18446744073709551616)
          have er : rightZ 2 ((readN s).1 / 18446744073709551616) ((readN s).1 % 18446744073709551616) = true := by
            unfold rightZ
            rw [if_neg (by decide)]
            exact decide_eq_true ⟨rfl, by omega⟩
          rw [er] at R
          clear h1 h2 e er h3 h4
          simp only
          generalize (readN s).1 / 18446744073709551616 = a1 at *
          generalize (readN s).1 % 18446744073709551616 = a2 at *
          simp -implicitDefEqProofs [c39, h1', h2']
          refine onC_mk _ X ?_
          simp -implicitDefEqProofs
          refine onC_mk _ R ?_
          simp -implicitDefEqProofs
      · have e : readZ s = ((0, 0), (readN s).2) := by unfold readZ; rw [if_neg h1, if_neg h2, if_pos h3]
        rw [e]
        have h3' : (((readN s).2 : Int) != 0) = true := by simp; omega
        unfold wide at X
        clear h1 h2 e
        simp only
        generalize (readN s).1 / 18446744073709551616 = a1 at *
        generalize (readN s).1 % 18446744073709551616 = a2 at *
        generalize (readN s).2 = er at *
        simp -implicitDefEqProofs [c39, h1', h2']
        refine onC_mk _ X ?_
        simp -implicitDefEqProofs [h3']
theorem zero_iff (s : List UInt8) (h : (readN s).2 = 0) : (readN s).1 = 0 ↔ s = [48] := by
  constructor
  · intro h1
    unfold readN at h h1
    split at h
    · rename_i hok
      rw [if_pos hok] at h1
      split at h
      · rename_i hlt
        rw [if_pos hlt] at h1
        have := dec_undec s hok
        have h1 : undec s = 0 := h1
        rw [h1] at this
        rw [← this]
        exact dec_lt (by omega)
      · cases h
    · cases h
  · rintro rfl
    rfl
theorem rread24_spec (s : List UInt8) (hs : s.length ≤ 1000000) : Sp Try.prog gl 40 [.str s] (.tup [outz (readZ s).1.1 ((readZ s).1.2 / 18446744073709551616) ((readZ s).1.2 % 18446744073709551616), i6 (readZ s).2]) := by
  refine s40 rfl rfl ?_
  have X := rread_spec s hs
  by_cases h1 : s = goneS
  · have e : readZ s = ((0, 0), 0) := by unfold readZ; rw [if_pos h1]
    rw [e]; subst h1
    simp -implicitDefEqProofs [c40, goneS]
  · have h1' : (s == [103, 111, 110, 101]) = false := by rw [beq_eq_false_iff_ne]; exact h1
    by_cases h2 : s = neverS
    · have e : readZ s = ((1, 0), 0) := by unfold readZ; rw [if_neg h1, if_pos h2]
      rw [e]; subst h2
      simp -implicitDefEqProofs [c40, neverS]
    · have h2' : (s == [110, 101, 118, 101, 114]) = false := by rw [beq_eq_false_iff_ne]; exact h2
      by_cases h3 : (readN s).2 = 0
      · have hz := zero_iff s h3
        by_cases h4 : (readN s).1 = 0
        · have e : readZ s = ((0, 0), 5) := by unfold readZ; rw [if_neg h1, if_neg h2, if_neg (fun h => h h3), if_pos h4]
          rw [e]
          rw [h3, h4, show wide 0 = .agg [u 0, u 0] from rfl] at X
          have hs0 := hz.1 h4
          subst hs0
          clear h1 h2 e h1' h2'
          simp -implicitDefEqProofs [c40]
          refine onC_mk _ X ?_
          simp -implicitDefEqProofs
        · have e : readZ s = ((2, (readN s).1), 0) := by unfold readZ; rw [if_neg h1, if_neg h2, if_neg (fun h => h h3), if_neg h4]
          rw [e]
          rw [h3] at X
          have h5 : (s == [48]) = false := by rw [beq_eq_false_iff_ne]; exact fun h => h4 (hz.2 h)
          unfold wide at X
          clear h1 h2 e h3 h4 hz
          simp only
          generalize (readN s).1 / 18446744073709551616 = a1 at *
          generalize (readN s).1 % 18446744073709551616 = a2 at *
          simp -implicitDefEqProofs [c40, h1', h2']
          refine onC_mk _ X ?_
          simp -implicitDefEqProofs [h5]
      · have e : readZ s = ((0, 0), (readN s).2) := by unfold readZ; rw [if_neg h1, if_neg h2, if_pos h3]
        rw [e]
        have h3' : (((readN s).2 : Int) != 0) = true := by simp; omega
        unfold wide at X
        clear h1 h2 e
        simp only
        generalize (readN s).1 / 18446744073709551616 = a1 at *
        generalize (readN s).1 % 18446744073709551616 = a2 at *
        generalize (readN s).2 = er at *
        simp -implicitDefEqProofs [c40, h1', h2']
        refine onC_mk _ X ?_
        simp -implicitDefEqProofs [h3']
end Go.Ai
