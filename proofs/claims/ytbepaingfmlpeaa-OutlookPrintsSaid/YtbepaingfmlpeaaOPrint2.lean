/- YtbepaingfmlpeaaOPrint2: part of the abstract interpreter library (values, rules, soundness against the model) or of what a function of the seat computes. Conditions: as each theorem says. -/
import Derived.Test.YtbepaingfmlpeaaOPrint
set_option linter.unusedSimpArgs false
set_option linter.unusedVariables false
namespace Go.Ai
open Go.Proofs
theorem readN_dec (n : Nat) (h : n < 340282366920938463463374607431768211456) : readN (dec n) = (n, 0) := by
  unfold readN
  rw [okDec_dec, undec_dec, if_pos rfl, if_pos h]
theorem not_dec {s : List UInt8} (h : s.all isDig = false) (n : Nat) : dec n ≠ s := by
  intro e
  have := dec_dig n
  rw [e, h] at this; cases this
theorem readZ_dec (n : Nat) (h0 : n ≠ 0) (h : n < 340282366920938463463374607431768211456) : readZ (dec n) = ((2, n), 0) := by
  unfold readZ
  rw [if_neg (not_dec rfl n), if_neg (not_dec rfl n), readN_dec n h, if_neg (by simp), if_neg h0]
theorem printZ_read (s : List UInt8) (h : (readZ s).2 = 0) : printZ (readZ s).1.1 ((readZ s).1.2 / 18446744073709551616) ((readZ s).1.2 % 18446744073709551616) = s := by
  unfold readZ at h ⊢
  by_cases h1 : s = goneS
  · rw [if_pos h1]; rw [h1]; rfl
  · rw [if_neg h1] at h ⊢
    by_cases h2 : s = neverS
    · rw [if_pos h2]; rw [h2]; rfl
    · rw [if_neg h2] at h ⊢
      by_cases h3 : (readN s).2 = 0
      · rw [if_neg (fun e => e h3)] at h ⊢
        by_cases h4 : (readN s).1 = 0
        · rw [if_pos h4] at h; cases h
        · rw [if_neg h4]
          simp only
          have er : rightZ 2 ((readN s).1 / 18446744073709551616) ((readN s).1 % 18446744073709551616) = true := by
            unfold rightZ
            rw [if_neg (by decide)]
            exact decide_eq_true ⟨rfl, by omega⟩
          unfold printZ
          rw [if_pos er, if_neg (by decide), if_neg (by decide)]
          rw [show (readN s).1 / 18446744073709551616 * 18446744073709551616 + (readN s).1 % 18446744073709551616 = (readN s).1 by omega]
          unfold readN at h3 h4 ⊢
          split at h3
          · rename_i hok
            rw [if_pos hok] at h4 ⊢
            split at h3
            · rename_i hlt
              rw [if_pos hlt]
              exact dec_undec s hok
            · cases h3
          · cases h3
      · rw [if_pos h3] at h; exact absurd h h3
theorem printZ_len (k : Int) (m l : Nat) (hm : m < 18446744073709551616) (hl : l < 18446744073709551616) : (printZ k m l).length ≤ 1000000 := by
  rcases right_cases k m l with ⟨_, hp⟩ | ⟨_, _, _, _, hp⟩ | ⟨_, _, _, _, hp⟩ | ⟨_, _, _, hp⟩
  · rw [hp]; decide
  · rw [hp]; decide
  · rw [hp]; decide
  · rw [hp]
    have h1 : m * 18446744073709551616 + l < 340282366920938463463374607431768211456 := by omega
    have h2 : (340282366920938463463374607431768211456 : Nat) ≤ 10 ^ (38 + 1) := by decide
    have := dec_len 38 (m * 18446744073709551616 + l) (Nat.lt_of_lt_of_le h1 h2)
    omega
theorem neg_pos {z : Int} : (z == z) = true := by simp
set_option maxRecDepth 20000 in
theorem outlookPrints_spec (k : Int) (m l : Nat) (s : List UInt8) (hm : m < 18446744073709551616) (hl : l < 18446744073709551616) :
    Sp Try.prog gl 11 [outz k m l, .str s] (.bool true) := by
  refine s11 rfl rfl ?_
  by_cases hs : 200 < s.length
  · have hs' : (200 : Int) < (s.length : Int) := by omega
    simp -implicitDefEqProofs [c11]
    refine onC_mk _ awake24_spec ?_
    simp -implicitDefEqProofs [hs, hs']
  · have hs' : ¬ (200 : Int) < (s.length : Int) := by omega
    have P := oprint_spec k m l hm hl
    have P' := rprint_spec k m l hm hl
    have Q := oread_spec (printZ k m l) (printZ_len k m l hm hl)
    have X := oread_spec s (by omega)
    have Y := rread24_spec s (by omega)
    have R := orightz_spec k m l
    have R' := rrightz_spec k m l
    have xl := readZ_lt s
    have px := printZ_read s
    have P2 := oprint_spec (readZ s).1.1 ((readZ s).1.2 / 18446744073709551616) ((readZ s).1.2 % 18446744073709551616) (by omega) (by omega)
    have hpr : (rightZ k m l = false ∧ readZ (printZ k m l) = ((0, 0), 5)) ∨ (rightZ k m l = true ∧ readZ (printZ k m l) = ((k, m * 18446744073709551616 + l), 0)) := by
      rcases right_cases k m l with ⟨hr, hp⟩ | ⟨rfl, rfl, rfl, hr, hp⟩ | ⟨rfl, rfl, rfl, hr, hp⟩ | ⟨rfl, h0, hr, hp⟩
      · left; refine ⟨hr, ?_⟩; rw [hp]; rfl
      · right; refine ⟨hr, ?_⟩; rw [hp]; rfl
      · right; refine ⟨hr, ?_⟩; rw [hp]; rfl
      · right; refine ⟨hr, ?_⟩; rw [hp]; exact readZ_dec _ (by omega) (by omega)
    generalize (readZ s).2 = f at *
    generalize (readZ s).1.2 / 18446744073709551616 = x1 at *
    generalize (readZ s).1.2 % 18446744073709551616 = x2 at *
    generalize (readZ s).1.1 = x0 at *
    clear xl
    have hf : (f = 0 ∧ printZ x0 x1 x2 = s) ∨ (((f : Int) == 0) = false) := by
      by_cases h : f = 0
      · left; exact ⟨h, px h⟩
      · right; rw [beq_eq_false_iff_ne]; omega
    clear px
    generalize printZ x0 x1 x2 = t2 at *
    rcases hpr with ⟨hr, hq⟩ | ⟨hr, hq⟩
    · rw [hr] at R R'
      rw [hq] at Q
      simp only [Nat.zero_div, Nat.zero_mod] at Q
      clear hr hq
      generalize printZ k m l = t at *
      simp -implicitDefEqProofs [c11]
      refine onC_mk _ awake24_spec ?_
      simp -implicitDefEqProofs [hs, hs']
      refine onC_mk _ P ?_
      simp -implicitDefEqProofs
      refine onC_mk _ Q ?_
      simp -implicitDefEqProofs
      refine onC_mk _ X ?_
      simp -implicitDefEqProofs
      refine onC_mk _ Y ?_
      simp -implicitDefEqProofs
      refine onC_mk _ R ?_
      simp -implicitDefEqProofs
      refine onC_mk _ R' ?_
      simp -implicitDefEqProofs
      refine onC_mk _ P' ?_
      rcases hf with ⟨rfl, rfl⟩ | hf
      · simp -implicitDefEqProofs
        refine onC_mk _ P2 ?_
        simp -implicitDefEqProofs
        refine onC_mk _ R' ?_
        simp -implicitDefEqProofs
      · simp -implicitDefEqProofs [hf]
        refine onC_mk _ R' ?_
        simp -implicitDefEqProofs
    · rw [hr] at R R'
      rw [hq] at Q
      simp only [show (m * 18446744073709551616 + l) / 18446744073709551616 = m by omega, show (m * 18446744073709551616 + l) % 18446744073709551616 = l by omega] at Q
      clear hr hq
      generalize printZ k m l = t at *
      simp -implicitDefEqProofs [c11]
      refine onC_mk _ awake24_spec ?_
      simp -implicitDefEqProofs [hs, hs']
      refine onC_mk _ P ?_
      simp -implicitDefEqProofs
      refine onC_mk _ Q ?_
      simp -implicitDefEqProofs
      refine onC_mk _ X ?_
      simp -implicitDefEqProofs
      refine onC_mk _ Y ?_
      simp -implicitDefEqProofs
      refine onC_mk _ R ?_
      simp -implicitDefEqProofs
      refine onC_mk _ R' ?_
      simp -implicitDefEqProofs
      refine onC_mk _ P' ?_
      rcases hf with ⟨rfl, rfl⟩ | hf
      · simp -implicitDefEqProofs
        refine onC_mk _ P2 ?_
        simp -implicitDefEqProofs
        refine onC_mk _ R' ?_
        simp -implicitDefEqProofs
      · simp -implicitDefEqProofs [hf]
        refine onC_mk _ R' ?_
        simp -implicitDefEqProofs
end Go.Ai
