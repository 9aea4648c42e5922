/- YtbepaingfmlpeaaDoorName4: part of the abstract interpreter library (values, rules, soundness against the model) or of what a function of the seat computes. Conditions: as each theorem says. -/
import Derived.Test.YtbepaingfmlpeaaDoorName3
set_option linter.unusedSimpArgs false
set_option linter.unusedVariables false
namespace Go.Ai
open Go.Proofs
theorem dle_t {a b : Int} (h : a ≤ b) : decide (a ≤ b) = true := decide_eq_true h
theorem dle_f {a b : Int} (h : b < a) : decide (a ≤ b) = false := decide_eq_false (by omega)
theorem dlt_t {a b : Int} (h : a < b) : decide (a < b) = true := decide_eq_true h
theorem dlt_f {a b : Int} (h : b ≤ a) : decide (a < b) = false := decide_eq_false (by omega)
theorem beq_t {a b : Int} (h : a = b) : (a == b) = true := by rw [beq_iff_eq]; exact h
theorem beq_f {a b : Int} (h : a < b ∨ b < a) : (a == b) = false := by rw [beq_eq_false_iff_ne]; omega
theorem bne_t {a b : Int} (h : a < b ∨ b < a) : (a != b) = true := by rw [bne_iff_ne]; omega
theorem bne_f {a b : Int} (h : a = b) : (a != b) = false := by simp [h]
def letter (r : Int) : Bool := decide ((97 ≤ r ∧ r ≤ 122) ∨ (65 ≤ r ∧ r ≤ 90) ∨ (192 ≤ r ∧ r ≤ 591 ∧ r ≠ 215 ∧ r ≠ 247) ∨ (880 ≤ r ∧ r ≤ 1279))
def digR (r : Int) : Bool := decide (48 ≤ r ∧ r ≤ 57)
theorem letter_cases (r : Int) : (r < 65 ∧ letter r = false) ∨ (65 ≤ r ∧ r ≤ 90 ∧ letter r = true) ∨ (90 < r ∧ r < 97 ∧ letter r = false) ∨ (97 ≤ r ∧ r ≤ 122 ∧ letter r = true) ∨ (122 < r ∧ r < 192 ∧ letter r = false) ∨
    (192 ≤ r ∧ r < 215 ∧ letter r = true) ∨ (r = 215 ∧ letter r = false) ∨ (215 < r ∧ r < 247 ∧ letter r = true) ∨ (r = 247 ∧ letter r = false) ∨ (247 < r ∧ r ≤ 591 ∧ letter r = true) ∨
    (591 < r ∧ r < 880 ∧ letter r = false) ∨ (880 ≤ r ∧ r ≤ 1279 ∧ letter r = true) ∨ (1279 < r ∧ letter r = false) := by
  unfold letter
  simp only [decide_eq_true_eq, decide_eq_false_iff_not]
  omega
theorem rletter_spec (r : Int) : Sp Tryd.prog gl 51 [i3 r] (.bool (letter r)) := by
  refine s51 rfl rfl ?_
  rcases letter_cases r with ⟨h1, h2⟩ | ⟨h1, h2, h3⟩ | ⟨h1, h2, h3⟩ | ⟨h1, h2, h3⟩ | ⟨h1, h2, h3⟩ | ⟨h1, h2, h3⟩ | ⟨h1, h3⟩ | ⟨h1, h2, h3⟩ | ⟨h1, h3⟩ | ⟨h1, h2, h3⟩ | ⟨h1, h2, h3⟩ | ⟨h1, h2, h3⟩ | ⟨h1, h3⟩
  · rw [h2]; simp -implicitDefEqProofs (disch := omega) [c51, dle_t, dle_f, dlt_t, dlt_f, beq_t, beq_f, bne_t, bne_f]
  all_goals (rw [h3]; simp -implicitDefEqProofs (disch := omega) [c51, dle_t, dle_f, dlt_t, dlt_f, beq_t, beq_f, bne_t, bne_f])
theorem tletter_spec (r : Int) : Sp Tryd.prog gl 66 [i3 r] (.bool (letter r)) := by
  refine s66 rfl rfl ?_
  rcases letter_cases r with ⟨h1, h2⟩ | ⟨h1, h2, h3⟩ | ⟨h1, h2, h3⟩ | ⟨h1, h2, h3⟩ | ⟨h1, h2, h3⟩ | ⟨h1, h2, h3⟩ | ⟨h1, h3⟩ | ⟨h1, h2, h3⟩ | ⟨h1, h3⟩ | ⟨h1, h2, h3⟩ | ⟨h1, h2, h3⟩ | ⟨h1, h2, h3⟩ | ⟨h1, h3⟩
  · rw [h2]; simp -implicitDefEqProofs (disch := omega) [c66, dle_t, dle_f, dlt_t, dlt_f, beq_t, beq_f, bne_t, bne_f]
  all_goals (rw [h3]; simp -implicitDefEqProofs (disch := omega) [c66, dle_t, dle_f, dlt_t, dlt_f, beq_t, beq_f, bne_t, bne_f])
theorem tdigit_spec (r : Int) : Sp Tryd.prog gl 67 [i3 r] (.bool (digR r)) := by
  refine s67 rfl rfl ?_
  unfold digR
  by_cases h1 : 48 ≤ r
  · simp -implicitDefEqProofs [c67, h1]
  · simp -implicitDefEqProofs [c67, h1]
/-- Names, as a range over the text reads them. -/
def nameGo : Nat → Int → List Int → Bool
  | n, last, [] => decide (0 < n ∧ n ≤ 24) && (letter last || digR last)
  | n, last, r :: l => (letter r || (decide (n ≠ 0) && (digR r || r == 95 || r == 45))) && nameGo (n + 1) r l
def nameT (s : List UInt8) : Bool := nameGo 0 32 (runesL s 0)
set_option maxRecDepth 20000 in
theorem tname_spec (s : List UInt8) (hl : s.length ≤ 900000) : Sp Tryd.prog gl 40 [.str s] (.bool (nameT s)) := by
  refine s40 rfl rfl ?_
  obtain ⟨R, hR⟩ : ∃ R, R = nameT s := ⟨_, rfl⟩
  rw [← hR]
  unfold nameT at hR
  simp -implicitDefEqProofs [c40]
  refine wp_lpk (α := Nat × Nat × Int) (fun x => ⟨[(0, .str s), (3, i6 x.2.1), (4, i3 x.2.2), (9, .itp 9)], [(.it 9, [.itr s x.1])], []⟩)
    (fun x => x.2.1 ≤ x.1 ∧ (x.2.1 = 0 ↔ x.1 = 0) ∧ nameGo x.2.1 x.2.2 (runesL s x.1) = R ∧ x.1 ≤ s.length + 3) (fun x => s.length + 4 - x.1) ?_ (0, 0, 32) ?_ ?_
  · rintro K ⟨i, n, last⟩ hK ⟨h1, h2, h3, h4⟩
    simp only at h1 h2 h3 h4
    by_cases g : i < s.length
    · rw [runesL_in g] at h3
      simp only [nameGo] at h3
      have sr := step_rune s i g
      have sl := stepR_lt g
      have sp := stepR_pos s i
      have fin : nameGo (n + 1) (stepR s i).1 (runesL s (i + (stepR s i).2)) = R → ∀ σ', Weak σ' ⟨[(0, .str s), (3, i6 (n + 1 : Nat)), (4, i3 (stepR s i).1), (9, .itp 9)], [(.it 9, [.itr s (i + (stepR s i).2)])], []⟩ → K σ' :=
        fun hh σ' hσ => hK (i + (stepR s i).2, n + 1, (stepR s i).1) σ' ⟨by simp only; omega, by simp only; omega, hh, by simp only; omega⟩ (by simp only; omega) hσ
      have t1 : IntKind.i64.wrap ((n : Int) + 1) = (n + 1 : Nat) := by rw [wrap_i64] <;> omega
      clear hK hR
      by_cases hb : (stepR s i).1 = -1
      · rw [if_pos hb] at sr
        rw [hb] at h3
        have : R = false := by
          rw [← h3]
          have : (letter (-1) || (decide (n ≠ 0) && (digR (-1) || (-1 : Int) == 95 || (-1 : Int) == 45))) = false := by cases decide (n ≠ 0) <;> rfl
          rw [this]; rfl
        subst this
        have L1 := tletter_spec 65533
        have D1 := tdigit_spec 65533
        rw [show letter 65533 = false from rfl] at L1
        rw [show digR 65533 = false from rfl] at D1
        clear h3 fin
        by_cases hi : i = 0
        · subst hi
          simp -implicitDefEqProofs [g, sr]
          refine onC_mk _ L1 ?_
          simp -implicitDefEqProofs
        · have hi' : 0 < i := by omega
          simp -implicitDefEqProofs [g, sr]
          refine onC_mk _ L1 ?_
          simp -implicitDefEqProofs [hi']
          refine onC_mk _ D1 ?_
          simp -implicitDefEqProofs
      · rw [if_neg hb] at sr
        have L1 := tletter_spec (stepR s i).1
        have D1 := tdigit_spec (stepR s i).1
        have esr : (stepR s i) = ((stepR s i).1, (stepR s i).2) := rfl
        rw [esr] at sr
        generalize nameGo (n + 1) (stepR s i).1 (runesL s (i + (stepR s i).2)) = R2 at *
        clear esr hb
        generalize (stepR s i).1 = r at *
        generalize (stepR s i).2 = w at *
        have hn0 : decide (n ≠ 0) = decide (0 < i) := by rw [Bool.eq_iff_iff]; simp; omega
        rw [hn0] at h3
        cases hlt : letter r
        · rw [hlt] at h3 L1
          by_cases hi : 0 < i
          · cases hd : digR r
            · rw [hd] at h3 D1
              by_cases e1 : r = 95
              · have := fin (by rw [← h3]; simp [hi, e1])
                simp -implicitDefEqProofs (disch := omega) [g, sr, beq_t, beq_f, e1]
                rw [e1] at L1 D1
                refine onC_mk _ L1 ?_
                simp -implicitDefEqProofs [hi]
                refine onC_mk _ D1 ?_
                simp -implicitDefEqProofs
                refine this _ (weak_mk ?_ ?_ ?_ ?_ ?_ ?_) <;> simp -implicitDefEqProofs [t1, e1]
              · by_cases e2 : r = 45
                · have := fin (by rw [← h3]; simp [hi, e2])
                  simp -implicitDefEqProofs (disch := omega) [g, sr, e2]
                  rw [e2] at L1 D1
                  refine onC_mk _ L1 ?_
                  simp -implicitDefEqProofs [hi]
                  refine onC_mk _ D1 ?_
                  simp -implicitDefEqProofs
                  refine this _ (weak_mk ?_ ?_ ?_ ?_ ?_ ?_) <;> simp -implicitDefEqProofs [t1, e2]
                · have b1 : (r == 95) = false := by rw [beq_eq_false_iff_ne]; exact e1
                  have b2 : (r == 45) = false := by rw [beq_eq_false_iff_ne]; exact e2
                  have : R = false := by rw [← h3, b1, b2]; simp
                  subst this
                  simp -implicitDefEqProofs [g, sr]
                  refine onC_mk _ L1 ?_
                  simp -implicitDefEqProofs [hi]
                  refine onC_mk _ D1 ?_
                  simp -implicitDefEqProofs [b1, b2]
            · rw [hd] at h3 D1
              have := fin (by rw [← h3]; simp [hi])
              simp -implicitDefEqProofs [g, sr]
              refine onC_mk _ L1 ?_
              simp -implicitDefEqProofs [hi]
              refine onC_mk _ D1 ?_
              simp -implicitDefEqProofs
              refine this _ (weak_mk ?_ ?_ ?_ ?_ ?_ ?_) <;> simp -implicitDefEqProofs [t1]
          · have : R = false := by rw [← h3]; simp [hi]
            subst this
            simp -implicitDefEqProofs [g, sr]
            refine onC_mk _ L1 ?_
            simp -implicitDefEqProofs [hi]
        · rw [hlt] at h3 L1
          have := fin (by rw [← h3]; simp)
          simp -implicitDefEqProofs [g, sr]
          refine onC_mk _ L1 ?_
          simp -implicitDefEqProofs
          refine this _ (weak_mk ?_ ?_ ?_ ?_ ?_ ?_) <;> simp -implicitDefEqProofs [t1]
    · rw [runesL_out g] at h3
      simp only [nameGo] at h3
      have L1 := tletter_spec last
      have D1 := tdigit_spec last
      clear hK hR h2
      by_cases n0 : 0 < n
      · by_cases n1 : n ≤ 24
        · have n1' : (n : Int) ≤ 24 := by omega
          rw [decide_eq_true (show 0 < n ∧ n ≤ 24 from ⟨n0, n1⟩), Bool.true_and] at h3
          cases hlt : letter last
          · rw [hlt, Bool.false_or] at h3
            rw [hlt] at L1
            rw [h3] at D1
            simp -implicitDefEqProofs [g, n0, n1']
            refine onC_mk _ L1 ?_
            simp -implicitDefEqProofs
            refine onC_mk _ D1 ?_
            simp -implicitDefEqProofs
          · rw [hlt] at h3 L1
            have : R = true := by rw [← h3]; rfl
            subst this
            simp -implicitDefEqProofs [g, n0, n1']
            refine onC_mk _ L1 ?_
            simp -implicitDefEqProofs
        · have n1' : ¬ (n : Int) ≤ 24 := by omega
          rw [decide_eq_false (show ¬ (0 < n ∧ n ≤ 24) by omega)] at h3
          subst h3
          simp -implicitDefEqProofs [g, n0, n1']
      · rw [decide_eq_false (show ¬ (0 < n ∧ n ≤ 24) by omega)] at h3
        subst h3
        simp -implicitDefEqProofs [g, n0]
  · exact ⟨Nat.le_refl _, by simp, hR.symm, by simp⟩
  · refine weak_mk ?_ ?_ ?_ ?_ ?_ ?_ <;> simp -implicitDefEqProofs
end Go.Ai
