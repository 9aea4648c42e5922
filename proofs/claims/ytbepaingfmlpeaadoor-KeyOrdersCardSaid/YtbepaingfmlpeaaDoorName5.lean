/- YtbepaingfmlpeaaDoorName5: part of the abstract interpreter library (values, rules, soundness against the model) or of what a function of the seat computes. Conditions: as each theorem says. -/
import Derived.Test.YtbepaingfmlpeaaDoorName4
set_option linter.unusedSimpArgs false
set_option linter.unusedVariables false
namespace Go.Ai
open Go.Proofs
theorem nameGo_big : ∀ (l : List Int) (n : Nat) (last : Int), 24 < n + l.length → nameGo n last l = false
  | [], n, last, h => by
    simp only [nameGo]
    rw [decide_eq_false (show ¬ (0 < n ∧ n ≤ 24) by simp at h; omega)]; rfl
  | r :: l, n, last, h => by
    simp only [nameGo]
    rw [nameGo_big l (n + 1) r (by simp at h; omega)]; simp
set_option maxRecDepth 20000 in
theorem rname_spec (s : List UInt8) (hl : s.length ≤ 900000) : Sp Tryd.prog gl 26 [.str s] (.bool (nameT s)) := by
  refine s26 rfl rfl ?_
  have RS := runes_spec s hl
  have rl := runesL_len s s.length 0 (by omega)
  obtain ⟨R, hR⟩ : ∃ R, R = nameT s := ⟨_, rfl⟩
  rw [← hR]
  unfold nameT at hR
  generalize runesL s 0 = l at *
  have el : ∀ l, runeRows l = l.map fun r => [i3 r] := fun _ => rfl
  rw [el] at RS
  by_cases h0 : l = []
  · subst h0
    subst hR
    simp -implicitDefEqProofs [c26]
    refine onC_mk _ RS ?_
    simp -implicitDefEqProofs [nameGo]
  · have hlen : 0 < l.length := List.length_pos_iff.2 h0
    have b0 : ((l.length : Int) == 0) = false := by rw [beq_eq_false_iff_ne]; omega
    by_cases h24 : 24 < l.length
    · rw [nameGo_big l 0 32 (by omega)] at hR
      subst hR
      have hI : (24 : Int) < l.length := by omega
      simp -implicitDefEqProofs [c26]
      refine onC_mk _ RS ?_
      simp -implicitDefEqProofs [b0, hI]
    · have hI : ¬ (24 : Int) < l.length := by omega
      have L0 := rletter_spec l[0]
      cases hl0 : letter l[0]
      · rw [hl0] at L0
        have : R = false := by
          rw [hR]
          cases l with
          | nil => exact absurd rfl h0
          | cons r l => simp only [List.getElem_cons_zero] at hl0; simp [nameGo, hl0]
        clear hR
        subst this
        simp -implicitDefEqProofs [c26]
        refine onC_mk _ RS ?_
        simp -implicitDefEqProofs [b0, hI, hlen, h0]
        refine onC_mk _ L0 ?_
        simp -implicitDefEqProofs
      · rw [hl0] at L0
        simp -implicitDefEqProofs [c26]
        refine onC_mk _ RS ?_
        simp -implicitDefEqProofs [b0, hI, hlen, h0]
        refine onC_mk _ L0 ?_
        simp -implicitDefEqProofs
        refine wp_lpk (α := Nat × Int) (fun x => ⟨[(3, .sl (l.map fun r => [i3 r])), (4, i6 x.1)], [], []⟩)
          (fun x => x.1 ≤ l.length ∧ nameGo x.1 x.2 (l.drop x.1) = R ∧ (0 < x.1 → x.1 = l.length → (letter x.2 || digR x.2) = true)) (fun x => l.length - x.1) ?_ (0, 32) ?_ ?_
        · rintro K ⟨i, prev⟩ hK ⟨h1, h2, h3⟩
          simp only at h1 h2 h3
          by_cases g : i < l.length
          · have t1 : IntKind.i64.wrap ((i : Int) + 1) = (i + 1 : Nat) := by rw [wrap_i64] <;> omega
            have t2 : IntKind.i64.wrap ((l.length : Int) - 1) = (l.length - 1 : Nat) := by rw [wrap_i64] <;> omega
            have LI := rletter_spec l[i]
            rw [List.drop_eq_getElem_cons g] at h2
            simp only [nameGo] at h2
            have hz : i = 0 → letter l[i] = true := by rintro rfl; exact hl0
            have fin : nameGo (i + 1) l[i] (l.drop (i + 1)) = R → (i + 1 = l.length → (letter l[i] || digR l[i]) = true) → ∀ σ', Weak σ' ⟨[(3, .sl (l.map fun r => [i3 r])), (4, i6 (i + 1 : Nat))], [], []⟩ → K σ' :=
              fun hh he σ' hσ => hK (i + 1, l[i]) σ' ⟨by simp only; omega, hh, fun _ => he⟩ (by simp only; omega) hσ
            have hend : i + 1 = l.length → l.drop (i + 1) = [] := fun h => List.drop_eq_nil_of_le (by omega)
            obtain ⟨r, hr⟩ : ∃ r, l[i] = r := ⟨_, rfl⟩
            rw [hr] at h2 LI hz fin
            generalize l.drop (i + 1) = l2 at *
            clear hK hR L0 RS h3
            cases hlt : letter r
            · rw [hlt] at h2 LI hz
              have hi : 0 < i := by
                rcases Nat.eq_zero_or_pos i with h | h
                · have := hz h; cases this
                · exact h
              rw [decide_eq_true (show i ≠ 0 by omega)] at h2
              cases hd : digR r
              · rw [hd] at h2
                unfold digR at hd
                rw [decide_eq_false_iff_not] at hd
                have d1 : ∀ X Y : Prop, ((48 ≤ r → r ≤ 57 → X) → Y) → True := fun _ _ _ => trivial
                by_cases hlast : i + 1 = l.length
                · have : R = false := by
                    rw [← h2, hend hlast]
                    simp only [nameGo]
                    rw [hlt, show digR r = false from decide_eq_false hd]
                    simp
                  subst this
                  have hq : ((i : Int) == ((l.length - 1 : Nat) : Int)) = true := by rw [beq_iff_eq]; omega
                  by_cases q1 : 48 ≤ r
                  · have q2 : ¬ r ≤ 57 := by omega
                    simp -implicitDefEqProofs [g, hr, t2, hq, q1, q2]
                    refine onC_mk _ LI ?_
                    simp -implicitDefEqProofs
                  · simp -implicitDefEqProofs [g, hr, t2, hq, q1]
                    refine onC_mk _ LI ?_
                    simp -implicitDefEqProofs
                · have hq : ((i : Int) == ((l.length - 1 : Nat) : Int)) = false := by rw [beq_eq_false_iff_ne]; omega
                  by_cases e1 : r = 95
                  · have fin := fin (by rw [← h2]; simp [e1]) (fun h => absurd h hlast)
                    have q1 : (48 : Int) ≤ r := by omega
                    have q2 : ¬ r ≤ 57 := by omega
                    have e3 : (r != 95) = false := by simp [e1]
                    simp -implicitDefEqProofs [g, hr, t2, hq, q1, q2]
                    refine onC_mk _ LI ?_
                    simp -implicitDefEqProofs [g, hr, e3]
                    refine fin _ (weak_mk ?_ ?_ ?_ ?_ ?_ ?_) <;> simp -implicitDefEqProofs [t1]
                  · by_cases e2 : r = 45
                    · have fin := fin (by rw [← h2]; simp [e2]) (fun h => absurd h hlast)
                      have q1 : ¬ (48 : Int) ≤ r := by omega
                      have e3 : (r != 95) = true := by simp [e1]
                      have e4 : (r != 45) = false := by simp [e2]
                      simp -implicitDefEqProofs [g, hr, t2, hq, q1]
                      refine onC_mk _ LI ?_
                      simp -implicitDefEqProofs [g, hr, e3, e4]
                      refine fin _ (weak_mk ?_ ?_ ?_ ?_ ?_ ?_) <;> simp -implicitDefEqProofs [t1]
                    · have e3 : (r != 95) = true := by simp [e1]
                      have e4 : (r != 45) = true := by simp [e2]
                      have : R = false := by
                        rw [← h2, show (r == 95) = false by simp [e1], show (r == 45) = false by simp [e2]]; simp
                      subst this
                      by_cases q1 : 48 ≤ r
                      · have q2 : ¬ r ≤ 57 := by omega
                        simp -implicitDefEqProofs [g, hr, t2, hq, q1, q2]
                        refine onC_mk _ LI ?_
                        simp -implicitDefEqProofs [g, hr, e3, e4]
                      · simp -implicitDefEqProofs [g, hr, t2, hq, q1]
                        refine onC_mk _ LI ?_
                        simp -implicitDefEqProofs [g, hr, e3, e4]
              · rw [hd] at h2
                have fin := fin (by rw [← h2]; simp) (fun _ => by rw [hd]; simp)
                unfold digR at hd
                rw [decide_eq_true_eq] at hd
                simp -implicitDefEqProofs [g, hr, t2, hd.1, hd.2]
                refine onC_mk _ LI ?_
                simp -implicitDefEqProofs
                refine fin _ (weak_mk ?_ ?_ ?_ ?_ ?_ ?_) <;> simp -implicitDefEqProofs [t1]
            · rw [hlt] at h2 LI
              have fin := fin (by rw [← h2]; simp) (fun _ => by rw [hlt]; rfl)
              by_cases q1 : 48 ≤ r
              · by_cases q2 : r ≤ 57
                · simp -implicitDefEqProofs [g, hr, t2, q1, q2]
                  refine onC_mk _ LI ?_
                  simp -implicitDefEqProofs
                  refine fin _ (weak_mk ?_ ?_ ?_ ?_ ?_ ?_) <;> simp -implicitDefEqProofs [t1]
                · simp -implicitDefEqProofs [g, hr, t2, q1, q2]
                  refine onC_mk _ LI ?_
                  simp -implicitDefEqProofs
                  refine fin _ (weak_mk ?_ ?_ ?_ ?_ ?_ ?_) <;> simp -implicitDefEqProofs [t1]
              · simp -implicitDefEqProofs [g, hr, t2, q1]
                refine onC_mk _ LI ?_
                simp -implicitDefEqProofs
                refine fin _ (weak_mk ?_ ?_ ?_ ?_ ?_ ?_) <;> simp -implicitDefEqProofs [t1]
          · obtain rfl : i = l.length := by omega
            have h3 := h3 hlen rfl
            rw [List.drop_length] at h2
            simp only [nameGo] at h2
            rw [h3, decide_eq_true (show 0 < l.length ∧ l.length ≤ 24 by omega)] at h2
            have : R = true := by rw [← h2]; rfl
            clear hK hR
            subst this
            simp -implicitDefEqProofs
        · exact ⟨Nat.zero_le _, by simpa using hR.symm, fun h => absurd h (by simp)⟩
        · refine weak_mk ?_ ?_ ?_ ?_ ?_ ?_ <;> simp -implicitDefEqProofs
end Go.Ai
