/- YtbepaingfmlpeaaBun6: part of the abstract interpreter library (values, rules, soundness against the model) or of what a function of the seat computes. Conditions: as each theorem says. -/
import Derived.Test.YtbepaingfmlpeaaBun5
set_option linter.unusedSimpArgs false
set_option linter.unusedVariables false
namespace Go.Ai
open Go.Proofs
theorem int_beq_nat (a b : Nat) : ((a : Int) == (b : Int)) = (a == b) := by
  rw [Bool.eq_iff_iff]; simp; omega
theorem ky_beq (a b : Ky) : (a.g == b.g && (a.r == b.r && (a.p == b.p && (((a.e : Int) == (b.e : Int)) && a.f == b.f)))) = decide (a = b) := by
  obtain ⟨g, r, p, e, f⟩ := a
  obtain ⟨g', r', p', e', f'⟩ := b
  rw [Bool.eq_iff_iff, int_beq_nat]
  simp
theorem take_eq {α : Type} {a b : List α} {i : Nat} (ha : i < a.length) (hb : i < b.length) (h : a.take i = b.take i) (e : a[i] = b[i]) : a.take (i + 1) = b.take (i + 1) := by
  rw [List.take_succ_eq_append_getElem ha, List.take_succ_eq_append_getElem hb, h, e]
set_option maxRecDepth 20000 in
theorem same25_spec (a b : List Ky) (hn : a.length < 9223372036854775807) : Sp Try.prog gl 84 [.sl (a.map Ky.row), .sl (b.map Ky.row)] (.bool (decide (a = b))) := by
  refine s84 rfl rfl ?_
  by_cases hl : a.length = b.length
  · have hlI : ((a.length : Int) != b.length) = false := by simp [hl]
    simp -implicitDefEqProofs [c84, hlI]
    refine wp_lpk (α := Nat) (fun i => ⟨[(0, .sl (a.map Ky.row)), (1, .sl (b.map Ky.row)), (5, i6 i)], [], []⟩) (fun i => i ≤ a.length ∧ a.take i = b.take i) (fun i => a.length - i) ?_ 0 ?_ ?_
    · rintro K i hK ⟨h1, h2⟩
      by_cases g : i < a.length
      · have t1 : IntKind.i64.wrap ((i : Int) + 1) = (i + 1 : Nat) := by rw [wrap_i64] <;> omega
        have g2 : i < b.length := by omega
        have hlg : (i : Int) < b.length := by omega
        have fin : a[i] = b[i] → ∀ σ', Weak σ' ⟨[(0, .sl (a.map Ky.row)), (1, .sl (b.map Ky.row)), (5, i6 (i + 1 : Nat))], [], []⟩ → K σ' := fun hh σ' hσ => hK (i + 1) σ' ⟨by omega, take_eq g g2 h2 hh⟩ (by omega) hσ
        have hne : a[i] ≠ b[i] → decide (a = b) = false := fun h => by
          rw [decide_eq_false_iff_not]; rintro rfl; exact h rfl
        have kb := ky_beq a[i] b[i]
        generalize decide (a = b) = R at *
        clear hK
        by_cases e : a[i] = b[i]
        · have fin := fin e
          simp -implicitDefEqProofs [g, g2, krow, e]
          refine fin _ (weak_mk ?_ ?_ ?_ ?_ ?_ ?_) <;> simp -implicitDefEqProofs [t1]
        · have := hne e
          subst this
          rw [decide_eq_false e] at kb
          simp -implicitDefEqProofs [g, g2, krow, kb]
      · have h3 : ¬ i < b.length := by omega
        have : decide (a = b) = true := by
          rw [decide_eq_true_eq]
          rw [List.take_of_length_le (by omega), List.take_of_length_le (by omega)] at h2
          exact h2
        rw [this]
        clear hK
        simp -implicitDefEqProofs [g, h3]
    · simp
    · refine weak_mk ?_ ?_ ?_ ?_ ?_ ?_ <;> simp -implicitDefEqProofs
  · have hlI : ((a.length : Int) != b.length) = true := by simp; omega
    have : decide (a = b) = false := by rw [decide_eq_false_iff_not]; rintro rfl; exact hl rfl
    rw [this]
    simp -implicitDefEqProofs [c84, hlI]
theorem sameOne_spec (a b : Ms) (hn : a.ks.length < 9223372036854775807) : Sp Try.prog gl 45 [.agg a.row, .agg b.row] (.bool (decide (a = b))) := by
  refine s45 rfl rfl ?_
  have S := same25_spec a.ks b.ks hn
  obtain ⟨g, p, ks⟩ := a
  obtain ⟨g', p', ks'⟩ := b
  simp only [Ms.row] at S ⊢
  have e : decide ((⟨g, p, ks⟩ : Ms) = ⟨g', p', ks'⟩) = ((g == g') && ((p == p') && decide (ks = ks'))) := by rw [Bool.eq_iff_iff]; simp
  rw [e]
  generalize ks.map Ky.row = L at *
  generalize ks'.map Ky.row = L' at *
  generalize decide (ks = ks') = R at *
  cases h1 : (g == g')
  · simp -implicitDefEqProofs [c45, h1]
  · cases h2 : (p == p')
    · simp -implicitDefEqProofs [c45, h1, h2]
    · simp -implicitDefEqProofs [c45, h1, h2]
      refine onC_mk _ S ?_
      simp -implicitDefEqProofs
set_option maxRecDepth 20000 in
theorem same30_spec (a b : List Ms) (hn : a.length < 9223372036854775807) (hk : ∀ m ∈ a, m.ks.length < 9223372036854775807) : Sp Try.prog gl 16 [.sl (a.map Ms.row), .sl (b.map Ms.row)] (.bool (decide (a = b))) := by
  refine s16 rfl rfl ?_
  by_cases hl : a.length = b.length
  · have hlI : ((a.length : Int) != b.length) = false := by simp [hl]
    simp -implicitDefEqProofs [c16, hlI]
    refine wp_lpk (α := Nat) (fun i => ⟨[(0, .sl (a.map Ms.row)), (1, .sl (b.map Ms.row)), (5, i6 i)], [], []⟩) (fun i => i ≤ a.length ∧ a.take i = b.take i) (fun i => a.length - i) ?_ 0 ?_ ?_
    · rintro K i hK ⟨h1, h2⟩
      by_cases g : i < a.length
      · have t1 : IntKind.i64.wrap ((i : Int) + 1) = (i + 1 : Nat) := by rw [wrap_i64] <;> omega
        have g2 : i < b.length := by omega
        have fin : a[i] = b[i] → ∀ σ', Weak σ' ⟨[(0, .sl (a.map Ms.row)), (1, .sl (b.map Ms.row)), (5, i6 (i + 1 : Nat))], [], []⟩ → K σ' := fun hh σ' hσ => hK (i + 1) σ' ⟨by omega, take_eq g g2 h2 hh⟩ (by omega) hσ
        have hne : a[i] ≠ b[i] → decide (a = b) = false := fun h => by
          rw [decide_eq_false_iff_not]; rintro rfl; exact h rfl
        have S := sameOne_spec a[i] b[i] (hk _ (List.getElem_mem g))
        generalize decide (a = b) = R at *
        clear hK
        by_cases e : a[i] = b[i]
        · have fin := fin e
          rw [decide_eq_true e, mrow, mrow] at S
          simp -implicitDefEqProofs [g, g2, mrow]
          refine onC_mk _ S ?_
          simp -implicitDefEqProofs
          refine fin _ (weak_mk ?_ ?_ ?_ ?_ ?_ ?_) <;> simp -implicitDefEqProofs [t1]
        · have := hne e
          subst this
          rw [decide_eq_false e, mrow, mrow] at S
          simp -implicitDefEqProofs [g, g2, mrow]
          refine onC_mk _ S ?_
          simp -implicitDefEqProofs
      · have h3 : ¬ i < b.length := by omega
        have : decide (a = b) = true := by
          rw [decide_eq_true_eq]
          rw [List.take_of_length_le (by omega), List.take_of_length_le (by omega)] at h2
          exact h2
        rw [this]
        clear hK
        simp -implicitDefEqProofs [g, h3]
    · simp
    · refine weak_mk ?_ ?_ ?_ ?_ ?_ ?_ <;> simp -implicitDefEqProofs
  · have hlI : ((a.length : Int) != b.length) = true := by simp; omega
    have : decide (a = b) = false := by rw [decide_eq_false_iff_not]; rintro rfl; exact hl rfl
    rw [this]
    simp -implicitDefEqProofs [c16, hlI]
def awk : List Ky := [⟨[97], [114], false, 1, false⟩, ⟨[98], [114], true, 2, false⟩, ⟨[97], [115], false, 3, false⟩]
theorem awake30_spec : Sp Try.prog gl 12 [] (.bool true) := by
  refine s12 rfl rfl ?_
  have G := Group_spec awk (by decide)
  have e : grpAll awk = [⟨[98], true, [⟨[98], [114], true, 2, false⟩]⟩, ⟨[97], false, [⟨[97], [114], false, 1, false⟩, ⟨[97], [115], false, 3, false⟩]⟩] := by decide
  rw [e] at G
  simp only [awk, List.map_cons, List.map_nil, krow, mrow] at G
  simp -implicitDefEqProofs [c12]
  refine onC_mk _ G ?_
  simp -implicitDefEqProofs
end Go.Ai
