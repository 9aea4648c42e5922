/- YtbepaingfmlpeaaRune: part of the abstract interpreter library (values, rules, soundness against the model) or of what a function of the seat computes. Conditions: as each theorem says. -/
import Derived.Test.YtbepaingfmlpeaaRRead
set_option linter.unusedSimpArgs false
set_option linter.unusedVariables false
namespace Go.Ai
open Go.Proofs
/-! ### Runes -/
theorem get_at (s : List UInt8) (i : Nat) (h : i < s.length) : (ByteArray.mk s.toArray).get! (i + 0) = s[i] := by
  show (ByteArray.mk s.toArray).get! i = _
  simp [ByteArray.get!, getElem!_pos, h]
theorem rune_lo {s : List UInt8} {i : Nat} (h : i < s.length) (hb : s[i].toNat < 128) : runeAt s i = ((s[i].toNat : Int), 1) := by
  unfold runeAt Utf8.decode
  simp only [get_at s i h, hb, if_true]
theorem rune_hi {s : List UInt8} {i : Nat} (h : i < s.length) (hb : ¬ s[i].toNat < 128) : 128 ≤ (runeAt s i).1 := by
  unfold runeAt Utf8.decode
  simp only [get_at s i h, hb, if_false, Utf8.runeError]
  generalize (ByteArray.mk s.toArray).get! (i + 1) = x1
  generalize (ByteArray.mk s.toArray).get! (i + 2) = x2
  generalize (ByteArray.mk s.toArray).get! (i + 3) = x3
  generalize (s[i]).toNat = b at *
  split
  · split
    · simp only []; omega
    · simp only []; omega
  · split
    · split
      · rename_i h2; simp only [Bool.and_eq_true, decide_eq_true_eq] at h2; simp only []; omega
      · simp only []; omega
    · split
      · split
        · rename_i h2; simp only [Bool.and_eq_true, decide_eq_true_eq] at h2; simp only []; omega
        · simp only []; omega
      · simp only []; omega
theorem rune_pos {s : List UInt8} {i : Nat} : 1 ≤ (runeAt s i).2 := by
  unfold runeAt Utf8.decode
  simp only [Utf8.runeError]
  repeat' split
  all_goals (simp only []; omega)
set_option maxRecDepth 20000 in
theorem xdigits_spec (s : List UInt8) (hl : s.length ≤ 1000000) : Sp Try.prog gl 99 [.str s] (.bool (okDec s)) := by
  refine s99 rfl rfl ?_
  have bad : ∀ i (h : i < s.length), isDig s[i] = false → okDec s = false := fun i h => all_bad h
  have bad0 : s.headD 0 = 48 → 1 < s.length → okDec s = false := by
    intro h1 h2
    unfold okDec
    rw [h1]
    have : (s.length == 1) = false := by simp; omega
    rw [this]; simp
  have good : s ≠ [] → s.all isDig = true → (s.headD 0 = 48 → s.length = 1) → okDec s = true := by
    intro h1 h2 h3
    unfold okDec
    rw [h2]
    by_cases hx : s.headD 0 = 48
    · simp [h1, h3 hx]
    · have : (s.headD 0 != 48) = true := by simp only [bne_iff_ne, ne_eq]; exact hx
      rw [this]; simp [h1]
  have hnil : s = [] → okDec s = false := by rintro rfl; rfl
  have h1000 : s.headD 0 = (s[0]?).getD 0 := by cases s <;> rfl
  generalize okDec s = R at *
  simp -implicitDefEqProofs [c99]
  refine wp_lpk (α := Nat) (fun i => ⟨[(0, .str s), (6, .itp 6)], [(.it 6, [.itr s i])], []⟩)
    (fun i => i ≤ s.length ∧ (s.take i).all isDig = true ∧ (1 ≤ i → s.headD 0 = 48 → s.length = 1)) (fun i => s.length - i) ?_ 0 ?_ ?_
  · rintro K i hK ⟨h1, h3, h4⟩
    by_cases g : i < s.length
    · have fin : isDig s[i] = true → (i = 0 → s[i] = 48 → s.length = 1) → ∀ σ', Weak σ' ⟨[(0, .str s), (6, .itp 6)], [(.it 6, [.itr s (i + 1)])], []⟩ → K σ' :=
        fun hd h5 σ' hσ => hK (i + 1) σ' ⟨by omega, all_take s i g hd h3, fun _ hh => by
          by_cases hi : i = 0
          · subst hi
            refine h5 rfl ?_ 
            rw [h1000, List.getElem?_eq_getElem g] at hh
            simpa using hh
          · exact h4 (by omega) hh⟩ (by omega) hσ
      have bad := bad i g
      have rlo := rune_lo g
      have rhi := rune_hi g
      have bad0' : i = 0 → s[i] = 48 → 1 < s.length → R = false := by
        rintro rfl h5 h6
        refine bad0 ?_ h6
        rw [h1000, List.getElem?_eq_getElem g, h5]; rfl
      obtain ⟨x, hsx⟩ : ∃ x, s[i] = x := ⟨_, rfl⟩
      simp only [hsx] at fin bad rlo rhi bad0'
      clear hK bad0 good hnil h4 h3
      by_cases hx : x.toNat < 128
      · have r := rlo hx
        by_cases x1 : (x.toNat : Int) < 48
        · have := bad (by simp only [isDig, decide_eq_false_iff_not]; omega)
          subst this
          simp -implicitDefEqProofs [g, r, x1]
        · by_cases x2 : (57 : Int) < x.toNat
          · have := bad (by simp only [isDig, decide_eq_false_iff_not]; omega)
            subst this
            simp -implicitDefEqProofs [g, r, x1, x2]
          · have fin := fin (by simp only [isDig, decide_eq_true_eq]; omega)
            by_cases i0 : i = 0
            · subst i0
              by_cases x3 : x.toNat = 48
              · have x3' : x = 48 := UInt8.toNat_inj.1 (by rw [x3]; rfl)
                by_cases l1 : 1 < s.length
                · have := bad0' rfl x3' l1
                  subst this
                  have l1' : (1 : Int) < (s.length : Int) := by omega
                  have x3i : (x.toNat : Int) = 48 := by omega
                  simp -implicitDefEqProofs [g, r, x1, x2, x3i, l1']
                · have l1' : ¬ (1 : Int) < (s.length : Int) := by omega
                  have x3i : (x.toNat : Int) = 48 := by omega
                  have fin := fin (fun _ _ => by omega)
                  clear bad bad0'
                  simp -implicitDefEqProofs [g, r, x1, x2, x3i, l1']
                  refine fin _ ?_
                  apply weak_mk <;> simp
              · have x3' : ((x.toNat : Int) == 48) = false := by rw [beq_eq_false_iff_ne]; omega
                have fin := fin (fun _ h => absurd (by rw [h]; rfl) x3)
                simp -implicitDefEqProofs [g, r, x1, x2, x3']
                refine fin _ ?_
                apply weak_mk <;> simp
            · have i0' : ((i : Int) == 0) = false := by rw [beq_eq_false_iff_ne]; omega
              have fin := fin (fun h => absurd h i0)
              simp -implicitDefEqProofs [g, r, x1, x2, i0']
              refine fin _ ?_
              apply weak_mk <;> simp
      · have h128 := rhi hx
        have := bad (by simp only [isDig, decide_eq_false_iff_not]; omega)
        subst this
        obtain ⟨rr, hrr⟩ : ∃ rr, (runeAt s i).1 = rr := ⟨_, rfl⟩
        rw [hrr] at h128
        have x1 : ¬ rr < 48 := by omega
        have x2 : (57 : Int) < rr := by omega
        simp -implicitDefEqProofs [g, hrr, x1, x2]
    · obtain rfl : i = s.length := by omega
      rw [List.take_length] at h3
      clear hK bad bad0
      by_cases hs : s = []
      · have := hnil hs
        subst this; subst hs
        simp -implicitDefEqProofs
      · have := good hs h3 (h4 (List.length_pos_iff.2 hs))
        subst this
        simp -implicitDefEqProofs [hs]
  · simp
  · apply weak_mk <;> simp
end Go.Ai
