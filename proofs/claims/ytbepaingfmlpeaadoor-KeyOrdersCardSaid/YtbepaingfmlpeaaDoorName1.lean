/- YtbepaingfmlpeaaDoorName1: part of the abstract interpreter library (values, rules, soundness against the model) or of what a function of the seat computes. Conditions: as each theorem says. -/
import Derived.Test.YtbepaingfmlpeaaDoorNum
set_option linter.unusedSimpArgs false
set_option linter.unusedVariables false
namespace Go.Ai
open Go.Proofs
/-! ### Runes of bytes, no program in sight -/
theorem nget_at (s : List UInt8) (i : Nat) (h : i < s.length) : (ByteArray.mk s.toArray).get! i = s[i] := by
  simp [ByteArray.get!, getElem!_pos, h]
/-- A byte as a number; 0 behind the end. -/
def byt (s : List UInt8) (j : Nat) : Nat := match s[j]? with | some b => b.toNat | none => 0
/-- A byte that goes on. -/
def cont (s : List UInt8) (j : Nat) : Bool := decide (128 ≤ byt s j ∧ byt s j ≤ 191)
def rv (s : List UInt8) (i r0 : Nat) : Nat → Nat
  | 0 => r0
  | k + 1 => 64 * rv s i r0 k + (byt s (i + (k + 1)) - 128)
def conts (s : List UInt8) (i : Nat) : Nat → Bool
  | 0 => true
  | k + 1 => conts s i k && cont s (i + (k + 1))
def isRune (least r : Nat) : Bool := decide (least ≤ r ∧ r ≤ 1114111 ∧ ¬ (55296 ≤ r ∧ r < 57344))
def stepF (s : List UInt8) (i n r0 least : Nat) : Int × Nat := if conts s i n && isRune least (rv s i r0 n) then ((rv s i r0 n : Nat), n + 1) else (-1, 1)
/-- A rune and its bytes; -1: a bad byte. -/
def stepR (s : List UInt8) (i : Nat) : Int × Nat :=
  let b := byt s i
  if b < 128 then (b, 1) else if 192 ≤ b ∧ b < 224 then stepF s i 1 (b - 192) 128 else if 224 ≤ b ∧ b < 240 then stepF s i 2 (b - 224) 2048 else if 240 ≤ b ∧ b < 248 then stepF s i 3 (b - 240) 65536 else (-1, 1)
theorem byt_at {s : List UInt8} {i : Nat} (h : i < s.length) : byt s i = s[i].toNat := by unfold byt; rw [List.getElem?_eq_getElem h]
theorem byt_lt (s : List UInt8) (i : Nat) : byt s i < 256 := by
  unfold byt; split
  · rename_i b _; exact b.toNat_lt
  · omega
theorem byt_out {s : List UInt8} {i : Nat} (h : ¬ i < s.length) : byt s i = 0 := by unfold byt; rw [List.getElem?_eq_none (by omega)]
theorem stepF1 (s : List UInt8) (i r0 least : Nat) : stepF s i 1 r0 least = if cont s (i + 1) && isRune least (64 * r0 + (byt s (i + 1) - 128)) then (((64 * r0 + (byt s (i + 1) - 128) : Nat) : Int), 2) else (-1, 1) := rfl
theorem stepF2 (s : List UInt8) (i r0 least : Nat) : stepF s i 2 r0 least = if (cont s (i + 1) && cont s (i + 2)) && isRune least (64 * (64 * r0 + (byt s (i + 1) - 128)) + (byt s (i + 2) - 128)) then (((64 * (64 * r0 + (byt s (i + 1) - 128)) + (byt s (i + 2) - 128) : Nat) : Int), 3) else (-1, 1) := rfl
theorem stepF3 (s : List UInt8) (i r0 least : Nat) : stepF s i 3 r0 least = if ((cont s (i + 1) && cont s (i + 2)) && cont s (i + 3)) && isRune least (64 * (64 * (64 * r0 + (byt s (i + 1) - 128)) + (byt s (i + 2) - 128)) + (byt s (i + 3) - 128)) then (((64 * (64 * (64 * r0 + (byt s (i + 1) - 128)) + (byt s (i + 2) - 128)) + (byt s (i + 3) - 128) : Nat) : Int), 4) else (-1, 1) := rfl
theorem stepF_pos (s : List UInt8) (i n r0 least : Nat) : 1 ≤ (stepF s i n r0 least).2 := by unfold stepF; split <;> simp
theorem stepR_pos (s : List UInt8) (i : Nat) : 1 ≤ (stepR s i).2 := by
  unfold stepR
  simp only
  split
  · simp
  · split
    · exact stepF_pos ..
    · split
      · exact stepF_pos ..
      · split
        · exact stepF_pos ..
        · simp
def runesL (s : List UInt8) (i : Nat) : List Int := if h : i < s.length then (stepR s i).1 :: runesL s (i + (stepR s i).2) else []
termination_by s.length - i
decreasing_by have := stepR_pos s i; omega
theorem runesL_in {s : List UInt8} {i : Nat} (h : i < s.length) : runesL s i = (stepR s i).1 :: runesL s (i + (stepR s i).2) := by rw [runesL, dif_pos h]
theorem runesL_out {s : List UInt8} {i : Nat} (h : ¬ i < s.length) : runesL s i = [] := by rw [runesL, dif_neg h]
theorem get_byt {s : List UInt8} {j : Nat} (h : j < s.length) : ((ByteArray.mk s.toArray).get! j).toNat = byt s j := by rw [nget_at s j h, byt_at h]
theorem cont_iff {s : List UInt8} {j : Nat} : cont s j = true ↔ j < s.length ∧ byt s j / 64 = 2 := by
  unfold cont
  rw [decide_eq_true_eq]
  constructor
  · intro h
    rcases Nat.lt_or_ge j s.length with h1 | h1
    · exact ⟨h1, by omega⟩
    · rw [byt_out (by omega)] at h; omega
  · intro h; omega
/-- The model's reading of a rune is the same; a bad byte is 65533. -/
theorem step_rune (s : List UInt8) (i : Nat) (h : i < s.length) : runeAt s i = (if (stepR s i).1 = -1 then (65533, 1) else stepR s i) := by
  have hb : (ByteArray.mk s.toArray).size = s.length := by simp [ByteArray.size]
  have c : ∀ k, (decide (i + k < (ByteArray.mk s.toArray).size) && ((ByteArray.mk s.toArray).get! (i + k)).toNat / 64 == 2) = cont s (i + k) := by
    intro k
    rw [Bool.eq_iff_iff, cont_iff, hb]
    simp only [Bool.and_eq_true, decide_eq_true_eq, beq_iff_eq]
    constructor
    · rintro ⟨h1, h2⟩; rw [get_byt h1] at h2; exact ⟨h1, h2⟩
    · rintro ⟨h1, h2⟩; rw [get_byt h1]; exact ⟨h1, h2⟩
  have e0 : ((ByteArray.mk s.toArray).get! (i + 0)).toNat = byt s i := get_byt (by omega)
  have bl := byt_lt s i
  unfold runeAt Utf8.decode
  simp only [e0, c, Utf8.runeError]
  unfold stepR
  simp only
  by_cases h1 : byt s i < 128
  · have h2 : ¬ ((byt s i : Nat) : Int) = -1 := by omega
    simp only [h1, if_true, h2, if_false]
  · simp only [h1, if_false]
    have d1 : (byt s i / 32 == 6) = decide (192 ≤ byt s i ∧ byt s i < 224) := by rw [Bool.eq_iff_iff]; simp; omega
    have d2 : (byt s i / 16 == 14) = decide (224 ≤ byt s i ∧ byt s i < 240) := by rw [Bool.eq_iff_iff]; simp; omega
    have d3 : (byt s i / 8 == 30) = decide (240 ≤ byt s i ∧ byt s i < 248) := by rw [Bool.eq_iff_iff]; simp; omega
    rw [d1, d2, d3]
    by_cases r1 : 192 ≤ byt s i ∧ byt s i < 224
    · have r2 : ¬ (224 ≤ byt s i ∧ byt s i < 240) := by omega
      have r3 : ¬ (240 ≤ byt s i ∧ byt s i < 248) := by omega
      simp only [r1, r2, r3, and_self, decide_true, decide_false, Bool.true_and, Bool.false_and, if_true, if_false, Bool.false_eq_true]
      rw [stepF1]
      cases c1 : cont s (i + 1)
      · simp
      · obtain ⟨l1, q1⟩ := cont_iff.1 c1
        simp only [if_true, Bool.true_and, get_byt l1]
        have b1 := byt_lt s (i + 1)
        generalize byt s (i + 1) = y at *
        generalize byt s i = x at *
        by_cases z : isRune 128 (64 * (x - 192) + (y - 128)) = true
        · have zz := z
          unfold isRune at zz
          rw [decide_eq_true_eq] at zz
          have e : x % 32 * 64 + y % 64 = 64 * (x - 192) + (y - 128) := by omega
          simp only [z, e, if_true]
          rw [if_neg (show ¬ ((64 * (x - 192) + (y - 128) : Nat) : Int) = -1 by omega), if_pos (by omega)]
        · have zz := z
          unfold isRune at zz
          rw [decide_eq_true_eq] at zz
          have hz : ¬ (x % 32 * 64 + y % 64 ≥ 128) := by omega
          simp only [z, hz, Bool.false_eq_true, if_false]
          simp
    · by_cases r2 : 224 ≤ byt s i ∧ byt s i < 240
      · have r3 : ¬ (240 ≤ byt s i ∧ byt s i < 248) := by omega
        simp only [r1, r2, r3, and_self, decide_true, decide_false, Bool.true_and, Bool.false_and, if_true, if_false, Bool.false_eq_true]
        rw [stepF2]
        cases c1 : cont s (i + 1)
        · simp
        · cases c2 : cont s (i + 2)
          · simp
          · obtain ⟨l1, q1⟩ := cont_iff.1 c1
            obtain ⟨l2, q2⟩ := cont_iff.1 c2
            simp only [if_true, Bool.true_and, Bool.and_self, get_byt l1, get_byt l2]
            have b1 := byt_lt s (i + 1)
            have b2 := byt_lt s (i + 2)
            try rw [get_byt l2]
            generalize byt s (i + 2) = w at *
            generalize byt s (i + 1) = y at *
            generalize byt s i = x at *
            by_cases z : isRune 2048 (64 * (64 * (x - 224) + (y - 128)) + (w - 128)) = true
            · have zz := z
              unfold isRune at zz
              rw [decide_eq_true_eq] at zz
              have e : x % 16 * 4096 + y % 64 * 64 + w % 64 = 64 * (64 * (x - 224) + (y - 128)) + (w - 128) := by omega
              simp only [z, e, if_true]
              rw [if_neg (show ¬ ((64 * (64 * (x - 224) + (y - 128)) + (w - 128) : Nat) : Int) = -1 by omega), if_pos (by simp [Utf8.valid]; omega)]
            · have zz := z
              unfold isRune at zz
              rw [decide_eq_true_eq] at zz
              have hz : (decide (x % 16 * 4096 + y % 64 * 64 + w % 64 ≥ 2048) && Utf8.valid ((x % 16 * 4096 + y % 64 * 64 + w % 64 : Nat) : Int)) = false := by
                rw [Bool.eq_false_iff]; simp [Utf8.valid]; omega
              simp only [z, hz, Bool.false_eq_true, if_false]
              simp
      · by_cases r3 : 240 ≤ byt s i ∧ byt s i < 248
        · simp only [r1, r2, r3, and_self, decide_true, decide_false, Bool.true_and, Bool.false_and, if_true, if_false, Bool.false_eq_true]
          rw [stepF3]
          cases c1 : cont s (i + 1)
          · simp
          · cases c2 : cont s (i + 2)
            · simp
            · cases c3 : cont s (i + 3)
              · simp
              · obtain ⟨l1, q1⟩ := cont_iff.1 c1
                obtain ⟨l2, q2⟩ := cont_iff.1 c2
                obtain ⟨l3, q3⟩ := cont_iff.1 c3
                simp only [if_true, Bool.true_and, Bool.and_self, get_byt l1]
                have b1 := byt_lt s (i + 1)
                have b2 := byt_lt s (i + 2)
                have b3 := byt_lt s (i + 3)
                try simp only [get_byt l2, get_byt l3]
                generalize byt s (i + 3) = t at *
                generalize byt s (i + 2) = w at *
                generalize byt s (i + 1) = y at *
                generalize byt s i = x at *
                by_cases z : isRune 65536 (64 * (64 * (64 * (x - 240) + (y - 128)) + (w - 128)) + (t - 128)) = true
                · have zz := z
                  unfold isRune at zz
                  rw [decide_eq_true_eq] at zz
                  have e : x % 8 * 262144 + y % 64 * 4096 + w % 64 * 64 + t % 64 = 64 * (64 * (64 * (x - 240) + (y - 128)) + (w - 128)) + (t - 128) := by omega
                  simp only [z, e, if_true]
                  rw [if_neg (show ¬ ((64 * (64 * (64 * (x - 240) + (y - 128)) + (w - 128)) + (t - 128) : Nat) : Int) = -1 by omega), if_pos (by simp [Utf8.valid]; omega)]
                · have zz := z
                  unfold isRune at zz
                  rw [decide_eq_true_eq] at zz
                  have hz : (decide (x % 8 * 262144 + y % 64 * 4096 + w % 64 * 64 + t % 64 ≥ 65536) && Utf8.valid ((x % 8 * 262144 + y % 64 * 4096 + w % 64 * 64 + t % 64 : Nat) : Int)) = false := by
                    rw [Bool.eq_false_iff]; simp [Utf8.valid]; omega
                  simp only [z, hz, Bool.false_eq_true, if_false]
                  simp
        · simp [r1, r2, r3]
end Go.Ai
