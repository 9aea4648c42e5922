/- YtbepaingfmlpeaaXPrint: part of the abstract interpreter library (values, rules, soundness against the model) or of what a function of the seat computes. Conditions: as each theorem says. -/
import Derived.Test.YtbepaingfmlpeaaDigits
set_option linter.unusedSimpArgs false
set_option linter.unusedVariables false
namespace Go.Ai
open Go.Proofs
def byteAv (b : UInt8) : AV := .int .u8 b.toNat
def bufC (k : Nat) (s : List UInt8) : List AV := List.replicate k (.int .u8 0) ++ s.map byteAv
theorem bufC_len (k : Nat) (s : List UInt8) : (bufC k s).length = k + s.length := by simp [bufC]
theorem bufC_set (j : Nat) (b : UInt8) (s : List UInt8) : List.take j (bufC (j + 1) s) ++ byteAv b :: List.drop (j + 1) (bufC (j + 1) s) = bufC j (b :: s) := by
  have h1 : List.take j (bufC (j + 1) s) = List.replicate j (.int .u8 0) := by
    unfold bufC; rw [List.replicate_succ', List.append_assoc, List.take_left' (by simp)]
  have h2 : List.drop (j + 1) (bufC (j + 1) s) = s.map byteAv := by unfold bufC; rw [List.drop_left' (by simp)]
  rw [h1, h2]; rfl
theorem idsL_bytes (s : List UInt8) : idsL (s.map byteAv) = [] := by
  induction s with
  | nil => rfl
  | cons x r ih => simp [idsL, byteAv, AV.ids, ih]
theorem idsL_app (a b : List AV) : idsL (a ++ b) = idsL a ++ idsL b := by
  induction a with
  | nil => rfl
  | cons x r ih => simp [idsL, ih]
theorem bufC_ids (k : Nat) (s : List UInt8) : idsL (bufC k s) = [] := by
  unfold bufC; rw [idsL_app, idsL_bytes, List.append_nil]
  induction k with
  | zero => rfl
  | succ k ih => simp [List.replicate_succ, idsL, AV.ids, ih]
theorem bytes_of (s : List UInt8) : byteCells (s.map byteAv) = some s := by
  induction s with
  | nil => rfl
  | cons x r ih => simp [byteCells, byteAv, ih]
theorem buf_bytes (k n : Nat) (s : List UInt8) (h : s.length ≤ n) : byteCells (((bufC k s).drop k).take n) = some s := by
  have : (bufC k s).drop k = s.map byteAv := by unfold bufC; rw [List.drop_left' (by simp)]
  rw [this, List.take_of_length_le (by simpa using h), bytes_of]
set_option maxRecDepth 20000 in
theorem xprint_spec (n : Nat) (hn : n < 340282366920938463463374607431768211456) : Sp Try.prog gl 77 [wide n] (.str (dec n)) := by
  refine s77 rfl rfl ?_
  have hlen : (dec n).length ≤ 39 := dec_len 38 n (by omega)
  obtain ⟨R, hR⟩ : ∃ R, R = dec n := ⟨_, rfl⟩
  rw [← hR] at hlen ⊢
  have e39 : List.replicate 39 (AV.int .u8 0) = bufC 39 [] := by simp [bufC]
  unfold wide
  simp -implicitDefEqProofs [c77]
  refine wp_lpk (α := Nat × Nat × List UInt8) (fun x => ⟨[(1, .ptr (.n 1) 0), (3, .ptr (.n 3) 0), (4, i6 x.2.1)], [(.n 3, bufC x.2.1 x.2.2), (.n 1, [u (x.1 / 18446744073709551616), u (x.1 % 18446744073709551616)])], []⟩)
    (fun x => x.1 < 340282366920938463463374607431768211456 ∧ x.2.1 + x.2.2.length = 39 ∧ R = dec x.1 ++ x.2.2) (fun x => x.1) ?_ (n, 39, []) ?_ ?_
  · rintro K ⟨a, k, s⟩ hK ⟨h1, h2, h3⟩
    simp only at h1 h2 h3
    have hk : 1 ≤ k := by
      have := dec_ne a
      have h4 : 1 ≤ (dec a).length := by cases h : dec a with
        | nil => exact absurd h this
        | cons x r => simp
      rw [h3] at hlen; simp at hlen; omega
    obtain ⟨j, rfl⟩ : ∃ j, k = j + 1 := ⟨k - 1, by omega⟩
    have F := floor_spec a 10 (by omega) h1 (by omega)
    obtain ⟨d, hd⟩ : ∃ d, d = a % 10 := ⟨_, rfl⟩
    have d10 : d < 10 := by omega
    obtain ⟨q, hq⟩ : ∃ q, q = a / 10 := ⟨_, rfl⟩
    have hqa : q ≤ a := by omega
    rw [← hq, ← hd] at F
    have t1 : IntKind.i64.wrap (j : Int) = j := by rw [wrap_i64] <;> omega
    have w1 : IntKind.u8.wrap (d : Int) = d := wrap_u8 (by omega) (by omega)
    have w2 : IntKind.u8.wrap (48 + (d : Int)) = 48 + (d : Int) := by rw [wrap_u8] <;> omega
    have eb : AV.int .u8 (48 + (d : Int)) = byteAv (UInt8.ofNat (48 + d)) := by unfold byteAv; rw [dig_nat d10]; congr 1
    have st := bufC_set j (UInt8.ofNat (48 + d)) s
    have hl := bufC_len (j + 1) s
    have hl2 := bufC_len j (UInt8.ofNat (48 + d) :: s)
    have hi2 := bufC_ids j (UInt8.ofNat (48 + d) :: s)
    have hb := buf_bytes j (39 - j) (UInt8.ofNat (48 + d) :: s) (by simp; omega)
    have j39 : (j : Int) < 39 := by omega
    have jX : j + 1 ≤ (bufC (j + 1) s).length := by rw [hl]; omega
    have j0 : (j : Int) ≤ 39 := by omega
    have jn : ((39 : Int) - j).toNat = 39 - j := by omega
    by_cases g : a < 10
    · have q0 : q = 0 := by omega
      have eR : R = UInt8.ofNat (48 + d) :: s := by rw [h3, dec_lt g, hd, Nat.mod_eq_of_lt g]; rfl
      subst q0
      rw [← eR] at st hl2 hi2 hb
      have w0 : wide 0 = .agg [u 0, u 0] := rfl
      rw [w0] at F
      obtain ⟨X, hX⟩ : ∃ X, X = bufC (j + 1) s := ⟨_, rfl⟩
      obtain ⟨Y, hY⟩ : ∃ Y, Y = bufC j R := ⟨_, rfl⟩
      rw [← hX] at st hl jX ⊢
      rw [← hY] at st hl2 hb
      rw [← eb] at st
      have hRl : R.length = s.length + 1 := by rw [eR]; simp
      have hY39 : 39 ≤ Y.length := by omega
      clear eb hK h3 hR hX hY hi2 hq hd eR
      unfold wide at F
      generalize a / 18446744073709551616 = a1 at *
      generalize a % 18446744073709551616 = a2 at *
      simp -implicitDefEqProofs
      refine onC_mk _ F ?_
      have hj : j + (39 - j) ≤ Y.length := by omega
      simp -implicitDefEqProofs [t1, w1, w2, j39, jX, st, hY39, j0, bytesA, jn, hb, hj]
    · have eR : R = dec q ++ (UInt8.ofNat (48 + d) :: s) := by rw [h3, dec_ge g, hd, hq]; simp
      have q0 : q ≠ 0 := by omega
      have fin : ∀ σ', Weak σ' ⟨[(1, .ptr (.n 1) 0), (3, .ptr (.n 3) 0), (4, i6 j)], [(.n 3, bufC j (UInt8.ofNat (48 + d) :: s)), (.n 1, [u (q / 18446744073709551616), u (q % 18446744073709551616)])], []⟩ → K σ' :=
        fun σ' hσ => hK (q, j, UInt8.ofNat (48 + d) :: s) σ' ⟨by simp only; omega, by simp; omega, eR⟩ (by simp only; omega) hσ
      have qz : ¬ (q / 18446744073709551616 = 0 ∧ q % 18446744073709551616 = 0) := by rw [nz_iff]; exact q0
      obtain ⟨X, hX⟩ : ∃ X, X = bufC (j + 1) s := ⟨_, rfl⟩
      obtain ⟨Y, hY⟩ : ∃ Y, Y = bufC j (UInt8.ofNat (48 + d) :: s) := ⟨_, rfl⟩
      rw [← hX] at st hl jX ⊢
      rw [← hY] at st hl2 hb fin hi2
      rw [← eb] at st
      clear eb hK h3 hR hX hY hq hd eR
      unfold wide at F
      generalize a / 18446744073709551616 = a1 at *
      generalize a % 18446744073709551616 = a2 at *
      generalize q / 18446744073709551616 = q1 at *
      generalize q % 18446744073709551616 = q2 at *
      have qb : ((q1 : Int) == 0 && (q2 : Int) == 0) = false := by
        rw [Bool.and_eq_false_iff]
        simp only [beq_eq_false_iff_ne, ne_eq, Int.natCast_eq_zero]
        omega
      simp -implicitDefEqProofs
      refine onC_mk _ F ?_
      simp -implicitDefEqProofs [t1, w1, w2, j39, jX, st, qb]
      refine fin _ ?_
      apply weak_mk <;> simp [hi2]
  · simp [hR]; omega
  · apply weak_mk <;> simp [bufC_ids]
    exact wkL_refl (bufC 39 [])
end Go.Ai
