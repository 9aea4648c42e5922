/- YtbepaingfmlpeaaDec: part of the abstract interpreter library (values, rules, soundness against the model) or of what a function of the seat computes. Conditions: as each theorem says. -/
import Derived.Test.YtbepaingfmlpeaaAiUse
set_option linter.unusedSimpArgs false
set_option linter.unusedVariables false
namespace Go.Ai
/-! ### Digits, no program in sight -/
def dec (n : Nat) : List UInt8 := if h : n < 10 then [UInt8.ofNat (48 + n)] else dec (n / 10) ++ [UInt8.ofNat (48 + n % 10)]
termination_by n
decreasing_by omega
def undec (s : List UInt8) : Nat := s.foldl (fun a b => 10 * a + (b.toNat - 48)) 0
def isDig (b : UInt8) : Bool := decide (48 ≤ b.toNat ∧ b.toNat ≤ 57)
/-- A number's print: digits, no nought ahead. -/
def okDec (s : List UInt8) : Bool := !s.isEmpty && s.all isDig && (s.headD 0 != 48 || s.length == 1)
theorem dec_lt {n : Nat} (h : n < 10) : dec n = [UInt8.ofNat (48 + n)] := by rw [dec, dif_pos h]
theorem dec_ge {n : Nat} (h : ¬ n < 10) : dec n = dec (n / 10) ++ [UInt8.ofNat (48 + n % 10)] := by rw [dec, dif_neg h]
theorem dig_nat {k : Nat} (h : k < 10) : (UInt8.ofNat (48 + k)).toNat = 48 + k := by simp; omega
theorem undec_snoc (s : List UInt8) (b : UInt8) : undec (s ++ [b]) = 10 * undec s + (b.toNat - 48) := by simp [undec]
theorem undec_dec (n : Nat) : undec (dec n) = n := by
  induction n using Nat.strongRecOn with
  | _ n ih =>
    by_cases h : n < 10
    · rw [dec_lt h, ← List.nil_append [_], undec_snoc, dig_nat h]; simp [undec]
    · rw [dec_ge h, undec_snoc, ih _ (by omega), dig_nat (by omega)]; omega
theorem dec_ne (n : Nat) : dec n ≠ [] := by
  by_cases h : n < 10
  · rw [dec_lt h]; simp
  · rw [dec_ge h]; simp
theorem dec_dig (n : Nat) : (dec n).all isDig = true := by
  induction n using Nat.strongRecOn with
  | _ n ih =>
    by_cases h : n < 10
    · rw [dec_lt h]; simp [isDig, dig_nat h]; omega
    · rw [dec_ge h, List.all_append, ih _ (by omega)]; simp [isDig, dig_nat (show n % 10 < 10 by omega)]; omega
theorem dec_head (n : Nat) (h : 0 < n) : (dec n).headD 0 ≠ 48 := by
  induction n using Nat.strongRecOn with
  | _ n ih =>
    by_cases g : n < 10
    · rw [dec_lt g]
      intro e
      have := congrArg UInt8.toNat e
      simp only [List.headD_cons] at this
      rw [dig_nat g] at this
      simp at this; omega
    · rw [dec_ge g]
      have := ih (n / 10) (by omega) (by omega)
      have h2 := dec_ne (n / 10)
      cases hd : dec (n / 10) with
      | nil => exact absurd hd h2
      | cons x r => rw [hd] at this; simpa using this
theorem okDec_dec (n : Nat) : okDec (dec n) = true := by
  unfold okDec
  rw [dec_dig]
  have h1 : (dec n).isEmpty = false := by simpa using dec_ne n
  rw [h1]
  by_cases h : 0 < n
  · have := dec_head n h
    simp only [Bool.not_false, Bool.true_and, Bool.or_eq_true, bne_iff_ne]
    exact .inl this
  · have : n = 0 := by omega
    subst this
    rw [dec_lt (by omega)]; simp
theorem dec_len (k n : Nat) (h : n < 10 ^ (k + 1)) : (dec n).length ≤ k + 1 := by
  induction k generalizing n with
  | zero => rw [dec_lt (by simpa using h)]; simp
  | succ k ih =>
    by_cases g : n < 10
    · rw [dec_lt g]; simp
    · rw [dec_ge g]
      have := ih (n / 10) (by rw [Nat.pow_succ] at h; omega)
      simp; omega
theorem snoc_ind {α : Type} {P : List α → Prop} (h0 : P []) (h1 : ∀ s b, P s → P (s ++ [b])) : ∀ s, P s := by
  intro s
  rw [← List.reverse_reverse s]
  induction s.reverse with
  | nil => simpa using h0
  | cons b r ih => rw [List.reverse_cons]; exact h1 _ _ ih
theorem undec_lt (s : List UInt8) (h : s.all isDig = true) : undec s < 10 ^ s.length := by
  revert h
  refine snoc_ind (P := fun s => s.all isDig = true → undec s < 10 ^ s.length) ?_ ?_ s
  · intro _; simp [undec]
  · intro s b ih h
    rw [List.all_append, Bool.and_eq_true] at h
    have := ih h.1
    have hb : isDig b = true := by simpa using h.2
    simp only [isDig, decide_eq_true_eq] at hb
    rw [undec_snoc, List.length_append, List.length_singleton, Nat.pow_succ]
    omega
theorem undec_acc (s : List UInt8) (a : Nat) : a * 10 ^ s.length ≤ s.foldl (fun a b => 10 * a + (b.toNat - 48)) a := by
  induction s generalizing a with
  | nil => simp
  | cons b r ih =>
    simp only [List.foldl_cons, List.length_cons]
    refine Nat.le_trans ?_ (ih _)
    rw [Nat.pow_succ, Nat.mul_comm (10 ^ _) 10, ← Nat.mul_assoc]
    exact Nat.mul_le_mul_right _ (by omega)
theorem undec_ge (x : UInt8) (r : List UInt8) (h : 49 ≤ x.toNat) : 10 ^ r.length ≤ undec (x :: r) := by
  unfold undec
  simp only [List.foldl_cons]
  refine Nat.le_trans ?_ (undec_acc r _)
  have := Nat.mul_le_mul_right (10 ^ r.length) (show 1 ≤ 10 * 0 + (x.toNat - 48) by omega)
  omega
theorem okDec_big (s : List UInt8) (h : okDec s = true) (hl : 2 ≤ s.length) : 10 ^ (s.length - 1) ≤ undec s := by
  unfold okDec at h
  cases s with
  | nil => simp at hl
  | cons x r =>
    simp only [List.all_cons, Bool.and_eq_true, List.headD_cons, isDig, decide_eq_true_eq, Bool.or_eq_true, bne_iff_ne, beq_iff_eq, List.length_cons] at h hl ⊢
    rw [Nat.add_sub_cancel]
    apply undec_ge
    rcases h.2 with h2 | h2
    · have : x.toNat ≠ 48 := fun e => h2 (UInt8.toNat.inj (by simpa using e))
      omega
    · omega
theorem dec_undec (s : List UInt8) (h : okDec s = true) : dec (undec s) = s := by
  revert h
  refine snoc_ind (P := fun s => okDec s = true → dec (undec s) = s) ?_ ?_ s
  · intro h; simp [okDec] at h
  · intro s b ih h
    have hall : (s ++ [b]).all isDig = true := by unfold okDec at h; simp only [Bool.and_eq_true] at h; exact h.1.2
    have hb : isDig b = true := by rw [List.all_append, Bool.and_eq_true] at hall; simpa using hall.2
    have hs : s.all isDig = true := by rw [List.all_append, Bool.and_eq_true] at hall; exact hall.1
    simp only [isDig, decide_eq_true_eq] at hb
    have eb : UInt8.ofNat (48 + (b.toNat - 48)) = b := by rw [show 48 + (b.toNat - 48) = b.toNat by omega]; simp
    cases s with
    | nil =>
      have : undec ([] ++ [b]) = b.toNat - 48 := by rw [undec_snoc]; simp [undec]
      rw [this, dec_lt (by omega), eb]; rfl
    | cons x r =>
      have hk : okDec (x :: r) = true := by
        unfold okDec at h ⊢
        simp only [Bool.and_eq_true, hs] at h ⊢
        refine ⟨⟨rfl, trivial⟩, ?_⟩
        have h2 := h.2
        simp at h2 ⊢
        exact .inl h2
      have hpos : 1 ≤ undec (x :: r) := by
        have h2 : (x :: r ++ [b]).headD 0 ≠ 48 := by
          unfold okDec at h
          simp only [Bool.and_eq_true, Bool.or_eq_true, bne_iff_ne, beq_iff_eq] at h
          rcases h.2 with h2 | h2
          · exact h2
          · simp at h2
        have h3 : x.toNat ≠ 48 := fun e => h2 (by simp; exact UInt8.toNat.inj (by simpa using e))
        have h4 : isDig x = true := by rw [List.all_cons, Bool.and_eq_true] at hs; exact hs.1
        simp only [isDig, decide_eq_true_eq] at h4
        have h5 := undec_ge x r (by omega)
        have := Nat.pow_pos (n := r.length) (show 0 < 10 by omega)
        omega
      rw [undec_snoc, dec_ge (by omega), show (10 * undec (x :: r) + (b.toNat - 48)) / 10 = undec (x :: r) by omega, show (10 * undec (x :: r) + (b.toNat - 48)) % 10 = b.toNat - 48 by omega, ih hk, eb]
end Go.Ai
