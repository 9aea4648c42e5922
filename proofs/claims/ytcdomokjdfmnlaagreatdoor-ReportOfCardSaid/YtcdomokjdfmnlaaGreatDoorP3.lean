/- YtcdomokjdfmnlaaGreatDoorP3: part of the abstract interpreter library (values, rules, soundness against the model) or of what a function of the seat computes. Conditions: as each theorem says. -/
import Derived.Test.YtcdomokjdfmnlaaGreatDoorP1
import Derived.Test.YtcdomokjdfmnlaaGreatDoorP2
import Derived.Test.YtcdomokjdfmnlaaGreatDoorAiExt
set_option linter.unusedSimpArgs false
set_option linter.unusedVariables false
namespace Go.Ai
open Go.Proofs

def bl (l : List Bool) : AV := .sl (l.map fun b => [.bool b])
def atL (l : List Bool) (i : Nat) : Nat := if l.getD i false then 1 else 0
theorem at_spec (l : List Bool) (i : Nat) : Sp Tryz.prog gl 201 [bl l, .int .i64 i] (.int .i64 (atL l i)) := by
  refine s201 rfl rfl ?_
  by_cases hi : i < l.length
  · cases h : l[i] <;> simp [a201, c201, bl, hi, h, atL]
  · simp [a201, c201, bl, hi, atL]

def plusL : List Bool → List Bool → Bool → List Bool
  | [], [], c => if c then [true] else []
  | a :: r, [], c => (a ^^ c) :: plusL r [] (a && c)
  | [], b :: s, c => (b ^^ c) :: plusL [] s (b && c)
  | a :: r, b :: s, c => (a ^^ b ^^ c) :: plusL r s (a && b || a && c || b && c)
def val : List Bool → Nat
  | [] => 0
  | b :: r => b.toNat + 2 * val r
theorem plusL_val (a b : List Bool) (c : Bool) : val (plusL a b c) = val a + val b + c.toNat := by
  induction a generalizing b c with
  | nil =>
    induction b generalizing c with
    | nil => cases c <;> simp [plusL, val]
    | cons x s ih => cases x <;> cases c <;> simp [plusL, val, ih] <;> omega
  | cons y r ih =>
    cases b with
    | nil => cases y <;> cases c <;> simp [plusL, val, ih] <;> omega
    | cons x s => cases x <;> cases y <;> cases c <;> simp [plusL, val, ih] <;> omega
theorem plusL_len (a b : List Bool) (c : Bool) : (plusL a b c).length ≤ max a.length b.length + 1 := by
  induction a generalizing b c with
  | nil =>
    induction b generalizing c with
    | nil => cases c <;> simp [plusL]
    | cons x s ih => have := ih (x && c); simp [plusL] at this ⊢; omega
  | cons y r ih =>
    cases b with
    | nil => have := ih [] (y && c); simp [plusL] at this ⊢; omega
    | cons x s => have := ih s (y && x || y && c || x && c); simp [plusL] at this ⊢; omega
theorem plusL_step (a b : List Bool) (i : Nat) (c : Bool) (h : i < a.length ∨ i < b.length ∨ c = true) :
    plusL (a.drop i) (b.drop i) c = ((atL a i + atL b i + c.toNat) % 2 == 1) :: plusL (a.drop (i + 1)) (b.drop (i + 1)) ((atL a i + atL b i + c.toNat) / 2 == 1) := by
  by_cases ha : i < a.length
  · by_cases hb : i < b.length
    · rw [List.drop_eq_getElem_cons ha, List.drop_eq_getElem_cons hb]
      cases h1 : a[i] <;> cases h2 : b[i] <;> cases c <;> simp [plusL, atL, ha, hb, h1, h2]
    · rw [List.drop_eq_getElem_cons ha, List.drop_eq_nil_of_le (by omega : b.length ≤ i), List.drop_eq_nil_of_le (by omega : b.length ≤ i + 1)]
      cases h1 : a[i] <;> cases c <;> simp [plusL, atL, ha, hb, h1]
  · by_cases hb : i < b.length
    · rw [List.drop_eq_getElem_cons hb, List.drop_eq_nil_of_le (by omega : a.length ≤ i), List.drop_eq_nil_of_le (by omega : a.length ≤ i + 1)]
      cases h2 : b[i] <;> cases c <;> simp [plusL, atL, ha, hb, h2]
    · rw [List.drop_eq_nil_of_le (by omega : a.length ≤ i), List.drop_eq_nil_of_le (by omega : b.length ≤ i), List.drop_eq_nil_of_le (by omega : a.length ≤ i + 1), List.drop_eq_nil_of_le (by omega : b.length ≤ i + 1)]
      have hc : c = true := by simpa [ha, hb] using h
      subst hc; simp [plusL, atL, ha, hb]
theorem plusL_end (a b : List Bool) (i : Nat) (h1 : a.length ≤ i) (h2 : b.length ≤ i) : plusL (a.drop i) (b.drop i) false = [] := by
  rw [List.drop_eq_nil_of_le h1, List.drop_eq_nil_of_le h2]; simp [plusL]
theorem atL_le (l : List Bool) (i : Nat) : atL l i ≤ 1 := by unfold atL; split <;> omega

theorem atL_hi (l : List Bool) (i : Nat) (h : l.length ≤ i) : atL l i = 0 := by simp [atL, h]
theorem half_eq : ∀ x : Nat, x ≤ 3 → ((x / 2 == 1).toNat : Nat) = x / 2
  | 0, _ => rfl
  | 1, _ => rfl
  | 2, _ => rfl
  | 3, _ => rfl
  | x + 4, h => by omega

theorem plus_spec (a b : List Bool) (ha : a.length ≤ 1000000) (hb : b.length ≤ 1000000) : Sp Tryz.prog gl 178 [bl a, bl b] (bl (plusL a b false)) := by
  refine s178 rfl rfl ?_
  simp [c178]
  refine wp_lp (α := Nat × List Bool × Bool) (fun x => ⟨[(0, bl a), (1, bl b), (5, bl x.2.1), (6, .int .i64 x.2.2.toNat), (7, .int .i64 x.1)], [], [(.s 5, 1)]⟩)
    (fun x => x.1 + x.2.2.toNat ≤ max a.length b.length + 1 ∧ x.2.1.length = x.1 ∧ x.2.1 ++ plusL (a.drop x.1) (b.drop x.1) x.2.2 = plusL a b false) (fun x => a.length + b.length + 2 - x.1) ?_ (0, [], false) ?_ ?_
  · rintro ⟨i, out, c⟩ ⟨h1, h0, h2⟩
    simp only at h1 h2 h0
    have a1 := atL_le a i
    have a2 := atL_le b i
    have b1 := atL_hi a i
    have b2 := atL_hi b i
    have hc : c.toNat ≤ 1 := by cases c <;> simp
    have hd : c = true ↔ c.toNat = 1 := by cases c <;> simp
    generalize hx : atL a i = x at *
    generalize hy : atL b i = y at *
    have t1 : IntKind.i64.wrap (x + y) = (x + y) := by rw [wrap_i64] <;> omega
    have t2 : IntKind.i64.wrap (x + y + (c.toNat : Int)) = x + y + c.toNat := by rw [wrap_i64] <;> omega
    have t3 : IntKind.i64.wrap ((x + y + c.toNat : Int).tdiv 2) = (x + y + c.toNat) / 2 := by rw [Int.tdiv_eq_ediv_of_nonneg (by omega), wrap_i64] <;> omega
    have t4 : IntKind.i64.wrap (i + 1) = (i + 1) := by rw [wrap_i64] <;> omega
    have t5 : (x + y + c.toNat : Int).tmod 2 = (x + y + c.toNat) % 2 := by rw [Int.tmod_eq_emod_of_nonneg]; omega
    have t6 : ((x + y + c.toNat : Int) % 2 == 1) = ((x + y + c.toNat) % 2 == 1) := by rw [Bool.eq_iff_iff]; simp; omega
    have t7 : (((x + y + c.toNat) / 2 == 1).toNat : Int) = (x + y + c.toNat) / 2 := by rw [half_eq _ (by omega)]; simp
    have hlim : out.length + 1 ≤ lim := by unfold lim; omega
    by_cases q : i < a.length ∨ i < b.length ∨ c = true
    · have e := plusL_step a b i c q
      rw [hx, hy] at e
      have t8 := half_eq (x + y + c.toNat) (by omega)
      by_cases g1 : i < a.length
      · simp [bl, g1]
        refine onC_mk _ (hx ▸ at_spec a i) ?_
        simp
        refine onC_mk _ (hy ▸ at_spec b i) ?_
        simp
        simp only [t1, t2, t3, t4, t5]
        refine ⟨hlim, by rintro r (⟨-, h⟩ | ⟨-, h⟩) <;> simp [← h], lpQ_mk (i + 1, out ++ [(x + y + c.toNat) % 2 == 1], (x + y + c.toNat) / 2 == 1) ?_ ?_ ?_⟩
        · simp only [List.length_append, List.length_singleton, List.append_assoc, List.singleton_append]
          exact ⟨by omega, by omega, by rw [← h2, e]⟩
        · simp only; omega
        · apply weak_mk <;> simp [bl, t1, t2, t3, t4, t5, t6, t7]
      · by_cases g2 : i < b.length
        · simp [bl, g1, g2]
          refine onC_mk _ (hx ▸ at_spec a i) ?_
          simp
          refine onC_mk _ (hy ▸ at_spec b i) ?_
          simp
          simp only [t1, t2, t3, t4, t5]
          refine ⟨hlim, by rintro r (⟨-, h⟩ | ⟨-, h⟩) <;> simp [← h], lpQ_mk (i + 1, out ++ [(x + y + c.toNat) % 2 == 1], (x + y + c.toNat) / 2 == 1) ?_ ?_ ?_⟩
          · simp only [List.length_append, List.length_singleton, List.append_assoc, List.singleton_append]
            exact ⟨by omega, by omega, by rw [← h2, e]⟩
          · simp only; omega
          · apply weak_mk <;> simp [bl, t1, t2, t3, t4, t5, t6, t7]
        · obtain rfl : c = true := by simpa [g1, g2] using q
          simp [bl, g1, g2]
          refine onC_mk _ (hx ▸ at_spec a i) ?_
          simp
          refine onC_mk _ (hy ▸ at_spec b i) ?_
          simp at t1 t2 t3 t4 t5 t6 t7
          simp
          simp only [t1, t2, t3, t4, t5]
          refine ⟨hlim, by rintro r (⟨-, h⟩ | ⟨-, h⟩) <;> simp [← h], lpQ_mk (i + 1, out ++ [(x + y + 1) % 2 == 1], (x + y + 1) / 2 == 1) ?_ ?_ ?_⟩
          · simp only [List.length_append, List.length_singleton, List.append_assoc, List.singleton_append]
            simp at t8 e h1
            exact ⟨by omega, by omega, by rw [← h2, e]⟩
          · simp at h1 ⊢; omega
          · apply weak_mk <;> simp [bl, t1, t2, t3, t4, t5, t6, t7]
    · have hf : c = false := by cases c <;> simp_all
      subst hf
      have g1 : ¬ i < a.length := fun h => q (.inl h)
      have g2 : ¬ i < b.length := fun h => q (.inr (.inl h))
      simp [bl, g1, g2]
      rw [plusL_end a b i (by omega) (by omega)] at h2
      simpa [bl] using congrArg bl h2
  · simp
  · apply weak_mk <;> simp [bl]

/-! ### Bits -/
def bitsOf (n k : Nat) : List Bool := (List.range k).map fun i => n / 2 ^ i % 2 == 1
theorem val_append (a b : List Bool) : val (a ++ b) = val a + 2 ^ a.length * val b := by
  induction a with
  | nil => simp [val]
  | cons x r ih => simp [val, ih, Nat.pow_succ, Nat.mul_add]; rw [show 2 ^ r.length * 2 = 2 * 2 ^ r.length by omega, Nat.mul_assoc]; omega
theorem bitsOf_succ (n k : Nat) : bitsOf n (k + 1) = bitsOf n k ++ [n / 2 ^ k % 2 == 1] := by simp [bitsOf, List.range_succ]
theorem bitsOf_len (n k : Nat) : (bitsOf n k).length = k := by simp [bitsOf]
theorem bitsOf_val (n k : Nat) : val (bitsOf n k) = n % 2 ^ k := by
  induction k with
  | zero => simp [bitsOf, val, Nat.mod_one]
  | succ k ih =>
    rw [bitsOf_succ, val_append, ih, bitsOf_len, Nat.pow_succ, Nat.mod_mul]
    congr 1
    rcases Nat.mod_two_eq_zero_or_one (n / 2 ^ k) with h | h <;> simp [val, h]
theorem bitsOf_val128 (n : Nat) (h : n < 340282366920938463463374607431768211456) : val (bitsOf n 128) = n := by
  rw [bitsOf_val]; exact Nat.mod_eq_of_lt (by simpa using h)
theorem bit_hi (n i : Nat) (h : 64 ≤ i) : n / 2 ^ i = n / 18446744073709551616 / 2 ^ (i % 64 + (i - i % 64 - 64)) := by
  rw [Nat.div_div_eq_div_mul, show (18446744073709551616 : Nat) = 2 ^ 64 from rfl, ← Nat.pow_add]
  congr 2; omega
theorem bit_lo (n i : Nat) (h : i < 64) : n / 2 ^ i % 2 = n % 18446744073709551616 / 2 ^ i % 2 := by
  have e : (18446744073709551616 : Nat) = 2 ^ i * 2 ^ (64 - i) := by
    rw [← Nat.pow_add, show i + (64 - i) = 64 by omega]
  rw [e, Nat.mod_mul_right_div_self]
  have e2 : 2 ^ (64 - i) = 2 * 2 ^ (63 - i) := by rw [← Nat.pow_succ', Nat.succ_eq_add_one, show 63 - i + 1 = 64 - i by omega]
  rw [e2, Nat.mod_mul_right_mod]
theorem shr_u64 (x i : Nat) (h : i < 64) : (x : Int).fdiv (2 ^ min i IntKind.u64.bits) = ((x / 2 ^ i : Nat) : Int) := by
  rw [show min i IntKind.u64.bits = i by show min i 64 = i; omega, Int.fdiv_eq_ediv_of_nonneg _ (Int.pow_nonneg (by decide))]
  simp
set_option maxRecDepth 10000 in
theorem bits_spec (n : Nat) (hn : n < 340282366920938463463374607431768211456) : Sp Tryz.prog gl 214 [wide n] (bl (bitsOf n 128)) := by
  refine s214 rfl rfl ?_
  simp [c214, wide]
  refine wp_lp (α := Nat) (fun i => ⟨[(1, .ptr (.n 1) 0), (3, bl (bitsOf n i)), (4, i6 i)], [(.n 1, [u (n / 18446744073709551616), u (n % 18446744073709551616)])], [(.s 3, 1)]⟩)
    (fun i => i ≤ 128) (fun i => 128 - i) ?_ 0 (by omega) ?_
  · intro i hi
    have t1 : IntKind.i64.wrap ((i : Int) + 1) = i + 1 := by rw [wrap_i64] <;> omega
    have t2 : IntKind.u64.wrap ((i : Int).tmod 64) = (i % 64 : Nat) := by rw [Int.tmod_eq_emod_of_nonneg (by omega), wrap_u64] <;> omega
    have t3 : 0 ≤ IntKind.u64.wrap ((i : Int).tmod 64) := by rw [t2]; omega
    have bit : ∀ m j : Nat, m < 18446744073709551616 → m / 2 ^ (i % 64) % 2 = n / 2 ^ i % 2 → (((m : Int).fdiv (2 ^ min (IntKind.u64.wrap ((i : Int).tmod 64)).toNat IntKind.u64.bits)).tmod 2 == 1) = (n / 2 ^ i % 2 == 1) := by
      intro m j hm e
      rw [t2, Int.toNat_natCast, shr_u64 _ _ (by omega), Int.tmod_eq_emod_of_nonneg (Int.natCast_nonneg _), Bool.eq_iff_iff]
      simp only [beq_iff_eq]
      generalize m / 2 ^ (i % 64) = q at e ⊢
      generalize n / 2 ^ i = r at e ⊢
      omega
    simp [bl]
    refine onB_dec (fun h => ?_) (fun h => ?_)
    · have hl : (bitsOf n i).length + 1 ≤ lim := by rw [bitsOf_len]; unfold lim; omega
      simp
      refine onB_dec (fun h6 => ?_) (fun h6 => ?_)
      · have b1 := bit (n / 18446744073709551616) 0 (by omega) (by rw [bit_hi n i (by omega), show i % 64 + (i - i % 64 - 64) = i % 64 by omega])
        simp [t3]
        refine ⟨hl, by rintro r (⟨-, h⟩ | ⟨-, h⟩) <;> simp [← h], lpQ_mk (i + 1) (by omega) (by omega) ?_⟩
        simp at b1
        apply weak_mk <;> simp [bl, bitsOf_succ, t1, b1]
      · have b1 := bit (n % 18446744073709551616) 0 (by omega) (by rw [bit_lo n i (by omega), Nat.mod_eq_of_lt (show i < 64 by omega)])
        simp [t3]
        refine ⟨hl, by rintro r (⟨-, h⟩ | ⟨-, h⟩) <;> simp [← h], lpQ_mk (i + 1) (by omega) (by omega) ?_⟩
        simp at b1
        apply weak_mk <;> simp [bl, bitsOf_succ, t1, b1]
    · obtain rfl : i = 128 := by omega
      simp
  · apply weak_mk <;> simp [bl, bitsOf]

/-! ### Times -/
def timesL : List Bool → List Bool → List Bool → List Bool
  | out, _, [] => out
  | out, sh, b :: r => timesL (if b then plusL out sh false else out) (false :: sh) r
theorem timesL_val (out sh b : List Bool) : val (timesL out sh b) = val out + val sh * val b := by
  induction b generalizing out sh with
  | nil => simp [timesL, val]
  | cons x r ih =>
    simp only [timesL, ih, val]
    cases x <;> simp [plusL_val, Nat.mul_add, Nat.add_assoc]
    · rw [Nat.mul_assoc, Nat.mul_left_comm]
    · rw [Nat.mul_assoc, Nat.mul_left_comm]
theorem timesL_len (out sh b : List Bool) (h : out.length ≤ sh.length) : (timesL out sh b).length ≤ sh.length + b.length := by
  induction b generalizing out sh with
  | nil => simpa [timesL] using h
  | cons x r ih =>
    simp only [timesL, List.length_cons]
    have := ih (if x then plusL out sh false else out) (false :: sh) (by
      have := plusL_len out sh false
      cases x <;> simp <;> omega)
    simp only [List.length_cons] at this
    omega
theorem drop_cons {α : Type} {l : List α} {i : Nat} (h : i < l.length) : l.drop i = l[i] :: l.drop (i + 1) := List.drop_eq_getElem_cons h
theorem times_spec_l (a b : List Bool) (ha : a.length ≤ 400000) (hb : b.length ≤ 400000) : Sp Tryz.prog gl 175 [bl a, bl b] (bl (timesL [] a b)) := by
  refine s175 rfl rfl ?_
  simp [c175, bl]
  refine ⟨by unfold lim; omega, by rintro r (⟨-, h⟩ | ⟨-, h⟩) <;> simp [← h], ?_⟩
  refine wp_lp (α := Nat × List Bool × List Bool) (fun x => ⟨[(0, bl a), (1, bl b), (5, bl x.2.1), (6, bl x.2.2), (7, i6 x.1)], [], []⟩)
    (fun x => x.1 ≤ b.length ∧ x.2.2.length = a.length + x.1 ∧ x.2.1.length ≤ a.length + x.1 ∧ timesL x.2.1 x.2.2 (b.drop x.1) = timesL [] a b) (fun x => b.length - x.1) ?_ (0, [], a) ?_ ?_
  · rintro ⟨i, out, sh⟩ ⟨h1, h2, h3, h4⟩
    simp only at h1 h2 h3 h4
    have t1 : IntKind.i64.wrap ((i : Int) + 1) = i + 1 := by rw [wrap_i64] <;> omega
    have hl : sh.length + 1 ≤ lim := by unfold lim; omega
    simp [bl]
    refine onB_dec (fun h => ?_) (fun h => ?_)
    · rw [drop_cons h, timesL] at h4
      cases hbi : b[i]
      · rw [hbi] at h4
        simp [h, hbi]
        refine ⟨by omega, by rintro r (⟨-, h⟩ | ⟨-, h⟩) <;> simp [← h], lpQ_mk (i + 1, out, false :: sh) ⟨by simp; omega, by simp; omega, by simp; omega, by simpa using h4⟩ (by simp; omega) ?_⟩
        apply weak_mk <;> simp [bl, t1]
      · rw [hbi] at h4
        simp [h, hbi]
        refine onC_mk _ (plus_spec out sh (by omega) (by omega)) ?_
        simp
        have := plusL_len out sh false
        refine ⟨by omega, by rintro r (⟨-, h⟩ | ⟨-, h⟩) <;> simp [← h], lpQ_mk (i + 1, plusL out sh false, false :: sh) ⟨by simp; omega, by simp; omega, by simp; omega, by simpa using h4⟩ (by simp; omega) ?_⟩
        apply weak_mk <;> simp [bl, t1]
    · rw [List.drop_eq_nil_of_le (by omega), timesL] at h4
      simp [h4]
  · simp
  · apply weak_mk <;> simp [bl]

/-! ### Compare -/
def cmpN (x y : Nat) : Int := if x < y then -1 else if x = y then 0 else 1
theorem val_drop (l : List Bool) (i : Nat) : val (l.drop i) = atL l i + 2 * val (l.drop (i + 1)) := by
  by_cases h : i < l.length
  · rw [drop_cons h]; simp [val, atL, h]; cases l[i] <;> simp
  · rw [List.drop_eq_nil_of_le (by omega), List.drop_eq_nil_of_le (by omega)]; simp [val, atL_hi l i (by omega)]
theorem val_split (l : List Bool) (i : Nat) : ∃ r, r < 2 ^ i ∧ val l = r + 2 ^ i * val (l.drop i) := by
  induction i with
  | zero => exact ⟨0, by simp, by simp⟩
  | succ i ih =>
    obtain ⟨r, h1, h2⟩ := ih
    refine ⟨r + 2 ^ i * atL l i, ?_, ?_⟩
    · have := atL_le l i
      have : 2 ^ i * atL l i ≤ 2 ^ i * 1 := Nat.mul_le_mul (Nat.le_refl _) this
      rw [Nat.pow_succ]; omega
    · rw [h2, val_drop, Nat.mul_add, Nat.pow_succ, Nat.mul_assoc]; omega
theorem cmp_at (a b : List Bool) (i : Nat) (h : val (a.drop (i + 1)) = val (b.drop (i + 1))) (hne : atL a i ≠ atL b i) : cmpN (val a) (val b) = (atL a i : Int) - atL b i := by
  obtain ⟨r, r1, r2⟩ := val_split a i
  obtain ⟨s, s1, s2⟩ := val_split b i
  have e1 := val_drop a i
  have e2 := val_drop b i
  have a1 := atL_le a i
  have b1 := atL_le b i
  rw [h] at e1
  have hx : 2 ^ i * val (a.drop i) = 2 ^ i * atL a i + 2 ^ i * (2 * val (b.drop (i + 1))) := by rw [e1, Nat.mul_add]
  have hy : 2 ^ i * val (b.drop i) = 2 ^ i * atL b i + 2 ^ i * (2 * val (b.drop (i + 1))) := by rw [e2, Nat.mul_add]
  rcases (by omega : atL a i = 0 ∧ atL b i = 1 ∨ atL a i = 1 ∧ atL b i = 0) with ⟨h1, h2⟩ | ⟨h1, h2⟩
  · rw [h1] at hx; rw [h2] at hy
    have : val a < val b := by omega
    simp [cmpN, this, h1, h2]
  · rw [h1] at hx; rw [h2] at hy
    have : val b < val a := by omega
    simp [cmpN, h1, h2, show ¬ val a < val b by omega, show val a ≠ val b by omega]
theorem compare_spec (a b : List Bool) (ha : a.length ≤ 1000000) (hb : b.length ≤ 1000000) : Sp Tryz.prog gl 154 [bl a, bl b] (i6 (cmpN (val a) (val b))) := by
  refine s154 rfl rfl ?_
  by_cases g : a.length < b.length
  all_goals
    simp [c154, bl, g]
    refine wp_lp (α := Nat) (fun k => ⟨[(0, bl a), (1, bl b), (6, i6 ((k : Int) - 1))], [], []⟩)
      (fun k => k ≤ 1000000 ∧ val (a.drop k) = val (b.drop k)) (fun k => k) ?_ (max a.length b.length) ?_ ?_
    · rintro k ⟨h1, h2⟩
      have t1 : IntKind.i64.wrap ((k : Int) - 1 - 1) = k - 1 - 1 := by rw [wrap_i64] <;> omega
      simp [bl]
      refine onB_dec (fun h => ?_) (fun h => ?_)
      · have e1 : (k : Int) - 1 = ((k - 1 : Nat) : Int) := by omega
        have e2 : k - 1 + 1 = k := by omega
        have x1 := atL_le a (k - 1)
        have y1 := atL_le b (k - 1)
        have t2 : IntKind.i64.wrap ((atL a (k - 1) : Int) - atL b (k - 1)) = atL a (k - 1) - atL b (k - 1) := by rw [wrap_i64] <;> omega
        simp
        refine onC_mk _ (e1 ▸ at_spec a (k - 1)) ?_
        simp
        refine onC_mk _ (e1 ▸ at_spec b (k - 1)) ?_
        simp
        by_cases h3 : atL a (k - 1) = atL b (k - 1)
        · simp [h3]
          refine lpQ_mk (k - 1) ⟨by omega, ?_⟩ (by omega) ?_
          · rw [val_drop a, val_drop b, e2, h2, h3]
          · apply weak_mk <;> simp [bl]
            rw [t1, e1]
        · have h4 : ((atL a (k - 1) : Int) != atL b (k - 1)) = true := by rw [bne_iff_ne]; omega
          rw [h4]
          simp
          refine onC_mk _ (e1 ▸ at_spec a (k - 1)) ?_
          simp
          refine onC_mk _ (e1 ▸ at_spec b (k - 1)) ?_
          simp
          rw [t2, cmp_at a b (k - 1) (by rw [e2]; exact h2) h3]
      · obtain rfl : k = 0 := by omega
        simp at h2
        simp [cmpN, h2]
    · exact ⟨by omega, by rw [List.drop_eq_nil_of_le (by omega), List.drop_eq_nil_of_le (by omega)]⟩
    · have t3 : IntKind.i64.wrap ((max a.length b.length : Nat) - 1 : Int) = (max a.length b.length : Nat) - 1 := by rw [wrap_i64] <;> omega
      apply weak_mk <;> simp [bl]
      rw [wrap_i64 (by omega) (by omega)]
      omega
end Go.Ai
set_option linter.unusedSimpArgs false
set_option linter.unusedVariables false
namespace Go.Ai
open Go.Proofs
abbrev u32 (n : Nat) : AV := .int .u32 n
abbrev cnt (g n : Nat) : AV := .agg [u g, u n]

theorem isNaN_spec (x : Nat) : Sp Tryz.prog gl 230 [u x] (.bool false) := by
  refine s230 rfl rfl ?_
  simp [c230]
theorem cmpU_spec (x y : Nat) : Sp Tryz.prog gl 199 [u x, u y] (i6 (cmpN x y)) := by
  refine s199 rfl rfl ?_
  simp [c199]
  refine onC_mk _ (isNaN_spec x) ?_
  simp
  refine onC_mk _ (isNaN_spec y) ?_
  simp
  refine onB_dec (fun h => ?_) (fun h => ?_)
  · simp [cmpN, h]
  · simp
    refine onB_dec (fun h2 => ?_) (fun h2 => ?_)
    · simp [cmpN, h, show x ≠ y by omega]
    · simp [cmpN, h, show x = y by omega]
theorem or2_spec (a b : Int) : Sp Tryz.prog gl 198 [.sl [[i6 a], [i6 b]]] (i6 (if a = 0 then b else a)) := by
  refine s198 rfl rfl ?_
  simp [c198]
  refine wp_lp (α := Nat) (fun k => ⟨[(3, i6 0), (6, .sl [[i6 a], [i6 b]]), (7, i6 2), (8, i6 k)], [], []⟩)
    (fun k => k ≤ 2 ∧ (1 ≤ k → a = 0) ∧ (2 ≤ k → b = 0)) (fun k => 2 - k) ?_ 0 ⟨by omega, by omega, by omega⟩ ?_
  · rintro k ⟨h1, h2, h3⟩
    rcases (by omega : k = 0 ∨ k = 1 ∨ k = 2) with rfl | rfl | rfl
    · simp
      by_cases ha : a = 0
      · simp [ha]
        refine lpQ_mk 1 (by simp [ha]) (by omega) ?_
        apply weak_mk <;> simp
        exact wrap_i64 (by omega) (by omega)
      · have : (a != 0) = true := by simp [ha]
        simp [this, ha]
    · have ha := h2 (by omega)
      simp
      by_cases hb : b = 0
      · simp [hb]
        refine lpQ_mk 2 (by simp [ha, hb]) (by omega) ?_
        apply weak_mk <;> simp
        exact wrap_i64 (by omega) (by omega)
      · have : (b != 0) = true := by simp [hb]
        simp [this, ha]
    · have ha := h2 (by omega)
      have hb := h3 (by omega)
      simp [ha, hb]
  · apply weak_mk <;> simp
theorem cmp_split (a b : Nat) : (if cmpN (a / 18446744073709551616) (b / 18446744073709551616) = 0 then cmpN (a % 18446744073709551616) (b % 18446744073709551616) else cmpN (a / 18446744073709551616) (b / 18446744073709551616)) = cmpN a b := by
  unfold cmpN
  repeat' split
  all_goals omega
theorem xcompare_spec (a b : Nat) : Sp Tryz.prog gl 150 [wide a, wide b] (i6 (cmpN a b)) := by
  refine s150 rfl rfl ?_
  simp [c150, wide]
  refine onC_mk _ (cmpU_spec _ _) ?_
  simp
  refine onC_mk _ (cmpU_spec _ _) ?_
  simp
  refine onC_mk _ (or2_spec _ _) ?_
  simp [cmp_split]

/-! ### Burn -/
theorem right_spec (t : Nat) : Sp Tryz.prog gl 195 [u32 t] (.bool (decide (t ≤ 1000000))) := by
  refine s195 rfl rfl ?_
  simp [c195]
  omega
theorem rest_spec (t : Nat) (ht : t ≤ 1000000) : Sp Tryz.prog gl 146 [u32 t] (u32 (1000000 - t)) := by
  refine s146 rfl rfl ?_
  simp [c146]
  refine onC_mk _ (right_spec t) ?_
  simp [ht]
  rw [wrap_u32] <;> omega
def mayN (t g n : Nat) : Nat := if 1000000 < t then 8 else if n < g then 16 else 0
theorem may_spec (t g n : Nat) : Sp Tryz.prog gl 145 [u32 t, cnt g n] (i6 (mayN t g n)) := by
  refine s145 rfl rfl ?_
  simp [c145]
  refine onC_mk _ (right_spec t) ?_
  by_cases h : t ≤ 1000000
  · simp [h]
    refine onB_dec (fun h2 => ?_) (fun h2 => ?_)
    · simp [mayN, show ¬ 1000000 < t by omega, show n < g by omega]
    · simp [mayN, show ¬ 1000000 < t by omega, show ¬ n < g by omega]
  · simp [h, mayN, show 1000000 < t by omega]
theorem bad_spec (g n : Nat) (h : g ≤ n) (hn : n < 18446744073709551616) : Sp Tryz.prog gl 148 [cnt g n] (wide ((n - g) * 1000000000)) := by
  refine s148 rfl rfl ?_
  simp [c148]
  have e : IntKind.u64.wrap ((n : Int) - g) = (n - g : Nat) := by rw [wrap_u64] <;> omega
  rw [e]
  refine onC_mk _ (times_spec (n - g) 1000000000 (by omega) (by omega)) ?_
  simp [wide]
def holdsN (t f g n : Nat) : Bool × Nat := if 1000000 < f ∨ 1000000 < t then (false, 8) else if n < g then (false, 16) else (decide (f * (1000000 - t) * n < (n - g) * 1000000000), 0)
theorem cmp_pos (a b : Nat) : decide (0 < cmpN a b) = decide (b < a) := by
  unfold cmpN
  repeat' split
  all_goals (simp; try omega)
theorem wide_lt (n : Nat) : ∃ a b, wide n = .agg [u a, u b] := ⟨_, _, rfl⟩
theorem holds_spec (t f g n : Nat) (ht : t < 4294967296) (hf : f < 18446744073709551616) (hg : g < 18446744073709551616) (hn : n < 18446744073709551616) : Sp Tryz.prog gl 87 [u32 t, u f, cnt g n] (.tup [.bool (holdsN t f g n).1, i6 (holdsN t f g n).2]) := by
  refine s87 rfl rfl ?_
  simp [c87]
  refine onB_dec (fun h => ?_) (fun h => ?_)
  · simp [holdsN, show 1000000 < f by omega]
  · simp
    refine onC_mk _ (may_spec t g n) ?_
    by_cases h1 : 1000000 < t
    · simp [mayN, holdsN, h1]
    · by_cases h2 : n < g
      · simp [mayN, holdsN, h1, h2, show ¬ 1000000 < f by omega]
      · simp [mayN, holdsN, h1, h2, show ¬ 1000000 < f by omega]
        refine onC_mk _ (rest_spec t (by omega)) ?_
        simp
        have b1 : f * (1000000 - t) ≤ 1000000 * 1000000 := Nat.mul_le_mul (by omega) (by omega)
        have e1 : IntKind.u64.wrap ((1000000 - t : Nat) : Int) = (1000000 - t : Nat) := by rw [wrap_u64] <;> omega
        have e2 : IntKind.u64.wrap ((f : Int) * (1000000 - t : Nat)) = (f * (1000000 - t) : Nat) := by rw [← Int.natCast_mul, wrap_u64] <;> omega
        rw [e1, e2]
        refine onC_mk _ (times_spec (f * (1000000 - t)) n (by omega) hn) ?_
        simp [wide]
        refine onC_mk _ (bad_spec g n (by omega) hn) ?_
        simp [wide]
        refine onC_mk _ (xcompare_spec ((n - g) * 1000000000) (f * (1000000 - t) * n)) ?_
        simp [cmp_pos]
theorem rbits_spec (x : Nat) (hx : x < 18446744073709551616) : Sp Tryz.prog gl 202 [u x] (bl (bitsOf x 128)) := by
  refine s202 rfl rfl ?_
  simp [c202]
  refine onC_mk _ ((by
    have := bits_spec x (by omega)
    rwa [wide, show x / 18446744073709551616 = 0 by omega, show x % 18446744073709551616 = x by omega] at this) : Sp Tryz.prog gl 214 [.agg [u 0, u x]] (bl (bitsOf x 128))) ?_
  simp [bl]
def badL (g n : Nat) : List Bool := timesL [] (bitsOf (n - g) 128) (bitsOf 1000000000 128)
theorem badL_len (g n : Nat) : (badL g n).length ≤ 256 := by
  have := timesL_len [] (bitsOf (n - g) 128) (bitsOf 1000000000 128) (by simp)
  simp only [bitsOf_len] at this; exact this
theorem badL_val (g n : Nat) (hn : n < 18446744073709551616) : val (badL g n) = (n - g) * 1000000000 := by
  simp only [badL, timesL_val, val, Nat.zero_add]
  rw [bitsOf_val128 _ (by omega), bitsOf_val128 _ (by omega)]
theorem rbad_spec (g n : Nat) (h : g ≤ n) (hn : n < 18446744073709551616) : Sp Tryz.prog gl 155 [cnt g n] (bl (badL g n)) := by
  refine s155 rfl rfl ?_
  simp [c155]
  have e : IntKind.u64.wrap ((n : Int) - g) = (n - g : Nat) := by rw [wrap_u64] <;> omega
  rw [e]
  refine onC_mk _ (rbits_spec (n - g) (by omega)) ?_
  simp [bl]
  refine onC_mk _ (rbits_spec 1000000000 (by omega)) ?_
  simp [bl]
  refine onC_mk _ (times_spec_l (bitsOf (n - g) 128) (bitsOf 1000000000 128) (by rw [bitsOf_len]; omega) (by rw [bitsOf_len]; omega)) ?_
  simp [bl, badL]
def allowL (t k n : Nat) : List Bool := timesL [] (timesL [] (bitsOf k 128) (bitsOf (1000000 - t) 128)) (bitsOf n 128)
theorem allowL_len0 (t k : Nat) : (timesL [] (bitsOf k 128) (bitsOf (1000000 - t) 128)).length ≤ 256 := by
  have := timesL_len [] (bitsOf k 128) (bitsOf (1000000 - t) 128) (by simp)
  simp only [bitsOf_len] at this; exact this
theorem allowL_len (t k n : Nat) : (allowL t k n).length ≤ 384 := by
  have := timesL_len [] (timesL [] (bitsOf k 128) (bitsOf (1000000 - t) 128)) (bitsOf n 128) (by simp)
  have := allowL_len0 t k
  simp only [bitsOf_len] at *; unfold allowL; omega
theorem allowL_val (t k n : Nat) (hk : k < 18446744073709551616) (hn : n < 18446744073709551616) : val (allowL t k n) = k * (1000000 - t) * n := by
  simp only [allowL, timesL_val, val, Nat.zero_add]
  rw [bitsOf_val128 _ (by omega), bitsOf_val128 _ (by omega), bitsOf_val128 _ (by omega)]
theorem allow_spec (t k g n : Nat) (ht : t ≤ 1000000) (hk : k < 18446744073709551616) (hn : n < 18446744073709551616) : Sp Tryz.prog gl 156 [u32 t, u k, cnt g n] (bl (allowL t k n)) := by
  refine s156 rfl rfl ?_
  simp [c156]
  refine onC_mk _ (rbits_spec k hk) ?_
  simp [bl]
  have e : IntKind.u32.wrap ((1000000 : Int) - t) = (1000000 - t : Nat) := by rw [wrap_u32] <;> omega
  have e1 : IntKind.u64.wrap ((1000000 - t : Nat) : Int) = (1000000 - t : Nat) := by rw [wrap_u64] <;> omega
  rw [e, e1]
  refine onC_mk _ (rbits_spec (1000000 - t) (by omega)) ?_
  simp [bl]
  refine onC_mk _ (times_spec_l (bitsOf k 128) (bitsOf (1000000 - t) 128) (by rw [bitsOf_len]; omega) (by rw [bitsOf_len]; omega)) ?_
  simp [bl]
  refine onC_mk _ (rbits_spec n hn) ?_
  simp [bl]
  refine onC_mk _ (times_spec_l (timesL [] (bitsOf k 128) (bitsOf (1000000 - t) 128)) (bitsOf n 128) (by have := allowL_len0 t k; omega) (by rw [bitsOf_len]; omega)) ?_
  simp [bl, allowL]
theorem rholds_spec (t f g n : Nat) (ht : t < 4294967296) (hf : f < 18446744073709551616) (hg : g < 18446744073709551616) (hn : n < 18446744073709551616) : Sp Tryz.prog gl 90 [u32 t, u f, cnt g n] (.tup [.bool (holdsN t f g n).1, i6 (holdsN t f g n).2]) := by
  refine s90 rfl rfl ?_
  by_cases h1 : (1000000 : Int) < t
  · simp [c90, holdsN, h1, show 1000000 < t by omega]
  · by_cases h2 : (1000000 : Int) < f
    · simp [c90, holdsN, h1, h2, show 1000000 < f by omega]
    · by_cases h3 : n < g
      · simp [c90, holdsN, h1, h2, h3, show ¬ 1000000 < f by omega, show ¬ 1000000 < t by omega]
      · simp [c90, holdsN, h1, h2, h3, show ¬ 1000000 < f by omega, show ¬ 1000000 < t by omega]
        refine onC_mk _ (rbad_spec g n (by omega) hn) ?_
        simp [bl]
        refine onC_mk _ (allow_spec t f g n (by omega) (by omega) hn) ?_
        simp [bl]
        refine onC_mk _ (compare_spec (badL g n) (allowL t f n) (by have := badL_len g n; omega) (by have := allowL_len t f n; omega)) ?_
        simp [cmp_pos, badL_val g n hn, allowL_val t f n hf hn]

/-! ### Division: where the high half is nothing -/
theorem div0_spec (y n : Nat) (hn : 0 < n) (hy : y < 18446744073709551616) : Sp Tryz.prog gl 196 [u 0, u y, u n] (.tup [u (y / n), u (y % n)]) := by
  refine s196 rfl rfl ?_
  have h1 : ((n : Int) == 0) = false := by simp; omega
  have h2 : ¬ (n : Int) ≤ 0 := by omega
  have h3 : ¬ (n : Int) = 0 := by omega
  have h4 : ¬ n = 0 := by omega
  simp [c196, h1]
  simp [h2, h3, h4]
  refine ⟨?_, Int.tmod_eq_emod_of_nonneg (Int.natCast_nonneg _)⟩
  have := Nat.div_le_self y n
  rw [← Int.natCast_ediv]
  generalize y / n = q at *
  exact wrap_u64 (by omega) (by omega)
theorem floor0_spec (y n : Nat) (hn : 0 < n) (hy : y < 18446744073709551616) : Sp Tryz.prog gl 147 [wide y, u n] (.tup [wide (y / n), u (y % n), i6 0]) := by
  refine s147 rfl rfl ?_
  have h1 : ((n : Int) == 0) = false := by simp; omega
  have h2 : y / 18446744073709551616 = 0 := by omega
  have h3 : y % 18446744073709551616 = y := by omega
  have h4 : y / n < 18446744073709551616 := by have := Nat.div_le_self y n; omega
  have h5 : y / n / 18446744073709551616 = 0 := Nat.div_eq_of_lt h4
  have h6 : y / n % 18446744073709551616 = y / n := Nat.mod_eq_of_lt h4
  simp only [wide, h2, h3, h5, h6]
  simp [c147, h1]
  refine onC_mk _ (div0_spec 0 n hn (by omega)) ?_
  simp
  refine onC_mk _ (div0_spec y n hn hy) ?_
  simp
theorem rate0_spec (t g n : Nat) (ht : t < 1000000) (hg : g ≤ n) (hn : n < 18446744073709551616) (h0 : 0 < n) (hb : (n - g) * 1000000000 < 18446744073709551616) :
    Sp Tryz.prog gl 86 [u32 t, cnt g n] (.tup [u ((n - g) * 1000000000 / n / (1000000 - t)), i6 0]) := by
  refine s86 rfl rfl ?_
  simp [c86]
  refine onC_mk _ (may_spec t g n) ?_
  simp [mayN, show ¬ 1000000 < t by omega, show ¬ n < g by omega]
  refine onC_mk _ (rest_spec t (by omega)) ?_
  have e1 : (((1000000 - t : Nat) : Int) == 0) = false := by simp; omega
  have e2 : ((n : Int) == 0) = false := by simp; omega
  simp [e1, e2]
  refine onC_mk _ (bad_spec g n hg hn) ?_
  simp [wide]
  refine onC_mk _ (floor0_spec ((n - g) * 1000000000) n h0 hb) ?_
  simp [wide]
  refine onC_mk _ (rest_spec t (by omega)) ?_
  have e3 : IntKind.u64.wrap ((1000000 - t : Nat) : Int) = (1000000 - t : Nat) := by rw [wrap_u64] <;> omega
  have e4 : (n - g) * 1000000000 / n < 18446744073709551616 := by have := Nat.div_le_self ((n - g) * 1000000000) n; omega
  have e5 : (n - g) * 1000000000 / n / (1000000 - t) < 18446744073709551616 := by have := Nat.div_le_self ((n - g) * 1000000000 / n) (1000000 - t); omega
  simp
  rw [e3]
  refine onC_mk _ (floor0_spec ((n - g) * 1000000000 / n) (1000000 - t) (by omega) e4) ?_
  simp [wide]
  have := congrArg (fun x : Nat => (x : Int)) (Nat.mod_eq_of_lt e5)
  simp only [Int.natCast_ediv, Int.natCast_emod, Int.natCast_mul] at this
  exact this
theorem h986 : holdsN 999000 14400 986 1000 = (false, 0) := by kernel_rfl
theorem h985 : holdsN 999000 14400 985 1000 = (true, 0) := by kernel_rfl
theorem r986 : (1000 - 986) * 1000000000 / 1000 / (1000000 - 999000) = 14000 := by kernel_rfl
set_option maxRecDepth 20000 in
theorem awake21_spec : Sp Tryz.prog gl 37 [] (.bool true) := by
  refine s37 rfl rfl ?_
  simp [c37]
  refine onC_mk _ (rate0_spec 999000 986 1000 (by omega) (by omega) (by omega) (by omega) (by omega)) ?_
  rw [r986]
  simp
  refine onC_mk _ (holds_spec 999000 14400 986 1000 (by omega) (by omega) (by omega) (by omega)) ?_
  rw [h986]
  simp
  refine onC_mk _ (holds_spec 999000 14400 985 1000 (by omega) (by omega) (by omega) (by omega)) ?_
  rw [h985]
  simp
end Go.Ai
set_option linter.unusedSimpArgs false
set_option linter.unusedVariables false
namespace Go.Ai
open Go.Proofs
def rateN (t g n : Nat) : Nat × Nat := if 1000000 < t then (0, 8) else if n < g then (0, 16) else if t = 1000000 then (0, 4) else if n = 0 then (0, 0) else ((n - g) * 1000000000 / n / (1000000 - t), 0)
theorem bad_le (g n : Nat) (h0 : 0 < n) : (n - g) * 1000000000 / n ≤ 1000000000 := by
  apply Nat.div_le_of_le_mul
  exact Nat.mul_le_mul_right _ (Nat.sub_le _ _)
theorem badW (g n : Nat) (hn : n < 18446744073709551616) : (n - g) * 1000000000 < 340282366920938463463374607431768211456 := by
  have : (n - g) * 1000000000 ≤ 18446744073709551616 * 1000000000 := Nat.mul_le_mul_right _ (by omega)
  omega
theorem rate_spec (t g n : Nat) (ht : t < 4294967296) (hg : g < 18446744073709551616) (hn : n < 18446744073709551616) :
    Sp Tryz.prog gl 86 [u32 t, cnt g n] (.tup [u (rateN t g n).1, i6 (rateN t g n).2]) := by
  refine s86 rfl rfl ?_
  by_cases h1 : 1000000 < t
  · simp -implicitDefEqProofs [c86]
    refine onC_mk _ (may_spec t g n) ?_
    simp -implicitDefEqProofs [mayN, rateN, h1]
  by_cases h2 : n < g
  · simp -implicitDefEqProofs [c86]
    refine onC_mk _ (may_spec t g n) ?_
    simp -implicitDefEqProofs [mayN, rateN, h1, h2]
  have M : mayN t g n = 0 := by simp [mayN, h1, h2]
  have R := rest_spec t (by omega)
  by_cases h3 : t = 1000000
  · simp -implicitDefEqProofs [c86]
    refine onC_mk _ (may_spec t g n) ?_
    rw [M]
    simp -implicitDefEqProofs
    refine onC_mk _ R ?_
    simp -implicitDefEqProofs [rateN, h1, h2, h3]
  have b3 : (((1000000 - t : Nat) : Int) == 0) = false := by simp; omega
  by_cases h4 : n = 0
  · simp -implicitDefEqProofs [c86]
    refine onC_mk _ (may_spec t g n) ?_
    rw [M]
    simp -implicitDefEqProofs
    refine onC_mk _ R ?_
    subst h4
    obtain rfl : g = 0 := by omega
    simp -implicitDefEqProofs [rateN, h1, h3, b3]
  have b4 : ((n : Int) == 0) = false := by simp; omega
  have hr : rateN t g n = ((n - g) * 1000000000 / n / (1000000 - t), 0) := by simp [rateN, h1, h2, h3, h4]
  have B := bad_spec g n (by omega) hn
  have F1 := floor_spec ((n - g) * 1000000000) n (by omega) (badW g n hn) hn
  have q1 := bad_le g n (by omega)
  rw [hr]
  generalize (n - g) * 1000000000 = X at *
  generalize X / n = Y at *
  generalize X % n = Z at *
  have F2 := floor_spec Y (1000000 - t) (by omega) (by omega) (by omega)
  have q2 : Y / (1000000 - t) ≤ Y := Nat.div_le_self _ _
  generalize Y / (1000000 - t) = V at *
  generalize Y % (1000000 - t) = V2 at *
  have wV : wide V = .agg [u 0, u V] := by unfold wide; rw [Nat.div_eq_of_lt (by omega), Nat.mod_eq_of_lt (by omega)]
  rw [wV] at F2
  have w1 : IntKind.u64.wrap ((1000000 - t : Nat) : Int) = (1000000 - t : Nat) := by rw [wrap_u64] <;> omega
  simp only [wide] at B F1 F2
  simp -implicitDefEqProofs [c86]
  refine onC_mk _ (may_spec t g n) ?_
  rw [M]
  simp -implicitDefEqProofs
  refine onC_mk _ R ?_
  simp -implicitDefEqProofs [b3, b4]
  refine onC_mk _ B ?_
  simp -implicitDefEqProofs
  refine onC_mk _ F1 ?_
  simp -implicitDefEqProofs
  refine onC_mk _ R ?_
  simp -implicitDefEqProofs
  rw [w1]
  refine onC_mk _ F2 ?_
  simp -implicitDefEqProofs
theorem cmpN_le (a b : Nat) : cmpN a b ≤ 0 ↔ a ≤ b := by
  unfold cmpN
  repeat' split
  all_goals (simp; try omega)
theorem half_lo {lo hi : Nat} (h : 1 < hi - lo) : lo < lo + (hi - lo) / 2 ∧ lo + (hi - lo) / 2 < hi := by omega
set_option maxRecDepth 10000 in
theorem rrate_spec (t g n : Nat) (ht : t < 4294967296) (hg : g < 18446744073709551616) (hn : n < 18446744073709551616) :
    Sp Tryz.prog gl 107 [u32 t, cnt g n] (.tup [u (rateN t g n).1, i6 (rateN t g n).2]) := by
  refine s107 rfl rfl ?_
  by_cases h1 : 1000000 < t
  · simp -implicitDefEqProofs [c107, rateN, show (1000000 : Int) < t by omega, h1]
  by_cases h2 : n < g
  · simp -implicitDefEqProofs [c107, rateN, show ¬ (1000000 : Int) < t by omega, h1, h2]
  by_cases h3 : t = 1000000
  · simp -implicitDefEqProofs [c107, rateN, h1, h2, h3]
  have b3 : ((t : Int) == 1000000) = false := by simp; omega
  by_cases h4 : n = 0
  · subst h4
    obtain rfl : g = 0 := by omega
    simp -implicitDefEqProofs [c107, rateN, h1, h3, show ¬ (1000000 : Int) < t by omega, b3]
  have b4 : ((n : Int) == 0) = false := by simp; omega
  have hr : rateN t g n = ((n - g) * 1000000000 / n / (1000000 - t), 0) := by simp [rateN, h1, h2, h3, h4]
  rw [hr]
  have q1 := bad_le g n (by omega)
  have iff : ∀ m, m * (1000000 - t) * n ≤ (n - g) * 1000000000 ↔ m ≤ (n - g) * 1000000000 / n / (1000000 - t) := by
    intro m
    rw [Nat.le_div_iff_mul_le (by omega), Nat.le_div_iff_mul_le (by omega)]
  have q2 : (n - g) * 1000000000 / n / (1000000 - t) ≤ (n - g) * 1000000000 / n := Nat.div_le_self _ _
  have B := rbad_spec g n (by omega) hn
  have BL := badL_len g n
  have BV := badL_val g n hn
  generalize (n - g) * 1000000000 / n / (1000000 - t) = R at *
  simp -implicitDefEqProofs [c107, show ¬ (1000000 : Int) < t by omega, show ¬ n < g by omega, b3, b4]
  refine wp_lpk (α := Nat × Nat) (fun x => ⟨[(0, u32 t), (3, .ptr (.n 3) 0), (6, u x.1), (7, u x.2)], [(.n 3, [u g, u n])], []⟩)
    (fun x => x.1 ≤ R ∧ R < x.2 ∧ x.2 ≤ 1000000001) (fun x => x.2 - x.1) ?_ (0, 1000000001) ?_ ?_
  · rintro K ⟨lo, hi⟩ hk ⟨i1, i2, i3⟩
    replace hk := fun a b σ' => hk (a, b) σ'
    simp only at hk
    simp only at i1 i2 i3
    have w1 : IntKind.u64.wrap ((hi : Int) - lo) = (hi - lo : Nat) := by rw [wrap_u64] <;> omega
    have w2 : IntKind.u64.wrap (((hi - lo : Nat) : Int).tdiv 2) = ((hi - lo) / 2 : Nat) := by rw [Int.tdiv_eq_ediv_of_nonneg (by omega), wrap_u64] <;> omega
    have w3 : IntKind.u64.wrap ((lo : Int) + ((hi - lo) / 2 : Nat)) = (lo + (hi - lo) / 2 : Nat) := by rw [wrap_u64] <;> omega
    simp -implicitDefEqProofs
    rw [w1]
    refine onB_dec (fun h => ?_) (fun h => ?_)
    · have hm := half_lo (lo := lo) (hi := hi) (by omega)
      simp -implicitDefEqProofs
      rw [w1, w2, w3]
      generalize lo + (hi - lo) / 2 = mid at *
      have A := allow_spec t mid g n (by omega) (by omega) hn
      have AL := allowL_len t mid n
      have AV := allowL_val t mid n (by omega) hn
      have CS := compare_spec (allowL t mid n) (badL g n) (by omega) (by omega)
      have cm : cmpN (val (allowL t mid n)) (val (badL g n)) ≤ 0 ↔ mid ≤ R := by
        rw [cmpN_le, AV, BV]
        exact iff mid
      clear iff AV BV
      generalize cmpN (val (allowL t mid n)) (val (badL g n)) = cc at *
      generalize allowL t mid n = la at *
      generalize badL g n = lb at *
      refine onC_mk _ A ?_
      simp -implicitDefEqProofs
      refine onC_mk _ B ?_
      simp -implicitDefEqProofs
      refine onC_mk _ CS ?_
      simp -implicitDefEqProofs
      refine onB_dec (fun hc => ?_) (fun hc => ?_)
      · simp -implicitDefEqProofs
        refine hk mid hi _ ⟨cm.1 hc, i2, i3⟩ (by omega) ?_
        apply weak_mk <;> simp
      · simp -implicitDefEqProofs
        refine hk lo mid _ ⟨i1, by have := fun x => hc (cm.2 x); omega, by omega⟩ (by omega) ?_
        apply weak_mk <;> simp
    · obtain rfl : lo = R := by omega
      simp -implicitDefEqProofs
  · exact ⟨by simp only; omega, by simp only; omega, by simp only; omega⟩
  · apply weak_mk <;> simp
/-- The plain law. -/
theorem rates_law (t f g n : Nat) (hf : f < 18446744073709551616) :
    ((rateN t g n).2 = 0 ∧ (holdsN t f g n).2 = 0 ∧ n ≠ 0 ∧ ((holdsN t f g n).1 = true → f ≤ (rateN t g n).1) ∧ ((rateN t g n).1 ≤ f ∨ (holdsN t f g n).1 = true)) ∨
    (((rateN t g n).2 ≠ 0 ∨ (holdsN t f g n).2 ≠ 0 ∨ n = 0) ∧ ((holdsN t f g n).1 = true → t = 1000000)) := by
  by_cases h1 : 1000000 < t
  · right; simp [rateN, holdsN, h1]
  by_cases h2 : n < g
  · right; simp [rateN, holdsN, h1, h2]; split <;> simp
  by_cases h3 : t = 1000000
  · right; simp [rateN, h1, h2, h3]
  by_cases h4 : n = 0
  · right; subst h4; simp [holdsN]; repeat' split
    all_goals simp_all
  by_cases h5 : 1000000 < f
  · right; simp [holdsN, h5]
  left
  have hr : rateN t g n = ((n - g) * 1000000000 / n / (1000000 - t), 0) := by simp [rateN, h1, h2, h3, h4]
  have hh : holdsN t f g n = (decide (f * (1000000 - t) * n < (n - g) * 1000000000), 0) := by simp [holdsN, h1, h2, h5]
  have iff : ∀ m, m * (1000000 - t) * n ≤ (n - g) * 1000000000 ↔ m ≤ (n - g) * 1000000000 / n / (1000000 - t) := by
    intro m
    rw [Nat.le_div_iff_mul_le (by omega), Nat.le_div_iff_mul_le (by omega)]
  rw [hr, hh]
  refine ⟨rfl, rfl, h4, fun h => (iff f).1 (Nat.le_of_lt (by simpa using h)), ?_⟩
  by_cases hc : (n - g) * 1000000000 / n / (1000000 - t) ≤ f
  · exact .inl hc
  · right
    have h6 := (iff (f + 1)).2 (by omega)
    have h7 : 0 < (1000000 - t) * n := Nat.mul_pos (by omega) (by omega)
    rw [Nat.mul_assoc, Nat.add_mul] at h6
    rw [decide_eq_true_eq, Nat.mul_assoc]
    omega
end Go.Ai
set_option linter.unusedSimpArgs false
set_option linter.unusedVariables false
namespace Go.Ai
open Go.Proofs
/-! ### Bits by value and length -/
theorem val_lt (l : List Bool) : val l < 2 ^ l.length := by
  induction l with
  | nil => simp [val]
  | cons x r ih => simp only [val, List.length_cons, Nat.pow_succ]; cases x <;> simp <;> omega
theorem bitsOf_cons (b : Bool) (n k : Nat) : bitsOf (b.toNat + 2 * n) (k + 1) = b :: bitsOf n k := by
  unfold bitsOf
  rw [List.range_succ_eq_map, List.map_cons, List.map_map]
  congr 1
  · cases b <;> simp <;> omega
  · apply List.map_congr_left
    intro i _
    simp only [Function.comp, Nat.pow_succ]
    rw [Nat.mul_comm (2 ^ i) 2, ← Nat.div_div_eq_div_mul]
    have : (b.toNat + 2 * n) / 2 = n := by cases b <;> simp <;> omega
    rw [this]
theorem val_cons (b : Bool) (l : List Bool) : val (b :: l) = b.toNat + 2 * val l := by cases b <;> simp [val]
theorem bits_val (l : List Bool) : bitsOf (val l) l.length = l := by
  induction l with
  | nil => rfl
  | cons x r ih => rw [val_cons, List.length_cons, bitsOf_cons, ih]
theorem bits_eq {l : List Bool} {n k : Nat} (h1 : val l = n) (h2 : l.length = k) : l = bitsOf n k := by rw [← h1, ← h2, bits_val]
theorem bitsOf_zero (k : Nat) : bitsOf 0 k = List.replicate k false := by
  induction k with
  | zero => rfl
  | succ k ih => have := bitsOf_cons false 0 k; simp at this; rw [this, ih]; rfl
theorem val_rep (k : Nat) : val (List.replicate k false) = 0 := by
  induction k with
  | zero => rfl
  | succ k ih => rw [List.replicate_succ, val_cons, ih]; rfl
/-! ### Minus -/
def minusL : List Bool → List Bool → Bool → List Bool
  | [], _, _ => []
  | x :: r, b, c => ((x.toNat + atL b 0 + c.toNat) % 2 == 1) :: minusL r (b.drop 1) (decide (x.toNat < atL b 0 + c.toNat))
theorem minusL_len (a b : List Bool) (c : Bool) : (minusL a b c).length = a.length := by
  induction a generalizing b c with
  | nil => rfl
  | cons x r ih => simp [minusL, ih]
theorem minusL_val (a b : List Bool) (c : Bool) (h : val b + c.toNat ≤ val a) : val (minusL a b c) = val a - val b - c.toNat := by
  induction a generalizing b c with
  | nil => simp [minusL, val] at h ⊢
  | cons x r ih =>
    have e := val_drop b 0
    rw [List.drop_zero] at e
    have hb := atL_le b 0
    rw [val_cons] at h
    simp only [minusL, val_cons]
    generalize atL b 0 = y at *
    have hx : x.toNat ≤ 1 := by cases x <;> simp
    have hc : c.toNat ≤ 1 := by cases c <;> simp
    generalize x.toNat = x' at *
    generalize c.toNat = c' at *
    have hd : (decide (x' < y + c')).toNat = if x' < y + c' then 1 else 0 := by split <;> rename_i q <;> simp [q]
    have h1 : ((x' + y + c') % 2 == 1).toNat = (x' + y + c') % 2 := by rcases Nat.mod_two_eq_zero_or_one (x' + y + c') with q | q <;> simp [q]
    rw [ih _ _ (by rw [hd]; simp only [Nat.zero_add] at e; split <;> omega), hd, h1]
    simp only [Nat.zero_add] at e
    split <;> omega
theorem minusL_step (a b : List Bool) (i : Nat) (c : Bool) (h : i < a.length) :
    minusL (a.drop i) (b.drop i) c = ((atL a i + atL b i + c.toNat) % 2 == 1) :: minusL (a.drop (i + 1)) (b.drop (i + 1)) (decide (atL a i < atL b i + c.toNat)) := by
  rw [drop_cons h]
  have e1 : (a[i]).toNat = atL a i := by simp [atL, h]; cases a[i] <;> rfl
  have e2 : atL (b.drop i) 0 = atL b i := by simp [atL]
  simp only [minusL, e1, e2, List.drop_drop]
theorem minus_spec (a b : List Bool) (ha : a.length ≤ 1000000) (hb : b.length ≤ 1000000) : Sp Tryz.prog gl 212 [bl a, bl b] (bl (minusL a b false)) := by
  refine s212 rfl rfl ?_
  simp -implicitDefEqProofs [c212]
  refine wp_lpk (α := Nat × List Bool × Bool) (fun x => ⟨[(0, bl a), (1, bl b), (5, bl x.2.1), (6, .int .i64 x.2.2.toNat), (7, .int .i64 x.1)], [], [(.s 5, 1)]⟩)
    (fun x => x.1 ≤ a.length ∧ x.2.1.length = x.1 ∧ x.2.1 ++ minusL (a.drop x.1) (b.drop x.1) x.2.2 = minusL a b false) (fun x => a.length - x.1) ?_ (0, [], false) ?_ ?_
  · rintro K ⟨i, out, c⟩ hK ⟨h1, h0, h2⟩
    simp only at h1 h2 h0
    by_cases q : i < a.length
    · have a1 := atL_le a i
      have a2 := atL_le b i
      have hc : c.toNat ≤ 1 := by cases c <;> simp
      have e := minusL_step a b i c q
      have A1 := at_spec a i
      have A2 := at_spec b i
      generalize hx : atL a i = x at *
      generalize hy : atL b i = y at *
      generalize hz : c.toNat = z at *
      have t1 : IntKind.i64.wrap ((x : Int) - y) = x - y := by rw [wrap_i64] <;> omega
      have t2 : IntKind.i64.wrap ((x : Int) - y - z) = x - y - z := by rw [wrap_i64] <;> omega
      have t3 : IntKind.i64.wrap ((x : Int) - y - z + 2) = x - y - z + 2 := by rw [wrap_i64] <;> omega
      have t4 : IntKind.i64.wrap (i + 1) = (i + 1) := by rw [wrap_i64] <;> omega
      have hlim : out.length + 1 ≤ lim := by unfold lim; omega
      have fin : ∀ (σ' : St), Weak σ' ⟨[(0, bl a), (1, bl b), (5, bl (out ++ [(x + y + z) % 2 == 1])), (6, .int .i64 (decide (x < y + z)).toNat), (7, .int .i64 (i + 1 : Nat))], [], [(.s 5, 1)]⟩ → K σ' :=
        fun σ' hσ => hK (i + 1, out ++ [(x + y + z) % 2 == 1], decide (x < y + z)) σ' ⟨by simp only; omega, by simp [h0], by simp only [List.append_assoc, List.singleton_append]; rw [← h2, e]⟩ (by simp only; omega) hσ
      simp -implicitDefEqProofs [bl, q]
      refine onC_mk _ A1 ?_
      simp -implicitDefEqProofs
      refine onC_mk _ A2 ?_
      simp -implicitDefEqProofs
      simp only [t1, t2]
      by_cases g : x < y + z
      · have g1 : ((x : Int) - y - z < 0) := by omega
        have b1 : (((x : Int) - y - z + 2) == 1) = ((x + y + z) % 2 == 1) := by rw [Bool.eq_iff_iff]; simp; omega
        simp -implicitDefEqProofs [g1]
        simp only [t3]
        refine ⟨hlim, by rintro r (⟨-, h⟩ | ⟨-, h⟩) <;> simp [← h], fin _ ?_⟩
        apply weak_mk <;> simp [bl, t4, b1, g]
      · have g1 : ¬ ((x : Int) - y - z < 0) := by omega
        have b1 : (((x : Int) - y - z) == 1) = ((x + y + z) % 2 == 1) := by rw [Bool.eq_iff_iff]; simp; omega
        simp -implicitDefEqProofs [g1]
        refine ⟨hlim, by rintro r (⟨-, h⟩ | ⟨-, h⟩) <;> simp [← h], fin _ ?_⟩
        apply weak_mk <;> simp [bl, t4, b1, g]
    · obtain rfl : i = a.length := by omega
      rw [List.drop_eq_nil_of_le (Nat.le_refl _), minusL, List.append_nil] at h2
      rw [← h2]
      simp -implicitDefEqProofs [bl]
  · simp
  · apply weak_mk <;> simp [bl]
theorem minus_le (a b : List Bool) (ha : a.length ≤ 1000000) (hb : b.length ≤ 1000000) (h : val b ≤ val a) : Sp Tryz.prog gl 212 [bl a, bl b] (bl (bitsOf (val a - val b) a.length)) := by
  rw [← bits_eq (by rw [minusL_val _ _ _ (by simpa using h)]; simp) (minusL_len a b false)]
  exact minus_spec a b ha hb
/-! ### pad -/
theorem pad_spec (l : List Bool) (n : Nat) (hl : l.length ≤ 1000000) (hn : n ≤ 1000000) : Sp Tryz.prog gl 213 [bl l, i6 n] (bl (bitsOf (val l) (max l.length n))) := by
  refine s213 rfl rfl ?_
  have hlim : l.length ≤ lim := by unfold lim; omega
  simp -implicitDefEqProofs [c213, bl]
  refine ⟨hlim, by rintro r (⟨-, h⟩ | ⟨-, h⟩) <;> simp [← h], ?_⟩
  refine wp_lpk (α := Nat) (fun k => ⟨[(0, bl l), (1, i6 n), (5, bl (bitsOf (val l) k))], [], [(.s 5, 1)]⟩) (fun k => l.length ≤ k ∧ k ≤ max l.length n) (fun k => max l.length n - k) ?_ l.length ?_ ?_
  · rintro K k hK ⟨h1, h2⟩
    have hk : (bitsOf (val l) k).length = k := bitsOf_len _ _
    have e : bitsOf (val l) k ++ [false] = bitsOf (val l) (k + 1) := by
      rw [bitsOf_succ, Nat.div_eq_of_lt (Nat.lt_of_lt_of_le (val_lt l) (Nat.pow_le_pow_right (by omega) h1))]; rfl
    by_cases g : k < n
    · have hlim : k + 1 ≤ lim := by unfold lim; omega
      simp -implicitDefEqProofs [bl, hk, g]
      refine ⟨hlim, by rintro r (⟨-, h⟩ | ⟨-, h⟩) <;> simp [← h], hK (k + 1) _ (by omega) (by omega) ?_⟩
      apply weak_mk <;> simp [bl, ← e]
    · have : k = max l.length n := by omega
      simp -implicitDefEqProofs [bl, hk, g, ← this]
  · omega
  · apply weak_mk <;> simp [bl, bits_val]
/-! ### Of -/
theorem val_take_succ (l : List Bool) (i : Nat) (h : i < l.length) : val (l.take (i + 1)) = val (l.take i) + 2 ^ i * (l[i]).toNat := by
  rw [List.take_succ_eq_append_getElem h, val_append, List.length_take, Nat.min_eq_left (by omega)]
  cases l[i] <;> simp [val]
theorem val_take_lt (l : List Bool) (i : Nat) : val (l.take i) < 2 ^ i :=
  Nat.lt_of_lt_of_le (val_lt _) (Nat.pow_le_pow_right (by omega) (by rw [List.length_take]; omega))
theorem val_take_le (l : List Bool) (i : Nat) : val (l.take i) ≤ val l := by
  have : l = l.take i ++ l.drop i := (List.take_append_drop i l).symm
  rw [this, val_append, List.take_append_drop]
  exact Nat.le_add_right _ _
theorem shl1_u64 (i : Nat) (h : i < 64) : IntKind.u64.wrap (1 * 2 ^ (min i IntKind.u64.bits)) = ((2 ^ i : Nat) : Int) := by
  rw [show min i IntKind.u64.bits = i by show min i 64 = i; omega]
  have h1 : (2 : Nat) ^ i ≤ 2 ^ 63 := Nat.pow_le_pow_right (by omega) (by omega)
  have h2 : (2 : Nat) ^ 63 = 9223372036854775808 := rfl
  rw [Int.one_mul, show ((2 : Int) ^ i) = ((2 ^ i : Nat) : Int) by simp]
  generalize 2 ^ i = x at *
  rw [wrap_u64] <;> omega
theorem of_hi (v i : Nat) (h : 64 ≤ i) : (v + 2 ^ i) / 18446744073709551616 = v / 18446744073709551616 + 2 ^ (i - 64) ∧ (v + 2 ^ i) % 18446744073709551616 = v % 18446744073709551616 := by
  have e : (2 : Nat) ^ i = 2 ^ (i - 64) * 18446744073709551616 := by
    rw [show (18446744073709551616 : Nat) = 2 ^ 64 from rfl, ← Nat.pow_add]; congr 1; omega
  rw [e]; omega
theorem of_lo (v i : Nat) (h : i < 64) (hv : v < 2 ^ i) : (v + 2 ^ i) / 18446744073709551616 = v / 18446744073709551616 ∧ (v + 2 ^ i) % 18446744073709551616 = v % 18446744073709551616 + 2 ^ i := by
  have h1 : (2 : Nat) ^ i ≤ 2 ^ 63 := Nat.pow_le_pow_right (by omega) (by omega)
  have h2 : (2 : Nat) ^ 63 = 9223372036854775808 := rfl
  omega
theorem of_spec (l : List Bool) (hl : l.length ≤ 1000000) :
    Sp Tryz.prog gl 174 [bl l] (if val l < 340282366920938463463374607431768211456 then .tup [wide (val l), .bool true] else .tup [wide 0, .bool false]) := by
  refine s174 rfl rfl ?_
  obtain ⟨R, hR⟩ : ∃ R, R = (if val l < 340282366920938463463374607431768211456 then AV.tup [wide (val l), .bool true] else .tup [wide 0, .bool false]) := ⟨_, rfl⟩
  rw [← hR]
  simp -implicitDefEqProofs [c174]
  refine wp_lpk (α := Nat) (fun i => ⟨[(0, bl l), (2, .ptr (.n 2) 0), (4, .ptr (.n 4) 0), (5, i6 i)], [(.n 4, [u (val (l.take i) / 18446744073709551616), u (val (l.take i) % 18446744073709551616)]), (.n 2, [u 0, u 0])], []⟩)
    (fun i => i ≤ l.length ∧ val (l.take i) < 340282366920938463463374607431768211456) (fun i => l.length - i) ?_ 0 ?_ ?_
  · rintro K i hK ⟨h1, h2⟩
    have t1 : IntKind.i64.wrap ((i : Int) + 1) = i + 1 := by rw [wrap_i64] <;> omega
    have hv := val_take_lt l i
    by_cases g : i < l.length
    · have e := val_take_succ l i g
      have e' := val_take_le l (i + 1)
      obtain ⟨v, hv'⟩ : ∃ v, v = val (l.take i) := ⟨_, rfl⟩
      rw [← hv'] at hv h2 e ⊢
      cases hb : l[i]
      · rw [hb] at e
        simp at e
        simp -implicitDefEqProofs [bl, g, hb]
        refine hK (i + 1) _ ⟨by omega, by rw [e]; exact h2⟩ (by omega) ?_
        apply weak_mk <;> simp [bl, t1, e]
      · rw [hb] at e
        simp at e
        by_cases g2 : 128 ≤ i
        · have : ¬ val l < 340282366920938463463374607431768211456 := by
            have h3 : (2 : Nat) ^ 128 ≤ 2 ^ i := Nat.pow_le_pow_right (by omega) g2
            have h4 : (2 : Nat) ^ 128 = 340282366920938463463374607431768211456 := rfl
            omega
          rw [if_neg this] at hR
          subst hR
          have g3 : (128 : Int) ≤ i := by omega
          simp -implicitDefEqProofs [bl, g, hb, g3, wide]
        · have hlt : val (l.take (i + 1)) < 340282366920938463463374607431768211456 := by
            have h3 := val_take_lt l (i + 1)
            have h4 : (2 : Nat) ^ (i + 1) ≤ 2 ^ 128 := Nat.pow_le_pow_right (by omega) (by omega)
            have h5 : (2 : Nat) ^ 128 = 340282366920938463463374607431768211456 := rfl
            omega
          have g3 : ¬ (128 : Int) ≤ i := by omega
          by_cases g4 : 64 ≤ i
          · have g5 : (64 : Int) ≤ i := by omega
            have t2 : IntKind.i64.wrap ((i : Int) - 64) = ((i - 64 : Nat) : Int) := by rw [wrap_i64] <;> omega
            have t3 : IntKind.u64.wrap ((i - 64 : Nat) : Int) = ((i - 64 : Nat) : Int) := by rw [wrap_u64] <;> omega
            have t4 := shl1_u64 (i - 64) (by omega)
            obtain ⟨q1, q2⟩ := of_hi v i g4
            have t5 : IntKind.u64.wrap ((v / 18446744073709551616 : Nat) + (2 ^ (i - 64) : Nat) : Int) = ((v + 2 ^ i) / 18446744073709551616 : Nat) := by
              rw [q1]; rw [wrap_u64] <;> omega
            rw [← e] at t5 q2
            obtain ⟨V, hV⟩ : ∃ V, V = val (l.take (i + 1)) := ⟨_, rfl⟩
            have fin : ∀ (σ' : St), Weak σ' ⟨[(0, bl l), (2, .ptr (.n 2) 0), (4, .ptr (.n 4) 0), (5, i6 (i + 1 : Nat))], [(.n 4, [u (V / 18446744073709551616), u (V % 18446744073709551616)]), (.n 2, [u 0, u 0])], []⟩ → K σ' :=
              fun σ' hσ => hK (i + 1) σ' ⟨by omega, hlt⟩ (by omega) (hV ▸ hσ)
            rw [← hV] at t5 q2
            rw [q2] at fin
            obtain ⟨A, hA⟩ : ∃ A, A = v / 18446744073709551616 := ⟨_, rfl⟩
            obtain ⟨B, hB⟩ : ∃ B, B = v % 18446744073709551616 := ⟨_, rfl⟩
            obtain ⟨C, hC⟩ : ∃ C, C = V / 18446744073709551616 := ⟨_, rfl⟩
            obtain ⟨D, hD⟩ : ∃ D, D = 2 ^ (i - 64) := ⟨_, rfl⟩
            rw [← hA, ← hC, ← hD] at t5
            rw [← hA, ← hB]
            rw [← hB, ← hC] at fin
            rw [← hD] at t4
            clear hA hB hC hD q1 q2 hV hv' e e' hK h2 hv hR hlt
            simp -implicitDefEqProofs [bl, g, hb, g3, g5]
            rw [Int.one_mul] at t4
            simp only [t2, t3, Int.toNat_natCast]
            simp -implicitDefEqProofs
            rw [t4, t5]
            refine fin _ ?_
            apply weak_mk <;> simp [bl, t1]
          · have g5 : ¬ (64 : Int) ≤ i := by omega
            have t3 : IntKind.u64.wrap (i : Int) = (i : Int) := by rw [wrap_u64] <;> omega
            have t4 := shl1_u64 i (by omega)
            obtain ⟨q1, q2⟩ := of_lo v i (by omega) hv
            have t5 : IntKind.u64.wrap ((v % 18446744073709551616 : Nat) + (2 ^ i : Nat) : Int) = ((v + 2 ^ i) % 18446744073709551616 : Nat) := by
              rw [q2]; rw [wrap_u64] <;> omega
            rw [← e] at t5 q1
            obtain ⟨V, hV⟩ : ∃ V, V = val (l.take (i + 1)) := ⟨_, rfl⟩
            have fin : ∀ (σ' : St), Weak σ' ⟨[(0, bl l), (2, .ptr (.n 2) 0), (4, .ptr (.n 4) 0), (5, i6 (i + 1 : Nat))], [(.n 4, [u (V / 18446744073709551616), u (V % 18446744073709551616)]), (.n 2, [u 0, u 0])], []⟩ → K σ' :=
              fun σ' hσ => hK (i + 1) σ' ⟨by omega, hlt⟩ (by omega) (hV ▸ hσ)
            rw [← hV] at t5 q1
            rw [q1] at fin
            obtain ⟨A, hA⟩ : ∃ A, A = v / 18446744073709551616 := ⟨_, rfl⟩
            obtain ⟨B, hB⟩ : ∃ B, B = v % 18446744073709551616 := ⟨_, rfl⟩
            obtain ⟨C, hC⟩ : ∃ C, C = V % 18446744073709551616 := ⟨_, rfl⟩
            obtain ⟨D, hD⟩ : ∃ D, D = 2 ^ i := ⟨_, rfl⟩
            rw [← hB, ← hC, ← hD] at t5
            rw [← hA, ← hB]
            rw [← hA, ← hC] at fin
            rw [← hD] at t4
            clear hA hB hC hD q1 q2 hV hv' e e' hK h2 hv hR hlt
            simp -implicitDefEqProofs [bl, g, hb, g3, g5]
            rw [Int.one_mul] at t4
            simp only [t3, Int.toNat_natCast]
            simp -implicitDefEqProofs
            rw [t4, t5]
            refine fin _ ?_
            apply weak_mk <;> simp [bl, t1]
    · obtain rfl : i = l.length := by omega
      rw [List.take_length] at h2 ⊢
      rw [if_pos h2] at hR
      subst hR
      simp -implicitDefEqProofs [bl, wide]
  · simp [val]
  · apply weak_mk <;> simp [bl, val]
end Go.Ai
set_option linter.unusedSimpArgs false
set_option linter.unusedVariables false
namespace Go.Ai
open Go.Proofs
/-! ### Divide -/
theorem dm_of {x N q r : Nat} (h : x = N * q + r) (hr : r < N) : x / N = q ∧ x % N = r := by
  subst h
  rw [Nat.mul_add_div (by omega), Nat.mul_add_mod, Nat.div_eq_of_lt hr, Nat.mod_eq_of_lt hr]
  exact ⟨rfl, rfl⟩
def qc (j : Nat) (B : List Bool) : List AV := (List.replicate j false ++ B).map AV.bool
theorem qc_succ (j : Nat) (B : List Bool) : qc (j + 1) B = qc j (false :: B) := by
  unfold qc; rw [List.replicate_succ', List.append_assoc]; rfl
theorem qc_set (j : Nat) (B : List Bool) : List.take j (qc (j + 1) B) ++ AV.bool true :: List.drop (j + 1) (qc (j + 1) B) = qc j (true :: B) := by
  have h1 : List.take j (qc (j + 1) B) = (List.replicate j false).map AV.bool := by
    rw [qc_succ]; unfold qc; rw [List.map_append, List.take_left' (by simp)]
  have h2 : List.drop (j + 1) (qc (j + 1) B) = B.map AV.bool := by
    unfold qc; rw [List.map_append, List.drop_left' (by simp)]
  rw [h1, h2]; unfold qc; simp
theorem qc_len (j : Nat) (B : List Bool) : (qc j B).length = j + B.length := by simp [qc]
theorem idsL_bools (q : List Bool) : idsL (q.map AV.bool) = [] := by
  induction q with
  | nil => rfl
  | cons x r ih => simp [idsL, AV.ids, ih]
theorem qc_ids (j : Nat) (B : List Bool) : idsL (qc j B) = [] := idsL_bools _
theorem cmpN_ge (a b : Nat) : 0 ≤ cmpN a b ↔ b ≤ a := by
  unfold cmpN; split
  · omega
  · split <;> omega
set_option maxRecDepth 10000 in
theorem divide_spec (a n : List Bool) (ha : a.length ≤ 1000000) (hn : n.length ≤ 1000000) (h0 : 0 < val n) :
    Sp Tryz.prog gl 177 [bl a, bl n] (.tup [bl (bitsOf (val a / val n) a.length), bl (bitsOf (val a % val n) a.length)]) := by
  refine s177 rfl rfl ?_
  have hlim : a.length ≤ lim := by unfold lim; omega
  have t0 : IntKind.i64.wrap ((a.length : Int) - 1) = a.length - 1 := by rw [wrap_i64] <;> omega
  simp -implicitDefEqProofs [c177, bl, hlim]
  refine wp_lpk (α := Nat) (fun k => ⟨[(0, bl a), (1, bl n), (6, .ms (.n 11) 0 a.length 1), (7, bl (bitsOf (val (a.drop k) % val n) (a.length - k))), (8, i6 ((k : Int) - 1))],
    [(.n 11, qc k (bitsOf (val (a.drop k) / val n) (a.length - k)))], []⟩) (fun k => k ≤ a.length) (fun k => k) ?_ a.length ?_ ?_
  · rintro K k hK hk
    cases k with
    | zero =>
      have e1 : val (a.drop 0) = val a := by rw [List.drop_zero]
      rw [e1, Nat.sub_zero]
      obtain ⟨q, hq⟩ : ∃ q, q = bitsOf (val a / val n) a.length := ⟨_, rfl⟩
      have hql : q.length = a.length := by rw [hq, bitsOf_len]
      rw [← hq]
      obtain ⟨l, hl⟩ : ∃ l, l = bitsOf (val a % val n) a.length := ⟨_, rfl⟩
      rw [← hl]
      have hqc : qc 0 q = (q.map fun b => [AV.bool b]).flatten := by
        have : ∀ q : List Bool, q.map AV.bool = (q.map fun b => [AV.bool b]).flatten := by
          intro q; induction q with
          | nil => rfl
          | cons x r ih => rw [List.map_cons, List.map_cons, List.flatten_cons, ← ih]; rfl
        unfold qc; rw [List.replicate_zero, List.nil_append]; exact this q
      obtain ⟨X, hX⟩ : ∃ X, X = qc 0 q := ⟨_, rfl⟩
      rw [← hX] at hqc ⊢
      clear hX hq hl hK e1
      simp -implicitDefEqProofs [bl]
      refine .inr (.inl ⟨4, .n 11, a.length, 1, q.map (fun b => [AV.bool b]), ⟨?_, ?_, ?_, ?_, ?_, ?_, ?_⟩, ?_⟩)
      · simp [lk]
      · simp [lkB, hqc]
      · rfl
      · simp [hql]
      · intro r hr; simp at hr; rcases hr with ⟨-, h⟩ | ⟨-, h⟩ <;> simp [← h]
      · have : ∀ q : List Bool, idsL (q.map fun b => [AV.bool b]).flatten = [] := by
          intro q; induction q with
          | nil => rfl
          | cons x r ih => simp [idsL, AV.ids, ih]
        exact this q
      · simp [rmB]
      · simp -implicitDefEqProofs [frzSt, postA, resA, oneA, purE, lk, AV.ids, shut, shutL]
    | succ j =>
      have hj : j < a.length := by omega
      have ed := drop_cons hj
      have eV : val (a.drop j) = (a[j]).toNat + 2 * val (a.drop (j + 1)) := by rw [ed, val_cons]
      have hVl : val (a.drop (j + 1)) < 2 ^ (a.length - (j + 1)) := by have := val_lt (a.drop (j + 1)); rwa [List.length_drop] at this
      have el : a.length - j = a.length - (j + 1) + 1 := by omega
      obtain ⟨V, hV⟩ : ∃ V, V = val (a.drop (j + 1)) := ⟨_, rfl⟩
      obtain ⟨V', hV'⟩ : ∃ V', V' = val (a.drop j) := ⟨_, rfl⟩
      rw [← hV] at eV hVl ⊢
      rw [← hV'] at eV
      have hKj := fun σ' h => hK j σ' (by omega) (by omega) h
      simp only [← hV'] at hKj
      obtain ⟨N, hN⟩ : ∃ N, N = val n := ⟨_, rfl⟩
      rw [← hN] at h0 hKj ⊢
      have dmV := Nat.div_add_mod V N
      have hm := Nat.mod_lt V h0
      obtain ⟨q, hq⟩ : ∃ q, q = V / N := ⟨_, rfl⟩
      obtain ⟨r, hr⟩ : ∃ r, r = V % N := ⟨_, rfl⟩
      have hrV : r ≤ V := by rw [hr]; exact Nat.mod_le _ _
      rw [← hq, ← hr] at dmV
      rw [← hr] at hm
      rw [← hq, ← hr]
      obtain ⟨m, hm'⟩ : ∃ m, m = a.length - (j + 1) := ⟨_, rfl⟩
      rw [← hm'] at el hVl ⊢
      simp only [el] at hKj
      obtain ⟨b, hb⟩ : ∃ b, b = a[j] := ⟨_, rfl⟩
      rw [← hb] at eV
      have eL : val (bitsOf r m) = r := by rw [bitsOf_val, Nat.mod_eq_of_lt (by omega)]
      have hLl := bitsOf_len r m
      have hL0 : b :: bitsOf r m = bitsOf (b.toNat + 2 * r) (m + 1) := (bitsOf_cons b r m).symm
      have hB1 : true :: bitsOf q m = bitsOf (1 + 2 * q) (m + 1) := (bitsOf_cons true q m).symm
      have hB0 : false :: bitsOf q m = bitsOf (2 * q) (m + 1) := by have := (bitsOf_cons false q m).symm; simpa using this
      obtain ⟨L, hL⟩ : ∃ L, L = bitsOf r m := ⟨_, rfl⟩
      rw [← hL] at eL hLl hL0 ⊢
      have eW : val (b :: L) = b.toNat + 2 * r := by rw [val_cons, eL]
      have hb1 : b.toNat ≤ 1 := by cases b <;> simp
      have C := compare_spec (b :: L) n (by simp; omega) hn
      have M := fun h => minus_le (b :: L) n (by simp; omega) hn h
      rw [← hN, eW] at C M
      have hcc := cmpN_ge (b.toNat + 2 * r) N
      obtain ⟨cc, hc⟩ : ∃ cc, cc = cmpN (b.toNat + 2 * r) N := ⟨_, rfl⟩
      rw [← hc] at C hcc
      have Bs := qc_set j (bitsOf q m)
      have Bn := qc_succ j (bitsOf q m)
      have Bl := qc_len (j + 1) (bitsOf q m)
      rw [bitsOf_len] at Bl
      have Bi := qc_ids (j + 1) (bitsOf q m)
      have Bi2 := qc_ids j (true :: bitsOf q m)
      rw [← Bs] at Bi2
      rw [hB1] at Bs
      rw [hB0] at Bn
      obtain ⟨X, hX⟩ : ∃ X, X = qc (j + 1) (bitsOf q m) := ⟨_, rfl⟩
      rw [← hX] at Bs Bn Bl Bi Bi2 ⊢
      have e8 : ((j + 1 : Nat) : Int) - 1 = j := by omega
      have t1 : IntKind.i64.wrap ((j : Int) - 1) = j - 1 := by rw [wrap_i64] <;> omega
      have hlimL : 1 + L.length ≤ lim := by unfold lim; omega
      have hXl : j + 1 ≤ X.length := by omega
      rw [e8]
      by_cases g : N ≤ b.toNat + 2 * r
      · have M := M g
        have gc := hcc.2 g
        have key : V' / N = 1 + 2 * q ∧ V' % N = b.toNat + 2 * r - N := by
          apply dm_of
          · rw [eV, ← dmV, Nat.mul_add, Nat.mul_add, Nat.mul_one, Nat.mul_left_comm N 2 q]; omega
          · omega
        rw [key.1, key.2] at hKj
        have eM : (b :: L).length = m + 1 := by simp [hLl]
        rw [eM] at M
        rw [← Bs] at hKj
        obtain ⟨L2, hL2⟩ : ∃ L2, L2 = bitsOf (b.toNat + 2 * r - N) (m + 1) := ⟨_, rfl⟩
        rw [← hL2] at M hKj
        clear Bs Bn hcc hX key hL2 hL hq hr hN hV hV' hc hL0 hB1 hB0 eV dmV ed Bl
        subst hb
        simp -implicitDefEqProofs [bl, hj]
        refine ⟨hlimL, by rintro r (⟨-, h⟩ | ⟨-, h⟩) <;> simp [← h], ?_⟩
        refine onC_mk _ C ?_
        simp -implicitDefEqProofs [gc]
        refine onC_mk _ M ?_
        simp -implicitDefEqProofs [hj, hXl]
        refine hKj _ ?_
        apply weak_mk <;> simp [bl, t1, wkL_refl, Bi, Bi2]
      · have gc : ¬ 0 ≤ cc := fun h => g (hcc.1 h)
        have key : V' / N = 2 * q ∧ V' % N = b.toNat + 2 * r := by
          apply dm_of
          · rw [eV, ← dmV, Nat.mul_add, Nat.mul_left_comm N 2 q]; omega
          · omega
        rw [key.1, key.2, ← Bn, ← hL0] at hKj
        clear Bs Bn hcc hX key hL hq hr hN hV hV' hc hL0 hB1 hB0 eV dmV ed Bl M
        subst hb
        simp -implicitDefEqProofs [bl, hj]
        refine ⟨hlimL, by rintro r (⟨-, h⟩ | ⟨-, h⟩) <;> simp [← h], ?_⟩
        refine onC_mk _ C ?_
        simp -implicitDefEqProofs [gc]
        refine hKj _ ?_
        apply weak_mk <;> simp [bl, t1, wkL_refl, Bi, Bi2]
  · exact Nat.le_refl _
  · rw [List.drop_eq_nil_of_le (Nat.le_refl _), Nat.sub_self]
    have e1 : bitsOf (val [] / val n) 0 = [] := rfl
    have e2 : bitsOf (val [] % val n) 0 = [] := rfl
    rw [e1, e2]
    have : qc a.length [] = List.replicate a.length (AV.bool false) := by unfold qc; simp
    have hi := qc_ids a.length []
    rw [this] at hi ⊢
    apply weak_mk <;> simp [bl, t0, hi]
end Go.Ai
set_option linter.unusedSimpArgs false
set_option linter.unusedVariables false
namespace Go.Ai
open Go.Proofs
/-- A signed number. -/
abbrev sg2 (b : Bool) (m l : Nat) : AV := .agg [.bool b, u m, u l]
def sgn (b : Bool) (n : Nat) : AV := sg2 b (n / 18446744073709551616) (n % 18446744073709551616)
def sgi (z : Int) : AV := sgn (decide (z < 0)) z.natAbs
theorem sright0 (b : Bool) (m l : Nat) : Sp Tryz.prog gl 204 [sg2 b m l] (.bool (!b || !(decide (m = 0 ∧ l = 0)))) := by
  refine s204 rfl rfl ?_
  cases b
  · simp -implicitDefEqProofs [c204]
  · by_cases h1 : m = 0
    · by_cases h2 : l = 0
      · subst h1; subst h2; simp -implicitDefEqProofs [c204]
      · have h3 : ((l : Int) == 0) = false := by simpa using h2
        subst h1
        simp -implicitDefEqProofs [c204, h3, h2]
    · have h3 : ((m : Int) == 0) = false := by simpa using h1
      simp -implicitDefEqProofs [c204, h3, h1]
theorem srt0 (b : Bool) (m l : Nat) : Sp Tryz.prog gl 163 [sg2 b m l] (sg2 (b && !decide (m = 0 ∧ l = 0)) m l) := by
  refine s163 rfl rfl ?_
  have R := sright0 b m l
  simp -implicitDefEqProofs [c163]
  refine onC_mk _ R ?_
  by_cases h : m = 0 ∧ l = 0
  · obtain ⟨rfl, rfl⟩ := h
    cases b
    · simp -implicitDefEqProofs
    · simp -implicitDefEqProofs
  · simp -implicitDefEqProofs [h]
    intro _; omega
theorem nz_iff (n : Nat) : (n / 18446744073709551616 = 0 ∧ n % 18446744073709551616 = 0) ↔ n = 0 := by omega
theorem srt1 (b : Bool) (n : Nat) : Sp Tryz.prog gl 163 [sgn b n] (sgi (if b = true then -n else n)) := by
  have R := srt0 b (n / 18446744073709551616) (n % 18446744073709551616)
  have e : sgi (if b = true then -(n : Int) else n) = sgn (b && !decide (n / 18446744073709551616 = 0 ∧ n % 18446744073709551616 = 0)) n := by
    simp only [nz_iff]
    cases b
    · have : decide ((n : Int) < 0) = false := by simp
      simp [sgi, this]
    · have : decide (-(n : Int) < 0) = !decide (n = 0) := by rw [Bool.eq_iff_iff]; simp; omega
      simp only [sgi, if_true, this, Int.natAbs_neg, Int.natAbs_natCast, Bool.true_and]
  rw [e]; exact R
theorem sgi_if (z : Int) : (if decide (z < 0) = true then -(z.natAbs : Int) else z.natAbs) = z := by
  by_cases h : z < 0 <;> simp [h] <;> omega
theorem srt_spec (z : Int) : Sp Tryz.prog gl 163 [sgi z] (sgi z) := by
  have := srt1 (decide (z < 0)) z.natAbs
  rw [sgi_if] at this
  exact this
theorem sized_spec (b : Bool) (n : Nat) : Sp Tryz.prog gl 240 [.bool b, wide n] (sgi (if b = true then -n else n)) := by
  refine s240 rfl rfl ?_
  have key := srt1 b n
  obtain ⟨b', m', l', e⟩ : ∃ b' m' l', sgi (if b = true then -n else n) = sg2 b' m' l' := ⟨_, _, _, rfl⟩
  rw [e] at key ⊢
  unfold sgn at key
  unfold wide
  generalize n % 18446744073709551616 = l at *
  generalize n / 18446744073709551616 = m at *
  simp -implicitDefEqProofs [c240]
  refine onC_mk _ key ?_
  simp -implicitDefEqProofs
theorem between_spec (a b : Nat) (ha : a < 340282366920938463463374607431768211456) (hb : b < 340282366920938463463374607431768211456) : Sp Tryz.prog gl 209 [wide a, wide b] (sgi ((a : Int) - b)) := by
  refine s209 rfl rfl ?_
  have L1 := xless_spec a b ha hb
  have L2 := xless_spec b a hb ha
  have e0 : sgi ((a : Int) - b) = if b ≤ a then sgi (if false = true then -((a - b : Nat) : Int) else (a - b : Nat)) else sgi (if true = true then -((b - a : Nat) : Int) else (b - a : Nat)) := by
    split <;> congr 1 <;> simp <;> omega
  obtain ⟨b', m', l', e⟩ : ∃ b' m' l', sgi ((a : Int) - b) = sg2 b' m' l' := ⟨_, _, _, rfl⟩
  rw [e] at e0 ⊢
  by_cases h : b ≤ a
  · have Z := sized_spec false (a - b)
    rw [if_pos h] at L1 e0
    rw [← e0] at Z
    clear e0 L2 e
    unfold wide at *
    generalize (a - b) % 18446744073709551616 = l at *
    generalize (a - b) / 18446744073709551616 = m at *
    simp -implicitDefEqProofs [c209]
    refine onC_mk _ L1 ?_
    simp -implicitDefEqProofs
    refine onC_mk _ Z ?_
    simp -implicitDefEqProofs
  · have Z := sized_spec true (b - a)
    rw [if_neg h] at L1 e0
    rw [if_pos (by omega)] at L2
    rw [← e0] at Z
    clear e0 e
    unfold wide at *
    generalize (b - a) % 18446744073709551616 = l at *
    generalize (b - a) / 18446744073709551616 = m at *
    simp -implicitDefEqProofs [c209]
    refine onC_mk _ L1 ?_
    simp -implicitDefEqProofs
    refine onC_mk _ L2 ?_
    simp -implicitDefEqProofs
    refine onC_mk _ Z ?_
    simp -implicitDefEqProofs
theorem sgi_wide (z : Int) (h : z.natAbs < 340282366920938463463374607431768211456) : ∃ m l, sgi z = sg2 (decide (z < 0)) m l ∧ wide z.natAbs = .agg [u m, u l] := ⟨_, _, rfl, rfl⟩
/-! ### Ledger -/
theorem may0 {t g n : Nat} (h1 : t ≤ 1000000) (h2 : g ≤ n) : mayN t g n = 0 := by unfold mayN; rw [if_neg (by omega), if_neg (by omega)]
theorem lmay_spec (t g n : Nat) : Sp Tryz.prog gl 208 [u32 t, cnt g n] (i6 (mayN t g n)) := by
  refine s208 rfl rfl ?_
  simp -implicitDefEqProofs [c208]
  refine onC_mk _ (right_spec t) ?_
  by_cases h : t ≤ 1000000
  · by_cases h2 : n < g
    · simp -implicitDefEqProofs [h, h2, mayN, show ¬ 1000000 < t by omega]
    · simp -implicitDefEqProofs [h, h2, mayN, show ¬ 1000000 < t by omega]
  · simp -implicitDefEqProofs [h, mayN, show 1000000 < t by omega]
theorem budget_spec (t g n : Nat) (ht : t ≤ 1000000) (hg : g ≤ n) (hn : n < 18446744073709551616) : Sp Tryz.prog gl 210 [u32 t, cnt g n] (.tup [wide (n * (1000000 - t)), wide ((n - g) * 1000000)]) := by
  refine s210 rfl rfl ?_
  have R := rest_spec t ht
  have T1 := times_spec n (1000000 - t) hn (by omega)
  have T2 := times_spec (n - g) 1000000 (by omega) (by omega)
  have w1 : IntKind.u64.wrap ((1000000 - t : Nat) : Int) = (1000000 - t : Nat) := by rw [wrap_u64] <;> omega
  have w2 : IntKind.u64.wrap ((n : Int) - g) = (n - g : Nat) := by rw [wrap_u64] <;> omega
  unfold wide at *
  generalize n * (1000000 - t) % 18446744073709551616 = l1 at *
  generalize n * (1000000 - t) / 18446744073709551616 = m1 at *
  generalize (n - g) * 1000000 % 18446744073709551616 = l2 at *
  generalize (n - g) * 1000000 / 18446744073709551616 = m2 at *
  simp -implicitDefEqProofs [c210]
  refine onC_mk _ R ?_
  simp -implicitDefEqProofs
  rw [w1]
  refine onC_mk _ T1 ?_
  simp -implicitDefEqProofs
  rw [w2]
  refine onC_mk _ T2 ?_
  simp -implicitDefEqProofs
def leftZ (t g n : Nat) : Int := if mayN t g n = 0 then ((n * (1000000 - t) : Nat) : Int) - ((n - g) * 1000000 : Nat) else 0
theorem left_spec (t g n : Nat) (ht : t < 4294967296) (hn : n < 18446744073709551616) : Sp Tryz.prog gl 166 [u32 t, cnt g n] (.tup [sgi (leftZ t g n), i6 (mayN t g n)]) := by
  refine s166 rfl rfl ?_
  have M := lmay_spec t g n
  by_cases h : mayN t g n = 0
  · have ht2 : t ≤ 1000000 := by unfold mayN at h; split at h <;> omega
    have hg : g ≤ n := by unfold mayN at h; (repeat' split at h) <;> omega
    have B := budget_spec t g n ht2 hg hn
    have k1 : n * (1000000 - t) ≤ 18446744073709551616 * 1000000 := Nat.mul_le_mul (by omega) (by omega)
    have k2 : (n - g) * 1000000 ≤ 18446744073709551616 * 1000000 := Nat.mul_le_mul (by omega) (by omega)
    have S := between_spec (n * (1000000 - t)) ((n - g) * 1000000) (by omega) (by omega)
    have e : leftZ t g n = ((n * (1000000 - t) : Nat) : Int) - ((n - g) * 1000000 : Nat) := by unfold leftZ; rw [if_pos h]
    rw [← e] at S
    obtain ⟨b', m', l', e2⟩ : ∃ b' m' l', sgi (leftZ t g n) = sg2 b' m' l' := ⟨_, _, _, rfl⟩
    rw [e2] at S ⊢
    rw [h] at M ⊢
    clear e e2 k1 k2
    unfold wide at *
    generalize n * (1000000 - t) % 18446744073709551616 = l1 at *
    generalize n * (1000000 - t) / 18446744073709551616 = m1 at *
    generalize (n - g) * 1000000 % 18446744073709551616 = l2 at *
    generalize (n - g) * 1000000 / 18446744073709551616 = m2 at *
    simp -implicitDefEqProofs [c166]
    refine onC_mk _ M ?_
    simp -implicitDefEqProofs
    refine onC_mk _ B ?_
    simp -implicitDefEqProofs
    refine onC_mk _ S ?_
    simp -implicitDefEqProofs
  · have e : leftZ t g n = 0 := by unfold leftZ; rw [if_neg h]
    have e2 : sgi 0 = sg2 false 0 0 := rfl
    rw [e, e2]
    have b1 : ((mayN t g n : Int) != 0) = true := by simp [h]
    simp -implicitDefEqProofs [c166]
    refine onC_mk _ M ?_
    simp -implicitDefEqProofs [b1]
def spentN (t g n : Nat) : Nat × Nat := if mayN t g n = 0 then (if n = 0 ∨ t = 1000000 then (0, 4) else ((n - g) * 1000000 * 1000000 / n / (1000000 - t), 0)) else (0, mayN t g n)
theorem lv_left : sgi (leftZ 999000 999600 1000000) = sg2 false 0 600000000 := by kernel_rfl
theorem lv_may : mayN 999000 999600 1000000 = 0 := by kernel_rfl
theorem lv_spent : spentN 999000 999600 1000000 = (400000, 0) := by kernel_rfl
theorem left_adds (t g n h m : Nat) (ht : t ≤ 1000000) (hg : g ≤ n) (hh : h ≤ m) : leftZ t (g + h) (n + m) = leftZ t g n + leftZ t h m := by
  have e1 : mayN t g n = 0 := may0 (by omega) (by omega)
  have e2 : mayN t h m = 0 := may0 (by omega) (by omega)
  have e3 : mayN t (g + h) (n + m) = 0 := may0 (by omega) (by omega)
  unfold leftZ
  rw [if_pos e1, if_pos e2, if_pos e3, Nat.add_mul, show n + m - (g + h) = (n - g) + (m - h) by omega, Nat.add_mul]
  omega
theorem left_small (t g n : Nat) (hn : n < 9223372036854775808) : (leftZ t g n).natAbs ≤ 9223372036854775808 * 1000000 := by
  unfold leftZ
  split
  · have k1 : n * (1000000 - t) ≤ 9223372036854775808 * 1000000 := Nat.mul_le_mul (by omega) (by omega)
    have k2 : (n - g) * 1000000 ≤ 9223372036854775808 * 1000000 := Nat.mul_le_mul (by omega) (by omega)
    omega
  · simp
end Go.Ai
