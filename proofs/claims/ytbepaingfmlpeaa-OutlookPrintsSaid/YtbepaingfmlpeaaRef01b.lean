/- YtbepaingfmlpeaaRef01b: part of the abstract interpreter library (values, rules, soundness against the model) or of what a function of the seat computes. Conditions: as each theorem says. -/
import Derived.Test.YtbepaingfmlpeaaRef01
import Derived.Test.YtbepaingfmlpeaaAiExt
set_option linter.unusedSimpArgs false
set_option linter.unusedVariables false
namespace Go.Ai
open Go.Proofs
/-! ### Bits by value and length -/
theorem val_lt (l : List Bool) : val l < 2 ^ l.length := by
  induction l with
  | nil => simp [val]
  | cons x r ih => simp only [val, List.length_cons, Nat.pow_succ]; cases x <;> simp <;> omega
theorem bitsOf_cons (b : Bool) (n k : Nat) : bitsOf (b.toNat + 2 * n) (k + 1) = b :: bitsOf n k := by
  unfold bitsOf
  rw [List.range_succ_eq_map, List.map_cons, List.map_map]
  congr 1
  · cases b <;> simp <;> omega
  · apply List.map_congr_left
    intro i _
    simp only [Function.comp, Nat.pow_succ]
    rw [Nat.mul_comm (2 ^ i) 2, ← Nat.div_div_eq_div_mul]
    have : (b.toNat + 2 * n) / 2 = n := by cases b <;> simp <;> omega
    rw [this]
theorem val_cons (b : Bool) (l : List Bool) : val (b :: l) = b.toNat + 2 * val l := by cases b <;> simp [val]
theorem bits_val (l : List Bool) : bitsOf (val l) l.length = l := by
  induction l with
  | nil => rfl
  | cons x r ih => rw [val_cons, List.length_cons, bitsOf_cons, ih]
theorem bits_eq {l : List Bool} {n k : Nat} (h1 : val l = n) (h2 : l.length = k) : l = bitsOf n k := by rw [← h1, ← h2, bits_val]
theorem bitsOf_zero (k : Nat) : bitsOf 0 k = List.replicate k false := by
  induction k with
  | zero => rfl
  | succ k ih => have := bitsOf_cons false 0 k; simp at this; rw [this, ih]; rfl
theorem val_rep (k : Nat) : val (List.replicate k false) = 0 := by
  induction k with
  | zero => rfl
  | succ k ih => rw [List.replicate_succ, val_cons, ih]; rfl
/-! ### Minus -/
def minusL : List Bool → List Bool → Bool → List Bool
  | [], _, _ => []
  | x :: r, b, c => ((x.toNat + atL b 0 + c.toNat) % 2 == 1) :: minusL r (b.drop 1) (decide (x.toNat < atL b 0 + c.toNat))
theorem minusL_len (a b : List Bool) (c : Bool) : (minusL a b c).length = a.length := by
  induction a generalizing b c with
  | nil => rfl
  | cons x r ih => simp [minusL, ih]
theorem minusL_val (a b : List Bool) (c : Bool) (h : val b + c.toNat ≤ val a) : val (minusL a b c) = val a - val b - c.toNat := by
  induction a generalizing b c with
  | nil => simp [minusL, val] at h ⊢
  | cons x r ih =>
    have e := val_drop b 0
    rw [List.drop_zero] at e
    have hb := atL_le b 0
    rw [val_cons] at h
    simp only [minusL, val_cons]
    generalize atL b 0 = y at *
    have hx : x.toNat ≤ 1 := by cases x <;> simp
    have hc : c.toNat ≤ 1 := by cases c <;> simp
    generalize x.toNat = x' at *
    generalize c.toNat = c' at *
    have hd : (decide (x' < y + c')).toNat = if x' < y + c' then 1 else 0 := by split <;> rename_i q <;> simp [q]
    have h1 : ((x' + y + c') % 2 == 1).toNat = (x' + y + c') % 2 := by rcases Nat.mod_two_eq_zero_or_one (x' + y + c') with q | q <;> simp [q]
    rw [ih _ _ (by rw [hd]; simp only [Nat.zero_add] at e; split <;> omega), hd, h1]
    simp only [Nat.zero_add] at e
    split <;> omega
theorem minusL_step (a b : List Bool) (i : Nat) (c : Bool) (h : i < a.length) :
    minusL (a.drop i) (b.drop i) c = ((atL a i + atL b i + c.toNat) % 2 == 1) :: minusL (a.drop (i + 1)) (b.drop (i + 1)) (decide (atL a i < atL b i + c.toNat)) := by
  rw [drop_cons h]
  have e1 : (a[i]).toNat = atL a i := by simp [atL, h]; cases a[i] <;> rfl
  have e2 : atL (b.drop i) 0 = atL b i := by simp [atL]
  simp only [minusL, e1, e2, List.drop_drop]
theorem minus_spec (a b : List Bool) (ha : a.length ≤ 1000000) (hb : b.length ≤ 1000000) : Sp Try.prog gl 95 [bl a, bl b] (bl (minusL a b false)) := by
  refine s95 rfl rfl ?_
  simp -implicitDefEqProofs [c95]
  refine wp_lpk (α := Nat × List Bool × Bool) (fun x => ⟨[(0, bl a), (1, bl b), (5, bl x.2.1), (6, .int .i64 x.2.2.toNat), (7, .int .i64 x.1)], [], [(.s 5, 1)]⟩)
    (fun x => x.1 ≤ a.length ∧ x.2.1.length = x.1 ∧ x.2.1 ++ minusL (a.drop x.1) (b.drop x.1) x.2.2 = minusL a b false) (fun x => a.length - x.1) ?_ (0, [], false) ?_ ?_
  · rintro K ⟨i, out, c⟩ hK ⟨h1, h0, h2⟩
    simp only at h1 h2 h0
    by_cases q : i < a.length
    · have a1 := atL_le a i
      have a2 := atL_le b i
      have hc : c.toNat ≤ 1 := by cases c <;> simp
      have e := minusL_step a b i c q
      have A1 := at_spec a i
      have A2 := at_spec b i
      generalize hx : atL a i = x at *
      generalize hy : atL b i = y at *
      generalize hz : c.toNat = z at *
      have t1 : IntKind.i64.wrap ((x : Int) - y) = x - y := by rw [wrap_i64] <;> omega
      have t2 : IntKind.i64.wrap ((x : Int) - y - z) = x - y - z := by rw [wrap_i64] <;> omega
      have t3 : IntKind.i64.wrap ((x : Int) - y - z + 2) = x - y - z + 2 := by rw [wrap_i64] <;> omega
      have t4 : IntKind.i64.wrap (i + 1) = (i + 1) := by rw [wrap_i64] <;> omega
      have hlim : out.length + 1 ≤ lim := by unfold lim; omega
      have fin : ∀ (σ' : St), Weak σ' ⟨[(0, bl a), (1, bl b), (5, bl (out ++ [(x + y + z) % 2 == 1])), (6, .int .i64 (decide (x < y + z)).toNat), (7, .int .i64 (i + 1 : Nat))], [], [(.s 5, 1)]⟩ → K σ' :=
        fun σ' hσ => hK (i + 1, out ++ [(x + y + z) % 2 == 1], decide (x < y + z)) σ' ⟨by simp only; omega, by simp [h0], by simp only [List.append_assoc, List.singleton_append]; rw [← h2, e]⟩ (by simp only; omega) hσ
      simp -implicitDefEqProofs [bl, q]
      refine onC_mk _ A1 ?_
      simp -implicitDefEqProofs
      refine onC_mk _ A2 ?_
      simp -implicitDefEqProofs
      simp only [t1, t2]
      by_cases g : x < y + z
      · have g1 : ((x : Int) - y - z < 0) := by omega
        have b1 : (((x : Int) - y - z + 2) == 1) = ((x + y + z) % 2 == 1) := by rw [Bool.eq_iff_iff]; simp; omega
        simp -implicitDefEqProofs [g1]
        simp only [t3]
        refine ⟨hlim, by rintro r (⟨-, h⟩ | ⟨-, h⟩) <;> simp [← h], fin _ ?_⟩
        apply weak_mk <;> simp [bl, t4, b1, g]
      · have g1 : ¬ ((x : Int) - y - z < 0) := by omega
        have b1 : (((x : Int) - y - z) == 1) = ((x + y + z) % 2 == 1) := by rw [Bool.eq_iff_iff]; simp; omega
        simp -implicitDefEqProofs [g1]
        refine ⟨hlim, by rintro r (⟨-, h⟩ | ⟨-, h⟩) <;> simp [← h], fin _ ?_⟩
        apply weak_mk <;> simp [bl, t4, b1, g]
    · obtain rfl : i = a.length := by omega
      rw [List.drop_eq_nil_of_le (Nat.le_refl _), minusL, List.append_nil] at h2
      rw [← h2]
      simp -implicitDefEqProofs [bl]
  · simp
  · apply weak_mk <;> simp [bl]
theorem minus_le (a b : List Bool) (ha : a.length ≤ 1000000) (hb : b.length ≤ 1000000) (h : val b ≤ val a) : Sp Try.prog gl 95 [bl a, bl b] (bl (bitsOf (val a - val b) a.length)) := by
  rw [← bits_eq (by rw [minusL_val _ _ _ (by simpa using h)]; simp) (minusL_len a b false)]
  exact minus_spec a b ha hb
/-! ### pad -/
theorem pad_spec (l : List Bool) (n : Nat) (hl : l.length ≤ 1000000) (hn : n ≤ 1000000) : Sp Try.prog gl 96 [bl l, i6 n] (bl (bitsOf (val l) (max l.length n))) := by
  refine s96 rfl rfl ?_
  have hlim : l.length ≤ lim := by unfold lim; omega
  simp -implicitDefEqProofs [c96, bl]
  refine ⟨hlim, by rintro r (⟨-, h⟩ | ⟨-, h⟩) <;> simp [← h], ?_⟩
  refine wp_lpk (α := Nat) (fun k => ⟨[(0, bl l), (1, i6 n), (5, bl (bitsOf (val l) k))], [], [(.s 5, 1)]⟩) (fun k => l.length ≤ k ∧ k ≤ max l.length n) (fun k => max l.length n - k) ?_ l.length ?_ ?_
  · rintro K k hK ⟨h1, h2⟩
    have hk : (bitsOf (val l) k).length = k := bitsOf_len _ _
    have e : bitsOf (val l) k ++ [false] = bitsOf (val l) (k + 1) := by
      rw [bitsOf_succ, Nat.div_eq_of_lt (Nat.lt_of_lt_of_le (val_lt l) (Nat.pow_le_pow_right (by omega) h1))]; rfl
    by_cases g : k < n
    · have hlim : k + 1 ≤ lim := by unfold lim; omega
      simp -implicitDefEqProofs [bl, hk, g]
      refine ⟨hlim, by rintro r (⟨-, h⟩ | ⟨-, h⟩) <;> simp [← h], hK (k + 1) _ (by omega) (by omega) ?_⟩
      apply weak_mk <;> simp [bl, ← e]
    · have : k = max l.length n := by omega
      simp -implicitDefEqProofs [bl, hk, g, ← this]
  · omega
  · apply weak_mk <;> simp [bl, bits_val]
/-! ### Of -/
theorem val_take_succ (l : List Bool) (i : Nat) (h : i < l.length) : val (l.take (i + 1)) = val (l.take i) + 2 ^ i * (l[i]).toNat := by
  rw [List.take_succ_eq_append_getElem h, val_append, List.length_take, Nat.min_eq_left (by omega)]
  cases l[i] <;> simp [val]
theorem val_take_lt (l : List Bool) (i : Nat) : val (l.take i) < 2 ^ i :=
  Nat.lt_of_lt_of_le (val_lt _) (Nat.pow_le_pow_right (by omega) (by rw [List.length_take]; omega))
theorem val_take_le (l : List Bool) (i : Nat) : val (l.take i) ≤ val l := by
  have : l = l.take i ++ l.drop i := (List.take_append_drop i l).symm
  rw [this, val_append, List.take_append_drop]
  exact Nat.le_add_right _ _
theorem shl1_u64 (i : Nat) (h : i < 64) : IntKind.u64.wrap (1 * 2 ^ (min i IntKind.u64.bits)) = ((2 ^ i : Nat) : Int) := by
  rw [show min i IntKind.u64.bits = i by show min i 64 = i; omega]
  have h1 : (2 : Nat) ^ i ≤ 2 ^ 63 := Nat.pow_le_pow_right (by omega) (by omega)
  have h2 : (2 : Nat) ^ 63 = 9223372036854775808 := rfl
  rw [Int.one_mul, show ((2 : Int) ^ i) = ((2 ^ i : Nat) : Int) by simp]
  generalize 2 ^ i = x at *
  rw [wrap_u64] <;> omega
theorem of_hi (v i : Nat) (h : 64 ≤ i) : (v + 2 ^ i) / 18446744073709551616 = v / 18446744073709551616 + 2 ^ (i - 64) ∧ (v + 2 ^ i) % 18446744073709551616 = v % 18446744073709551616 := by
  have e : (2 : Nat) ^ i = 2 ^ (i - 64) * 18446744073709551616 := by
    rw [show (18446744073709551616 : Nat) = 2 ^ 64 from rfl, ← Nat.pow_add]; congr 1; omega
  rw [e]; omega
theorem of_lo (v i : Nat) (h : i < 64) (hv : v < 2 ^ i) : (v + 2 ^ i) / 18446744073709551616 = v / 18446744073709551616 ∧ (v + 2 ^ i) % 18446744073709551616 = v % 18446744073709551616 + 2 ^ i := by
  have h1 : (2 : Nat) ^ i ≤ 2 ^ 63 := Nat.pow_le_pow_right (by omega) (by omega)
  have h2 : (2 : Nat) ^ 63 = 9223372036854775808 := rfl
  omega
theorem of_spec (l : List Bool) (hl : l.length ≤ 1000000) :
    Sp Try.prog gl 68 [bl l] (if val l < 340282366920938463463374607431768211456 then .tup [wide (val l), .bool true] else .tup [wide 0, .bool false]) := by
  refine s68 rfl rfl ?_
  obtain ⟨R, hR⟩ : ∃ R, R = (if val l < 340282366920938463463374607431768211456 then AV.tup [wide (val l), .bool true] else .tup [wide 0, .bool false]) := ⟨_, rfl⟩
  rw [← hR]
  simp -implicitDefEqProofs [c68]
  refine wp_lpk (α := Nat) (fun i => ⟨[(0, bl l), (2, .ptr (.n 2) 0), (4, .ptr (.n 4) 0), (5, i6 i)], [(.n 4, [u (val (l.take i) / 18446744073709551616), u (val (l.take i) % 18446744073709551616)]), (.n 2, [u 0, u 0])], []⟩)
    (fun i => i ≤ l.length ∧ val (l.take i) < 340282366920938463463374607431768211456) (fun i => l.length - i) ?_ 0 ?_ ?_
  · rintro K i hK ⟨h1, h2⟩
    have t1 : IntKind.i64.wrap ((i : Int) + 1) = i + 1 := by rw [wrap_i64] <;> omega
    have hv := val_take_lt l i
    by_cases g : i < l.length
    · have e := val_take_succ l i g
      have e' := val_take_le l (i + 1)
      obtain ⟨v, hv'⟩ : ∃ v, v = val (l.take i) := ⟨_, rfl⟩
      rw [← hv'] at hv h2 e ⊢
      cases hb : l[i]
      · rw [hb] at e
        simp at e
        simp -implicitDefEqProofs [bl, g, hb]
        refine hK (i + 1) _ ⟨by omega, by rw [e]; exact h2⟩ (by omega) ?_
        apply weak_mk <;> simp [bl, t1, e]
      · rw [hb] at e
        simp at e
        by_cases g2 : 128 ≤ i
        · have : ¬ val l < 340282366920938463463374607431768211456 := by
            have h3 : (2 : Nat) ^ 128 ≤ 2 ^ i := Nat.pow_le_pow_right (by omega) g2
            have h4 : (2 : Nat) ^ 128 = 340282366920938463463374607431768211456 := rfl
            omega
          rw [if_neg this] at hR
          subst hR
          have g3 : (128 : Int) ≤ i := by omega
          simp -implicitDefEqProofs [bl, g, hb, g3, wide]
        · have hlt : val (l.take (i + 1)) < 340282366920938463463374607431768211456 := by
            have h3 := val_take_lt l (i + 1)
            have h4 : (2 : Nat) ^ (i + 1) ≤ 2 ^ 128 := Nat.pow_le_pow_right (by omega) (by omega)
            have h5 : (2 : Nat) ^ 128 = 340282366920938463463374607431768211456 := rfl
            omega
          have g3 : ¬ (128 : Int) ≤ i := by omega
          by_cases g4 : 64 ≤ i
          · have g5 : (64 : Int) ≤ i := by omega
            have t2 : IntKind.i64.wrap ((i : Int) - 64) = ((i - 64 : Nat) : Int) := by rw [wrap_i64] <;> omega
            have t3 : IntKind.u64.wrap ((i - 64 : Nat) : Int) = ((i - 64 : Nat) : Int) := by rw [wrap_u64] <;> omega
            have t4 := shl1_u64 (i - 64) (by omega)
            obtain ⟨q1, q2⟩ := of_hi v i g4
            have t5 : IntKind.u64.wrap ((v / 18446744073709551616 : Nat) + (2 ^ (i - 64) : Nat) : Int) = ((v + 2 ^ i) / 18446744073709551616 : Nat) := by
              rw [q1]; rw [wrap_u64] <;> omega
            rw [← e] at t5 q2
            obtain ⟨V, hV⟩ : ∃ V, V = val (l.take (i + 1)) := ⟨_, rfl⟩
            have fin : ∀ (σ' : St), Weak σ' ⟨[(0, bl l), (2, .ptr (.n 2) 0), (4, .ptr (.n 4) 0), (5, i6 (i + 1 : Nat))], [(.n 4, [u (V / 18446744073709551616), u (V % 18446744073709551616)]), (.n 2, [u 0, u 0])], []⟩ → K σ' :=
              fun σ' hσ => hK (i + 1) σ' ⟨by omega, hlt⟩ (by omega) (hV ▸ hσ)
            rw [← hV] at t5 q2
            rw [q2] at fin
            obtain ⟨A, hA⟩ : ∃ A, A = v / 18446744073709551616 := ⟨_, rfl⟩
            obtain ⟨B, hB⟩ : ∃ B, B = v % 18446744073709551616 := ⟨_, rfl⟩
            obtain ⟨C, hC⟩ : ∃ C, C = V / 18446744073709551616 := ⟨_, rfl⟩
            obtain ⟨D, hD⟩ : ∃ D, D = 2 ^ (i - 64) := ⟨_, rfl⟩
            rw [← hA, ← hC, ← hD] at t5
            rw [← hA, ← hB]
            rw [← hB, ← hC] at fin
            rw [← hD] at t4
            clear hA hB hC hD q1 q2 hV hv' e e' hK h2 hv hR hlt
            simp -implicitDefEqProofs [bl, g, hb, g3, g5]
            rw [Int.one_mul] at t4
            simp only [t2, t3, Int.toNat_natCast]
            simp -implicitDefEqProofs
            rw [t4, t5]
            refine fin _ ?_
            apply weak_mk <;> simp [bl, t1]
          · have g5 : ¬ (64 : Int) ≤ i := by omega
            have t3 : IntKind.u64.wrap (i : Int) = (i : Int) := by rw [wrap_u64] <;> omega
            have t4 := shl1_u64 i (by omega)
            obtain ⟨q1, q2⟩ := of_lo v i (by omega) hv
            have t5 : IntKind.u64.wrap ((v % 18446744073709551616 : Nat) + (2 ^ i : Nat) : Int) = ((v + 2 ^ i) % 18446744073709551616 : Nat) := by
              rw [q2]; rw [wrap_u64] <;> omega
            rw [← e] at t5 q1
            obtain ⟨V, hV⟩ : ∃ V, V = val (l.take (i + 1)) := ⟨_, rfl⟩
            have fin : ∀ (σ' : St), Weak σ' ⟨[(0, bl l), (2, .ptr (.n 2) 0), (4, .ptr (.n 4) 0), (5, i6 (i + 1 : Nat))], [(.n 4, [u (V / 18446744073709551616), u (V % 18446744073709551616)]), (.n 2, [u 0, u 0])], []⟩ → K σ' :=
              fun σ' hσ => hK (i + 1) σ' ⟨by omega, hlt⟩ (by omega) (hV ▸ hσ)
            rw [← hV] at t5 q1
            rw [q1] at fin
            obtain ⟨A, hA⟩ : ∃ A, A = v / 18446744073709551616 := ⟨_, rfl⟩
            obtain ⟨B, hB⟩ : ∃ B, B = v % 18446744073709551616 := ⟨_, rfl⟩
            obtain ⟨C, hC⟩ : ∃ C, C = V % 18446744073709551616 := ⟨_, rfl⟩
            obtain ⟨D, hD⟩ : ∃ D, D = 2 ^ i := ⟨_, rfl⟩
            rw [← hB, ← hC, ← hD] at t5
            rw [← hA, ← hB]
            rw [← hA, ← hC] at fin
            rw [← hD] at t4
            clear hA hB hC hD q1 q2 hV hv' e e' hK h2 hv hR hlt
            simp -implicitDefEqProofs [bl, g, hb, g3, g5]
            rw [Int.one_mul] at t4
            simp only [t3, Int.toNat_natCast]
            simp -implicitDefEqProofs
            rw [t4, t5]
            refine fin _ ?_
            apply weak_mk <;> simp [bl, t1]
    · obtain rfl : i = l.length := by omega
      rw [List.take_length] at h2 ⊢
      rw [if_pos h2] at hR
      subst hR
      simp -implicitDefEqProofs [bl, wide]
  · simp [val]
  · apply weak_mk <;> simp [bl, val]
end Go.Ai
