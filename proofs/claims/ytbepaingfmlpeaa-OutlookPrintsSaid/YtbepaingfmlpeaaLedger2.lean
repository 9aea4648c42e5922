/- YtbepaingfmlpeaaLedger2: part of the abstract interpreter library (values, rules, soundness against the model) or of what a function of the seat computes. Conditions: as each theorem says. -/
import Derived.Test.YtbepaingfmlpeaaRef02
set_option linter.unusedSimpArgs false
set_option linter.unusedVariables false
namespace Go.Ai
open Go.Proofs
theorem rbits23_spec (x : Nat) (hx : x < 18446744073709551616) : Sp Try.prog gl 67 [u x] (bl (bitsOf x 128)) := by
  refine s67 rfl rfl ?_
  have B := bits_spec x (by omega)
  unfold wide at B
  rw [Nat.div_eq_of_lt hx, Nat.mod_eq_of_lt hx] at B
  simp -implicitDefEqProofs [c67]
  refine onC_mk _ B ?_
  simp -implicitDefEqProofs [bl]
theorem rmay23_spec (t g n : Nat) : Sp Try.prog gl 61 [u32 t, cnt g n] (i6 (mayN t g n)) := by
  refine s61 rfl rfl ?_
  by_cases h : 1000000 < t
  · simp -implicitDefEqProofs [c61, mayN, h, show (1000000 : Int) < t by omega]
  · by_cases h2 : n < g
    · simp -implicitDefEqProofs [c61, mayN, h, show ¬ (1000000 : Int) < t by omega, h2]
    · simp -implicitDefEqProofs [c61, mayN, h, show ¬ (1000000 : Int) < t by omega, h2]
/-- A product's bits. -/
def prL (x y : Nat) : List Bool := timesL [] (bitsOf x 128) (bitsOf y 128)
theorem prL_len (x y : Nat) : (prL x y).length ≤ 256 := by
  have := timesL_len [] (bitsOf x 128) (bitsOf y 128) (by simp)
  simp only [bitsOf_len] at this
  exact this
theorem prL_val (x y : Nat) (hx : x < 18446744073709551616) (hy : y < 18446744073709551616) : val (prL x y) = x * y := by
  unfold prL
  rw [timesL_val, bitsOf_val128 _ (by omega), bitsOf_val128 _ (by omega)]
  simp [val]
theorem pair_spec (t g n : Nat) (ht : t ≤ 1000000) (hg : g ≤ n) (hn : n < 18446744073709551616) : Sp Try.prog gl 63 [u32 t, cnt g n] (.agg [bl (prL n (1000000 - t)), bl (prL (n - g) 1000000)]) := by
  refine s63 rfl rfl ?_
  have B1 := rbits23_spec n hn
  have B2 := rbits23_spec (1000000 - t) (by omega)
  have B3 := rbits23_spec (n - g) (by omega)
  have B4 := rbits23_spec 1000000 (by omega)
  have T1 := times_spec_l (bitsOf n 128) (bitsOf (1000000 - t) 128) (by rw [bitsOf_len]; omega) (by rw [bitsOf_len]; omega)
  have T2 := times_spec_l (bitsOf (n - g) 128) (bitsOf 1000000 128) (by rw [bitsOf_len]; omega) (by rw [bitsOf_len]; omega)
  have w1 : IntKind.u64.wrap (IntKind.u32.wrap (1000000 - (t : Int))) = (1000000 - t : Nat) := by
    rw [wrap_u32 (by omega) (by omega), wrap_u64 (by omega) (by omega)]; omega
  have w2 : IntKind.u64.wrap ((n : Int) - g) = (n - g : Nat) := by rw [wrap_u64] <;> omega
  unfold prL
  generalize timesL [] (bitsOf n 128) (bitsOf (1000000 - t) 128) = l1 at *
  generalize timesL [] (bitsOf (n - g) 128) (bitsOf 1000000 128) = l2 at *
  generalize bitsOf n 128 = l3 at *
  generalize bitsOf (n - g) 128 = l4 at *
  generalize bitsOf (1000000 - t) 128 = l5 at *
  generalize bitsOf 1000000 128 = l6 at *
  simp -implicitDefEqProofs [c63]
  refine onC_mk _ B1 ?_
  simp -implicitDefEqProofs
  rw [w1]
  refine onC_mk _ B2 ?_
  simp -implicitDefEqProofs [bl]
  refine onC_mk _ T1 ?_
  simp -implicitDefEqProofs
  rw [w2]
  refine onC_mk _ B3 ?_
  simp -implicitDefEqProofs
  refine onC_mk _ B4 ?_
  simp -implicitDefEqProofs [bl]
  refine onC_mk _ T2 ?_
  simp -implicitDefEqProofs [bl]
theorem rleft_spec (t g n : Nat) (ht : t < 4294967296) (hn : n < 18446744073709551616) : Sp Try.prog gl 27 [u32 t, cnt g n] (.tup [sgi (leftZ t g n), i6 (mayN t g n)]) := by
  refine s27 rfl rfl ?_
  have M := rmay23_spec t g n
  by_cases h : mayN t g n = 0
  · have ht2 : t ≤ 1000000 := by unfold mayN at h; split at h <;> omega
    have hg : g ≤ n := by unfold mayN at h; (repeat' split at h) <;> omega
    have P := pair_spec t g n ht2 hg hn
    have v1 := prL_val n (1000000 - t) hn (by omega)
    have v2 := prL_val (n - g) 1000000 (by omega) (by omega)
    have k1 : n * (1000000 - t) ≤ 18446744073709551616 * 1000000 := Nat.mul_le_mul (by omega) (by omega)
    have k2 : (n - g) * 1000000 ≤ 18446744073709551616 * 1000000 := Nat.mul_le_mul (by omega) (by omega)
    have l1 := prL_len n (1000000 - t)
    have l2 := prL_len (n - g) 1000000
    have e : leftZ t g n = ((val (prL n (1000000 - t)) : Nat) : Int) - (val (prL (n - g) 1000000) : Nat) := by unfold leftZ; rw [if_pos h, v1, v2]
    have T := to_spec (prL n (1000000 - t)) (prL (n - g) 1000000) (by omega) (by omega) (by rw [v1, v2]; omega)
    rw [← e] at T
    obtain ⟨b', m', l', e2⟩ : ∃ b' m' l', sgi (leftZ t g n) = sg2 b' m' l' := ⟨_, _, _, rfl⟩
    rw [e2] at T ⊢
    rw [h] at M ⊢
    clear e e2 k1 k2 v1 v2 l1 l2
    generalize prL n (1000000 - t) = p1 at *
    generalize prL (n - g) 1000000 = p2 at *
    simp -implicitDefEqProofs [c27]
    refine onC_mk _ M ?_
    simp -implicitDefEqProofs
    refine onC_mk _ P ?_
    simp -implicitDefEqProofs [bl]
    refine onC_mk _ T ?_
    simp -implicitDefEqProofs
  · have e : leftZ t g n = 0 := by unfold leftZ; rw [if_neg h]
    have e2 : sgi 0 = sg2 false 0 0 := rfl
    rw [e, e2]
    have b1 : ((mayN t g n : Int) != 0) = true := by simp [h]
    simp -implicitDefEqProofs [c27]
    refine onC_mk _ M ?_
    simp -implicitDefEqProofs [b1]
theorem val_nil : val [] = 0 := rfl
set_option maxRecDepth 10000 in
theorem rspent_spec (t g n : Nat) (ht : t < 4294967296) (hn : n < 18446744073709551616) : Sp Try.prog gl 29 [u32 t, cnt g n] (.tup [u (spentN t g n).1, i6 (spentN t g n).2]) := by
  refine s29 rfl rfl ?_
  have M := rmay23_spec t g n
  by_cases h : mayN t g n = 0
  · have ht2 : t ≤ 1000000 := by unfold mayN at h; split at h <;> omega
    have hg : g ≤ n := by unfold mayN at h; (repeat' split at h) <;> omega
    have P := pair_spec t g n ht2 hg hn
    have v1 := prL_val n (1000000 - t) hn (by omega)
    have v2 := prL_val (n - g) 1000000 (by omega) (by omega)
    have l1 := prL_len n (1000000 - t)
    have l2 := prL_len (n - g) 1000000
    rw [h] at M
    obtain ⟨p1, hp1⟩ : ∃ p1, p1 = prL n (1000000 - t) := ⟨_, rfl⟩
    obtain ⟨p2, hp2⟩ : ∃ p2, p2 = prL (n - g) 1000000 := ⟨_, rfl⟩
    rw [← hp1] at P v1 l1
    rw [← hp2] at P v2 l2
    clear hp1 hp2
    have C := compare_spec p1 [] (by omega) (by simp)
    rw [val_nil] at C
    by_cases h0 : n = 0 ∨ t = 1000000
    · have e : spentN t g n = (0, 4) := by unfold spentN; rw [if_pos h, if_pos h0]
      have z : val p1 = 0 := by
        rw [v1]; rcases h0 with h0 | h0
        · rw [h0, Nat.zero_mul]
        · rw [h0, Nat.sub_self, Nat.mul_zero]
      rw [z] at C
      have c0 : cmpN 0 0 = 0 := rfl
      rw [c0] at C
      rw [e]
      clear v1 v2 z
      simp -implicitDefEqProofs [c29]
      refine onC_mk _ M ?_
      simp -implicitDefEqProofs
      refine onC_mk _ P ?_
      simp -implicitDefEqProofs [bl]
      refine onC_mk _ C ?_
      simp -implicitDefEqProofs
    · have e : spentN t g n = ((n - g) * 1000000 * 1000000 / n / (1000000 - t), 0) := by unfold spentN; rw [if_pos h, if_neg h0]
      have n0 : 0 < n := by omega
      have t0 : 0 < 1000000 - t := by omega
      have pz : 0 < val p1 := by rw [v1]; exact Nat.mul_pos n0 t0
      have c0 : cmpN (val p1) 0 = 1 := by unfold cmpN; rw [if_neg (by omega), if_neg (by omega)]
      rw [c0] at C
      have B := rbits23_spec 1000000 (by omega)
      have T := times_spec_l p2 (bitsOf 1000000 128) (by omega) (by rw [bitsOf_len]; omega)
      have tl := timesL_len [] p2 (bitsOf 1000000 128) (by simp)
      rw [bitsOf_len] at tl
      have tv := timesL_val [] p2 (bitsOf 1000000 128)
      rw [bitsOf_val128 _ (by omega), v2, val_nil, Nat.zero_add] at tv
      generalize timesL [] p2 (bitsOf 1000000 128) = p3 at *
      have D := divide_spec p3 p1 (by omega) (by omega) pz
      rw [tv, v1, ← Nat.div_div_eq_div_mul] at D
      have q1 : (n - g) * 1000000 * 1000000 / n ≤ 1000000000000 := by
        apply Nat.div_le_of_le_mul
        have := Nat.mul_le_mul_right (1000000 * 1000000) (Nat.sub_le n g)
        rw [Nat.mul_assoc]; exact this
      have q2 : (n - g) * 1000000 * 1000000 / n / (1000000 - t) ≤ (n - g) * 1000000 * 1000000 / n := Nat.div_le_self _ _
      have q3 : (n - g) * 1000000 * 1000000 / n / (1000000 - t) ≤ val p3 := by rw [tv]; exact Nat.le_trans q2 (Nat.div_le_self _ _)
      rw [e]
      obtain ⟨Y, hY⟩ : ∃ Y, Y = (n - g) * 1000000 * 1000000 / n / (1000000 - t) := ⟨_, rfl⟩
      rw [← hY] at D q2 q3 ⊢
      have q4 := val_lt p3
      obtain ⟨p4, hp4⟩ : ∃ p4, p4 = bitsOf Y p3.length := ⟨_, rfl⟩
      have v4 : val p4 = Y := by rw [hp4, bitsOf_val, Nat.mod_eq_of_lt (by omega)]
      have l4 : p4.length = p3.length := by rw [hp4, bitsOf_len]
      rw [← hp4] at D
      have O := of_spec p4 (by omega)
      rw [v4, if_pos (by omega)] at O
      have wY : wide Y = .agg [u 0, u Y] := by unfold wide; rw [Nat.div_eq_of_lt (by omega), Nat.mod_eq_of_lt (by omega)]
      rw [wY] at O
      generalize bitsOf ((n - g) * 1000000 * 1000000 % (n * (1000000 - t))) p3.length = p5 at *
      generalize bitsOf 1000000 128 = p6 at *
      clear hp4 hY q1 q2 q3 q4 v1 v2 v4 tv c0 pz wY
      simp -implicitDefEqProofs [c29]
      refine onC_mk _ M ?_
      simp -implicitDefEqProofs
      refine onC_mk _ P ?_
      simp -implicitDefEqProofs [bl]
      refine onC_mk _ C ?_
      simp -implicitDefEqProofs
      refine onC_mk _ B ?_
      simp -implicitDefEqProofs [bl]
      refine onC_mk _ T ?_
      simp -implicitDefEqProofs [bl]
      refine onC_mk _ D ?_
      simp -implicitDefEqProofs [bl]
      refine onC_mk _ O ?_
      simp -implicitDefEqProofs
  · have e : spentN t g n = (0, mayN t g n) := by unfold spentN; rw [if_neg h]
    have b1 : ((mayN t g n : Int) != 0) = true := by simp [h]
    rw [e]
    simp -implicitDefEqProofs [c29]
    refine onC_mk _ M ?_
    simp -implicitDefEqProofs [b1]
theorem none_law (t g n : Nat) (h : mayN t g n = 0) (h0 : ¬ (n = 0 ∨ t = 1000000)) : leftZ t g n ≤ 0 ↔ 1000000 ≤ (spentN t g n).1 := by
  have ht2 : t ≤ 1000000 := by unfold mayN at h; split at h <;> omega
  have n0 : 0 < n := by omega
  have t0 : 0 < 1000000 - t := by omega
  unfold leftZ spentN
  rw [if_pos h, if_pos h, if_neg h0]
  simp only
  rw [Nat.div_div_eq_div_mul, Nat.le_div_iff_mul_le (Nat.mul_pos n0 t0)]
  obtain ⟨X, hX⟩ : ∃ X, X = n * (1000000 - t) := ⟨_, rfl⟩
  obtain ⟨Y, hY⟩ : ∃ Y, Y = (n - g) * 1000000 := ⟨_, rfl⟩
  rw [← hX, ← hY]
  omega
theorem spent_cases (t g n : Nat) : ((spentN t g n).2 = 0 ∧ mayN t g n = 0 ∧ ¬ (n = 0 ∨ t = 1000000)) ∨ ((spentN t g n).2 = 4 ∧ mayN t g n = 0) ∨ ((spentN t g n).2 = 8) ∨ ((spentN t g n).2 = 16) := by
  unfold spentN
  by_cases h : mayN t g n = 0
  · rw [if_pos h]
    by_cases h0 : n = 0 ∨ t = 1000000
    · rw [if_pos h0]; exact .inr (.inl ⟨rfl, h⟩)
    · rw [if_neg h0]; exact .inl ⟨rfl, h, h0⟩
  · rw [if_neg h]
    unfold mayN at h ⊢
    simp only
    (repeat' split) <;> simp_all
set_option maxRecDepth 10000 in
theorem ledgerLeft_spec (t g n : Nat) (ht : t < 4294967296) (hg : g < 18446744073709551616) (hn : n < 18446744073709551616) : Sp Try.prog gl 8 [u32 t, cnt g n] (.bool true) := by
  refine s8 rfl rfl ?_
  have L1 := left_spec t g n ht hn
  have L2 := rleft_spec t g n ht hn
  have S1 := spent_spec t g n ht hn
  have S2 := rspent_spec t g n ht hn
  have N := none_law t g n
  have hc := spent_cases t g n
  obtain ⟨b', m', l', e2, w2⟩ : ∃ b' m' l', sgi (leftZ t g n) = sg2 b' m' l' ∧ (b' = true ∨ (m' = 0 ∧ l' = 0) ↔ leftZ t g n ≤ 0) := by
    refine ⟨_, _, _, rfl, ?_⟩
    rw [nz_iff]
    simp only [decide_eq_true_eq]
    omega
  rw [e2] at L1 L2
  obtain ⟨x, hx⟩ : ∃ x, x = (spentN t g n).1 := ⟨_, rfl⟩
  obtain ⟨y, hy⟩ : ∃ y, y = (spentN t g n).2 := ⟨_, rfl⟩
  obtain ⟨e, he⟩ : ∃ e, e = mayN t g n := ⟨_, rfl⟩
  rw [← hx] at S1 S2 N
  rw [← hy] at S1 S2 hc
  rw [← he] at L1 L2 N hc
  clear hx hy he e2
  simp -implicitDefEqProofs [c8]
  refine onC_mk _ awake23_spec ?_
  simp -implicitDefEqProofs
  refine onC_mk _ L1 ?_
  simp -implicitDefEqProofs
  refine onC_mk _ L2 ?_
  simp -implicitDefEqProofs
  refine onC_mk _ S1 ?_
  simp -implicitDefEqProofs
  refine onC_mk _ S2 ?_
  simp -implicitDefEqProofs
  rcases hc with ⟨rfl, rfl, h0⟩ | ⟨rfl, rfl⟩ | rfl | rfl
  · have N := N rfl h0
    simp -implicitDefEqProofs
    cases b' with
    | true =>
      have : (1000000 : Int) ≤ x := by have := N.1 (w2.1 (.inl rfl)); omega
      simp -implicitDefEqProofs [this]
    | false =>
      by_cases z : m' = 0 ∧ l' = 0
      · have : (1000000 : Int) ≤ x := by have := N.1 (w2.1 (.inr z)); omega
        simp -implicitDefEqProofs [this, z.1, z.2]
      · have : ¬ (1000000 : Int) ≤ x := by
          intro h
          have := w2.2 (N.2 (by omega))
          simp at this
          exact z this
        simp -implicitDefEqProofs [this]
        omega
  · simp -implicitDefEqProofs
  · simp -implicitDefEqProofs
  · simp -implicitDefEqProofs
end Go.Ai
