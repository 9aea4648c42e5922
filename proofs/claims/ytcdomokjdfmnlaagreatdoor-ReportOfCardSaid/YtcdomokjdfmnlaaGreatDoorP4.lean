/- YtcdomokjdfmnlaaGreatDoorP4: part of the abstract interpreter library (values, rules, soundness against the model) or of what a function of the seat computes. Conditions: as each theorem says. -/
import Derived.Test.YtcdomokjdfmnlaaGreatDoorP3
import Derived.Test.YtcdomokjdfmnlaaGreatDoorP2
set_option linter.unusedSimpArgs false
set_option linter.unusedVariables false
namespace Go.Ai
open Go.Proofs
/-- Two lists of bits as a number. -/
theorem to_spec (a b : List Bool) (ha : a.length ≤ 1000) (hb : b.length ≤ 1000) (h : ((val a : Int) - val b).natAbs < 340282366920938463463374607431768211456) :
    Sp Tryz.prog gl 171 [.agg [bl a, bl b]] (.tup [sgi ((val a : Int) - val b), .bool true]) := by
  refine s171 rfl rfl ?_
  have C := compare_spec a b (by omega) (by omega)
  have hcc : cmpN (val a) (val b) < 0 ↔ val a < val b := by
    unfold cmpN; split
    · omega
    · split <;> omega
  obtain ⟨cc, hc⟩ : ∃ cc, cc = cmpN (val a) (val b) := ⟨_, rfl⟩
  rw [← hc] at C hcc
  by_cases g : val a < val b
  · have P := pad_spec b a.length (by omega) (by omega)
    obtain ⟨p, hp⟩ : ∃ p, p = bitsOf (val b) (max b.length a.length) := ⟨_, rfl⟩
    have pl : p.length ≤ 1000 := by rw [hp, bitsOf_len]; omega
    have pv : val p = val b := by rw [hp, bitsOf_val, Nat.mod_eq_of_lt (Nat.lt_of_lt_of_le (val_lt b) (Nat.pow_le_pow_right (by omega) (by omega)))]
    rw [← hp] at P
    have M := minus_le p a (by omega) (by omega) (by omega)
    rw [pv] at M
    obtain ⟨q, hq⟩ : ∃ q, q = bitsOf (val b - val a) p.length := ⟨_, rfl⟩
    have ql : q.length ≤ 1000 := by rw [hq, bitsOf_len]; omega
    have qv : val q = val b - val a := by rw [hq, bitsOf_val, Nat.mod_eq_of_lt]; have := val_lt p; omega
    rw [← hq] at M
    have O := of_spec q (by omega)
    rw [qv, if_pos (by omega)] at O
    have e : sgi ((val a : Int) - val b) = sgn true (val b - val a) := by
      unfold sgi; rw [decide_eq_true (by omega), show ((val a : Int) - val b).natAbs = val b - val a by omega]
    rw [e]
    have gc := hcc.2 g
    unfold sgn wide at *
    generalize (val b - val a) / 18446744073709551616 = d1 at *
    generalize (val b - val a) % 18446744073709551616 = d2 at *
    clear e hq hp hc hcc pv qv h
    simp -implicitDefEqProofs [c171, bl]
    refine onC_mk _ C ?_
    simp -implicitDefEqProofs [gc]
    refine onC_mk _ P ?_
    simp -implicitDefEqProofs [bl]
    refine onC_mk _ M ?_
    simp -implicitDefEqProofs [bl]
    refine onC_mk _ O ?_
    simp -implicitDefEqProofs [gc]
  · have P := pad_spec a b.length (by omega) (by omega)
    obtain ⟨p, hp⟩ : ∃ p, p = bitsOf (val a) (max a.length b.length) := ⟨_, rfl⟩
    have pl : p.length ≤ 1000 := by rw [hp, bitsOf_len]; omega
    have pv : val p = val a := by rw [hp, bitsOf_val, Nat.mod_eq_of_lt (Nat.lt_of_lt_of_le (val_lt a) (Nat.pow_le_pow_right (by omega) (by omega)))]
    rw [← hp] at P
    have M := minus_le p b (by omega) (by omega) (by omega)
    rw [pv] at M
    obtain ⟨q, hq⟩ : ∃ q, q = bitsOf (val a - val b) p.length := ⟨_, rfl⟩
    have ql : q.length ≤ 1000 := by rw [hq, bitsOf_len]; omega
    have qv : val q = val a - val b := by rw [hq, bitsOf_val, Nat.mod_eq_of_lt]; have := val_lt p; omega
    rw [← hq] at M
    have O := of_spec q (by omega)
    rw [qv, if_pos (by omega)] at O
    have e : sgi ((val a : Int) - val b) = sgn false (val a - val b) := by
      unfold sgi; rw [decide_eq_false (by omega), show ((val a : Int) - val b).natAbs = val a - val b by omega]
    rw [e]
    have gc : ¬ cc < 0 := fun h => g (hcc.1 h)
    unfold sgn wide at *
    generalize (val a - val b) / 18446744073709551616 = d1 at *
    generalize (val a - val b) % 18446744073709551616 = d2 at *
    clear e hq hp hc hcc pv qv h
    simp -implicitDefEqProofs [c171, bl]
    refine onC_mk _ C ?_
    simp -implicitDefEqProofs [gc]
    refine onC_mk _ P ?_
    simp -implicitDefEqProofs [bl]
    refine onC_mk _ M ?_
    simp -implicitDefEqProofs [bl]
    refine onC_mk _ O ?_
    simp -implicitDefEqProofs [gc]
end Go.Ai
set_option linter.unusedSimpArgs false
set_option linter.unusedVariables false
namespace Go.Ai
open Go.Proofs
theorem rbits23_spec (x : Nat) (hx : x < 18446744073709551616) : Sp Tryz.prog gl 176 [u x] (bl (bitsOf x 128)) := by
  refine s176 rfl rfl ?_
  have B := bits_spec x (by omega)
  unfold wide at B
  rw [Nat.div_eq_of_lt hx, Nat.mod_eq_of_lt hx] at B
  simp -implicitDefEqProofs [c176]
  refine onC_mk _ B ?_
  simp -implicitDefEqProofs [bl]
theorem rmay23_spec (t g n : Nat) : Sp Tryz.prog gl 170 [u32 t, cnt g n] (i6 (mayN t g n)) := by
  refine s170 rfl rfl ?_
  by_cases h : 1000000 < t
  · simp -implicitDefEqProofs [c170, mayN, h, show (1000000 : Int) < t by omega]
  · by_cases h2 : n < g
    · simp -implicitDefEqProofs [c170, mayN, h, show ¬ (1000000 : Int) < t by omega, h2]
    · simp -implicitDefEqProofs [c170, mayN, h, show ¬ (1000000 : Int) < t by omega, h2]
/-- A product's bits. -/
def prL (x y : Nat) : List Bool := timesL [] (bitsOf x 128) (bitsOf y 128)
theorem prL_len (x y : Nat) : (prL x y).length ≤ 256 := by
  have := timesL_len [] (bitsOf x 128) (bitsOf y 128) (by simp)
  simp only [bitsOf_len] at this
  exact this
theorem prL_val (x y : Nat) (hx : x < 18446744073709551616) (hy : y < 18446744073709551616) : val (prL x y) = x * y := by
  unfold prL
  rw [timesL_val, bitsOf_val128 _ (by omega), bitsOf_val128 _ (by omega)]
  simp [val]
theorem pair_spec (t g n : Nat) (ht : t ≤ 1000000) (hg : g ≤ n) (hn : n < 18446744073709551616) : Sp Tryz.prog gl 172 [u32 t, cnt g n] (.agg [bl (prL n (1000000 - t)), bl (prL (n - g) 1000000)]) := by
  refine s172 rfl rfl ?_
  have B1 := rbits23_spec n hn
  have B2 := rbits23_spec (1000000 - t) (by omega)
  have B3 := rbits23_spec (n - g) (by omega)
  have B4 := rbits23_spec 1000000 (by omega)
  have T1 := times_spec_l (bitsOf n 128) (bitsOf (1000000 - t) 128) (by rw [bitsOf_len]; omega) (by rw [bitsOf_len]; omega)
  have T2 := times_spec_l (bitsOf (n - g) 128) (bitsOf 1000000 128) (by rw [bitsOf_len]; omega) (by rw [bitsOf_len]; omega)
  have w1 : IntKind.u64.wrap (IntKind.u32.wrap (1000000 - (t : Int))) = (1000000 - t : Nat) := by
    rw [wrap_u32 (by omega) (by omega), wrap_u64 (by omega) (by omega)]; omega
  have w2 : IntKind.u64.wrap ((n : Int) - g) = (n - g : Nat) := by rw [wrap_u64] <;> omega
  unfold prL
  generalize timesL [] (bitsOf n 128) (bitsOf (1000000 - t) 128) = l1 at *
  generalize timesL [] (bitsOf (n - g) 128) (bitsOf 1000000 128) = l2 at *
  generalize bitsOf n 128 = l3 at *
  generalize bitsOf (n - g) 128 = l4 at *
  generalize bitsOf (1000000 - t) 128 = l5 at *
  generalize bitsOf 1000000 128 = l6 at *
  simp -implicitDefEqProofs [c172]
  refine onC_mk _ B1 ?_
  simp -implicitDefEqProofs
  rw [w1]
  refine onC_mk _ B2 ?_
  simp -implicitDefEqProofs [bl]
  refine onC_mk _ T1 ?_
  simp -implicitDefEqProofs
  rw [w2]
  refine onC_mk _ B3 ?_
  simp -implicitDefEqProofs
  refine onC_mk _ B4 ?_
  simp -implicitDefEqProofs [bl]
  refine onC_mk _ T2 ?_
  simp -implicitDefEqProofs [bl]
theorem rleft_spec (t g n : Nat) (ht : t < 4294967296) (hn : n < 18446744073709551616) : Sp Tryz.prog gl 109 [u32 t, cnt g n] (.tup [sgi (leftZ t g n), i6 (mayN t g n)]) := by
  refine s109 rfl rfl ?_
  have M := rmay23_spec t g n
  by_cases h : mayN t g n = 0
  · have ht2 : t ≤ 1000000 := by unfold mayN at h; split at h <;> omega
    have hg : g ≤ n := by unfold mayN at h; (repeat' split at h) <;> omega
    have P := pair_spec t g n ht2 hg hn
    have v1 := prL_val n (1000000 - t) hn (by omega)
    have v2 := prL_val (n - g) 1000000 (by omega) (by omega)
    have k1 : n * (1000000 - t) ≤ 18446744073709551616 * 1000000 := Nat.mul_le_mul (by omega) (by omega)
    have k2 : (n - g) * 1000000 ≤ 18446744073709551616 * 1000000 := Nat.mul_le_mul (by omega) (by omega)
    have l1 := prL_len n (1000000 - t)
    have l2 := prL_len (n - g) 1000000
    have e : leftZ t g n = ((val (prL n (1000000 - t)) : Nat) : Int) - (val (prL (n - g) 1000000) : Nat) := by unfold leftZ; rw [if_pos h, v1, v2]
    have T := to_spec (prL n (1000000 - t)) (prL (n - g) 1000000) (by omega) (by omega) (by rw [v1, v2]; omega)
    rw [← e] at T
    obtain ⟨b', m', l', e2⟩ : ∃ b' m' l', sgi (leftZ t g n) = sg2 b' m' l' := ⟨_, _, _, rfl⟩
    rw [e2] at T ⊢
    rw [h] at M ⊢
    clear e e2 k1 k2 v1 v2 l1 l2
    generalize prL n (1000000 - t) = p1 at *
    generalize prL (n - g) 1000000 = p2 at *
    simp -implicitDefEqProofs [c109]
    refine onC_mk _ M ?_
    simp -implicitDefEqProofs
    refine onC_mk _ P ?_
    simp -implicitDefEqProofs [bl]
    refine onC_mk _ T ?_
    simp -implicitDefEqProofs
  · have e : leftZ t g n = 0 := by unfold leftZ; rw [if_neg h]
    have e2 : sgi 0 = sg2 false 0 0 := rfl
    rw [e, e2]
    have b1 : ((mayN t g n : Int) != 0) = true := by simp [h]
    simp -implicitDefEqProofs [c109]
    refine onC_mk _ M ?_
    simp -implicitDefEqProofs [b1]
theorem val_nil : val [] = 0 := rfl
theorem none_law (t g n : Nat) (h : mayN t g n = 0) (h0 : ¬ (n = 0 ∨ t = 1000000)) : leftZ t g n ≤ 0 ↔ 1000000 ≤ (spentN t g n).1 := by
  have ht2 : t ≤ 1000000 := by unfold mayN at h; split at h <;> omega
  have n0 : 0 < n := by omega
  have t0 : 0 < 1000000 - t := by omega
  unfold leftZ spentN
  rw [if_pos h, if_pos h, if_neg h0]
  simp only
  rw [Nat.div_div_eq_div_mul, Nat.le_div_iff_mul_le (Nat.mul_pos n0 t0)]
  obtain ⟨X, hX⟩ : ∃ X, X = n * (1000000 - t) := ⟨_, rfl⟩
  obtain ⟨Y, hY⟩ : ∃ Y, Y = (n - g) * 1000000 := ⟨_, rfl⟩
  rw [← hX, ← hY]
  omega
theorem spent_cases (t g n : Nat) : ((spentN t g n).2 = 0 ∧ mayN t g n = 0 ∧ ¬ (n = 0 ∨ t = 1000000)) ∨ ((spentN t g n).2 = 4 ∧ mayN t g n = 0) ∨ ((spentN t g n).2 = 8) ∨ ((spentN t g n).2 = 16) := by
  unfold spentN
  by_cases h : mayN t g n = 0
  · rw [if_pos h]
    by_cases h0 : n = 0 ∨ t = 1000000
    · rw [if_pos h0]; exact .inr (.inl ⟨rfl, h⟩)
    · rw [if_neg h0]; exact .inl ⟨rfl, h, h0⟩
  · rw [if_neg h]
    unfold mayN at h ⊢
    simp only
    (repeat' split) <;> simp_all
end Go.Ai
set_option linter.unusedSimpArgs false
set_option linter.unusedVariables false
namespace Go.Ai
open Go.Proofs
abbrev outl (k : Nat) (m l : Nat) : AV := .agg [i6 k, u m, u l]
def outw (k : Nat) (n : Nat) : AV := outl k (n / 18446744073709551616) (n % 18446744073709551616)
theorem scmp0_spec (b : Bool) (s : Nat) : ∃ c : Int, Sp Tryz.prog gl 167 [sgn b s, sg2 false 0 0] (i6 c) ∧ (c ≤ 0 ↔ (b = true ∨ s = 0)) := by
  have R1 := srt1 b s
  have R2 := srt1 false 0
  have C := xcompare_spec s 0
  have e2 : sgi (if false = true then -(0 : Nat) else (0 : Nat)) = sg2 false 0 0 := rfl
  have e3 : sgn false 0 = sg2 false 0 0 := rfl
  rw [e2, e3] at R2
  by_cases h : b = true ∧ s ≠ 0
  · obtain ⟨rfl, h⟩ := h
    have e1 : sgi (if true = true then -(s : Int) else s) = sgn true s := by unfold sgi; rw [if_pos rfl, decide_eq_true (by omega)]; simp
    rw [e1] at R1
    refine ⟨-1, ?_, by simp⟩
    refine s167 rfl rfl ?_
    unfold sgn wide at *
    generalize s / 18446744073709551616 = m at *
    generalize s % 18446744073709551616 = l at *
    simp -implicitDefEqProofs [c167]
    refine onC_mk _ R1 ?_
    simp -implicitDefEqProofs
    refine onC_mk _ R2 ?_
    simp -implicitDefEqProofs
  · have e1 : sgi (if b = true then -(s : Int) else s) = sgn false s := by
      unfold sgi
      cases b
      · rw [if_neg (by decide), decide_eq_false (by omega), Int.natAbs_natCast]
      · have : s = 0 := by simpa using h
        subst this; rfl
    rw [e1] at R1
    refine ⟨cmpN s 0, ?_, ?_⟩
    · refine s167 rfl rfl ?_
      have e4 : wide 0 = .agg [u 0, u 0] := rfl
      rw [e4] at C
      generalize cmpN s 0 = cc at *
      unfold sgn wide at *
      generalize s / 18446744073709551616 = m at *
      generalize s % 18446744073709551616 = l at *
      simp -implicitDefEqProofs [c167]
      refine onC_mk _ R1 ?_
      simp -implicitDefEqProofs
      refine onC_mk _ R2 ?_
      simp -implicitDefEqProofs
      refine onC_mk _ C ?_
      simp -implicitDefEqProofs
    · have : cmpN s 0 ≤ 0 ↔ s ≤ 0 := by
        unfold cmpN; split
        · omega
        · split <;> omega
      rw [this]
      cases b <;> simp at h ⊢ <;> omega
/-- The forecast: kind, ticks; the error. -/
def outN (b : Bool) (s bad : Nat) (w : Int) : (Nat × Nat) × Nat :=
  if w < 1 ∨ 34560000 < w then ((0, 0), 8) else if b = true ∨ s = 0 then ((0, 0), 0) else if bad = 0 then ((1, 0), 0)
  else if s * w.toNat < 340282366920938463463374607431768211456 then ((2, (s * w.toNat + bad * 1000000 - 1) / (bad * 1000000)), 0) else ((0, 0), 3)
theorem ceil_ceil (x a b : Nat) (ha : 0 < a) (hb : 0 < b) : ((x + a - 1) / a + b - 1) / b = (x + b * a - 1) / (b * a) := by
  have hab : 0 < b * a := Nat.mul_pos hb ha
  have key : ∀ y n : Nat, 0 < n → ∀ k, (y + n - 1) / n ≤ k ↔ y ≤ k * n := by
    intro y n hn k
    constructor
    · intro h
      have := (Nat.div_lt_iff_lt_mul hn).1 (Nat.lt_succ_of_le h)
      rw [Nat.succ_mul] at this
      omega
    · intro h
      apply Nat.le_of_lt_succ
      apply (Nat.div_lt_iff_lt_mul hn).2
      rw [Nat.succ_mul]
      omega
  have := fun k => (key _ b hb k).trans (key x a ha (k * b))
  have h2 := key x (b * a) hab
  apply Nat.le_antisymm
  · apply (this _).2; rw [Nat.mul_assoc]; exact (h2 _).1 (Nat.le_refl _)
  · apply (h2 _).2; rw [← Nat.mul_assoc]; exact (this _).1 (Nat.le_refl _)
set_option maxRecDepth 10000 in
theorem forecast_spec (b : Bool) (s bad : Nat) (w : Int) (hs : s < 340282366920938463463374607431768211456) (hb : bad < 18446744073709551616) (hw1 : -9223372036854775808 ≤ w) (hw2 : w < 9223372036854775808) :
    Sp Tryz.prog gl 106 [sgn b s, u bad, i6 w] (.tup [outw (outN b s bad w).1.1 (outN b s bad w).1.2, i6 (outN b s bad w).2]) := by
  refine s106 rfl rfl ?_
  obtain ⟨cc, C, hcc⟩ := scmp0_spec b s
  by_cases c1 : w < 1
  · have e : outN b s bad w = ((0, 0), 8) := by unfold outN; rw [if_pos (.inl c1)]
    rw [e]
    unfold sgn
    simp -implicitDefEqProofs [c106, c1, outw]
  by_cases c2 : 34560000 < w
  · have e : outN b s bad w = ((0, 0), 8) := by unfold outN; rw [if_pos (.inr c2)]
    rw [e]
    unfold sgn
    simp -implicitDefEqProofs [c106, c1, c2, outw]
  have e0 : ¬ (w < 1 ∨ 34560000 < w) := by omega
  by_cases c3 : b = true ∨ s = 0
  · have e : outN b s bad w = ((0, 0), 0) := by unfold outN; rw [if_neg e0, if_pos c3]
    have hc := hcc.2 c3
    rw [e]
    unfold sgn at *
    simp -implicitDefEqProofs [c106, c1, c2, outw]
    refine onC_mk _ C ?_
    simp -implicitDefEqProofs [hc]
  have hc : ¬ cc ≤ 0 := fun h => c3 (hcc.1 h)
  by_cases c4 : bad = 0
  · have e : outN b s bad w = ((1, 0), 0) := by unfold outN; rw [if_neg e0, if_neg c3, if_pos c4]
    rw [e]
    subst c4
    unfold sgn at *
    simp -implicitDefEqProofs [c106, c1, c2, outw]
    refine onC_mk _ C ?_
    simp -implicitDefEqProofs [hc]
  have b4 : ((bad : Int) == 0) = false := by simp [c4]
  have w1 : IntKind.u64.wrap w = (w.toNat : Int) := by rw [wrap_u64] <;> omega
  have M := xmore_spec s w.toNat hs (by omega)
  by_cases c5 : s * w.toNat < 340282366920938463463374607431768211456
  · have e : outN b s bad w = ((2, (s * w.toNat + bad * 1000000 - 1) / (bad * 1000000)), 0) := by unfold outN; rw [if_neg e0, if_neg c3, if_neg c4, if_pos c5]
    rw [e]
    rw [if_pos c5] at M
    have X1 := xceil_spec (s * w.toNat) 1000000 (by omega) c5 (by omega)
    have q1 : (s * w.toNat + 1000000 - 1) / 1000000 < 340282366920938463463374607431768211456 := by omega
    have X2 := xceil_spec ((s * w.toNat + 1000000 - 1) / 1000000) bad (by omega) q1 hb
    rw [ceil_ceil _ 1000000 bad (by omega) (by omega)] at X2
    obtain ⟨Y, hY⟩ : ∃ Y, Y = (s * w.toNat + 1000000 - 1) / 1000000 := ⟨_, rfl⟩
    rw [← hY] at X1 X2
    obtain ⟨Z, hZ⟩ : ∃ Z, Z = (s * w.toNat + bad * 1000000 - 1) / (bad * 1000000) := ⟨_, rfl⟩
    rw [← hZ] at X2 ⊢
    obtain ⟨V, hV⟩ : ∃ V, V = s * w.toNat := ⟨_, rfl⟩
    rw [← hV] at M X1
    clear hY hZ hV e c5 q1 hcc c3 e0 hs
    unfold sgn outw wide at *
    generalize s / 18446744073709551616 = s1 at *
    generalize s % 18446744073709551616 = s2 at *
    generalize V / 18446744073709551616 = v1 at *
    generalize V % 18446744073709551616 = v2 at *
    generalize Y / 18446744073709551616 = y1 at *
    generalize Y % 18446744073709551616 = y2 at *
    generalize Z / 18446744073709551616 = z1 at *
    generalize Z % 18446744073709551616 = z2 at *
    simp -implicitDefEqProofs [c106, c1, c2]
    refine onC_mk _ C ?_
    simp -implicitDefEqProofs [hc, b4]
    rw [w1]
    refine onC_mk _ M ?_
    simp -implicitDefEqProofs
    refine onC_mk _ X1 ?_
    simp -implicitDefEqProofs
    refine onC_mk _ X2 ?_
    simp -implicitDefEqProofs
  · have e : outN b s bad w = ((0, 0), 3) := by unfold outN; rw [if_neg e0, if_neg c3, if_neg c4, if_neg c5]
    rw [e]
    rw [if_neg c5] at M
    clear e c5 hcc c3 e0 hs
    have e4 : wide 0 = .agg [u 0, u 0] := rfl
    rw [e4] at M
    unfold sgn wide at *
    generalize s / 18446744073709551616 = s1 at *
    generalize s % 18446744073709551616 = s2 at *
    simp -implicitDefEqProofs [c106, c1, c2, outw]
    refine onC_mk _ C ?_
    simp -implicitDefEqProofs [hc, b4]
    rw [w1]
    refine onC_mk _ M ?_
    simp -implicitDefEqProofs
theorem oright_spec (k m l : Nat) : Sp Tryz.prog gl 165 [outl k m l] (.bool (if k = 0 ∨ k = 1 then decide (m = 0 ∧ l = 0) else decide (k = 2 ∧ ¬ (m = 0 ∧ l = 0)))) := by
  refine s165 rfl rfl ?_
  have em : ((m : Int) == 0) = decide (m = 0) := by rw [Bool.eq_iff_iff]; simp
  have el : ((l : Int) == 0) = decide (l = 0) := by rw [Bool.eq_iff_iff]; simp
  rcases (by omega : k = 0 ∨ k = 1 ∨ k = 2 ∨ 2 < k) with rfl | rfl | rfl | hk
  · simp -implicitDefEqProofs [c165, em, el]
  · simp -implicitDefEqProofs [c165, em, el]
  · simp -implicitDefEqProofs [c165, em, el]
  · simp -implicitDefEqProofs [c165, em, el, show ((k : Int) == 0) = false by simp; omega, show ((k : Int) == 1) = false by simp; omega, show ((k : Int) == 2) = false by simp; omega, show k ≠ 0 by omega, show k ≠ 1 by omega, show k ≠ 2 by omega]
end Go.Ai
set_option linter.unusedSimpArgs false
set_option linter.unusedVariables false
namespace Go.Ai
open Go.Proofs
def hasL (s w : Nat) : List Bool := timesL [] (bitsOf s 128) (bitsOf w 128)
theorem hasL_len (s w : Nat) : (hasL s w).length ≤ 256 := by
  have := timesL_len [] (bitsOf s 128) (bitsOf w 128) (by simp)
  simp only [bitsOf_len] at this
  exact this
theorem hasL_val (s w : Nat) (hs : s < 340282366920938463463374607431768211456) (hw : w < 18446744073709551616) : val (hasL s w) = s * w := by
  unfold hasL
  rw [timesL_val, bitsOf_val128 _ hs, bitsOf_val128 _ (by omega)]
  simp [val]
theorem has_spec (s : Nat) (w : Int) (hs : s < 340282366920938463463374607431768211456) (h0 : 0 ≤ w) (hw : w < 9223372036854775808) : Sp Tryz.prog gl 173 [wide s, i6 w] (bl (hasL s w.toNat)) := by
  refine s173 rfl rfl ?_
  have B := bits_spec s hs
  have B2 := rbits23_spec w.toNat (by omega)
  have T := times_spec_l (bitsOf s 128) (bitsOf w.toNat 128) (by rw [bitsOf_len]; omega) (by rw [bitsOf_len]; omega)
  have w1 : IntKind.u64.wrap w = (w.toNat : Int) := by rw [wrap_u64] <;> omega
  unfold hasL
  generalize timesL [] (bitsOf s 128) (bitsOf w.toNat 128) = l1 at *
  generalize bitsOf s 128 = l2 at *
  generalize bitsOf w.toNat 128 = l3 at *
  unfold wide at *
  simp -implicitDefEqProofs [c173]
  refine onC_mk _ B ?_
  simp -implicitDefEqProofs
  rw [w1]
  refine onC_mk _ B2 ?_
  simp -implicitDefEqProofs [bl]
  refine onC_mk _ T ?_
  simp -implicitDefEqProofs [bl]
def usedL (n bad : Nat) : List Bool := timesL [] (timesL [] (bitsOf n 128) (bitsOf bad 128)) (bitsOf 1000000 128)
theorem usedL_len (n bad : Nat) : (usedL n bad).length ≤ 384 := by
  have := timesL_len [] (bitsOf n 128) (bitsOf bad 128) (by simp)
  have h2 := timesL_len [] (timesL [] (bitsOf n 128) (bitsOf bad 128)) (bitsOf 1000000 128) (by simp)
  simp only [bitsOf_len] at this h2
  unfold usedL
  omega
theorem usedL_val (n bad : Nat) (hs : n < 340282366920938463463374607431768211456) (hw : bad < 18446744073709551616) : val (usedL n bad) = n * bad * 1000000 := by
  unfold usedL
  rw [timesL_val, timesL_val, bitsOf_val128 _ hs, bitsOf_val128 _ (by omega), bitsOf_val128 _ (by omega)]
  simp [val]
theorem ceil_parts (x d : Nat) (hd : 0 < d) : (x + d - 1) / d = if x % d = 0 then x / d else x / d + 1 := by
  have e := Nat.div_add_mod x d
  have hr := Nat.mod_lt x hd
  split
  · apply Nat.div_eq_of_lt_le
    · rw [Nat.mul_comm]; omega
    · rw [Nat.add_mul, Nat.mul_comm]; omega
  · apply Nat.div_eq_of_lt_le
    · rw [Nat.add_mul, Nat.mul_comm]; omega
    · rw [Nat.add_mul, Nat.add_mul, Nat.mul_comm]; omega
set_option maxRecDepth 10000 in
theorem rforecast_spec (b : Bool) (s bad : Nat) (w : Int) (hs : s < 340282366920938463463374607431768211456) (hb : bad < 18446744073709551616) (hw1 : -9223372036854775808 ≤ w) (hw2 : w < 9223372036854775808) :
    Sp Tryz.prog gl 110 [sgn b s, u bad, i6 w] (.tup [outw (outN b s bad w).1.1 (outN b s bad w).1.2, i6 (outN b s bad w).2]) := by
  refine s110 rfl rfl ?_
  by_cases c1 : w < 1
  · have e : outN b s bad w = ((0, 0), 8) := by unfold outN; rw [if_pos (.inl c1)]
    rw [e]
    unfold sgn
    simp -implicitDefEqProofs [c110, c1, outw]
  by_cases c2 : 34560000 < w
  · have e : outN b s bad w = ((0, 0), 8) := by unfold outN; rw [if_pos (.inr c2)]
    rw [e]
    unfold sgn
    simp -implicitDefEqProofs [c110, c1, c2, outw]
  have e0 : ¬ (w < 1 ∨ 34560000 < w) := by omega
  by_cases c3 : b = true ∨ s = 0
  · have e : outN b s bad w = ((0, 0), 0) := by unfold outN; rw [if_neg e0, if_pos c3]
    rw [e]
    unfold sgn at *
    rcases c3 with rfl | rfl
    · simp -implicitDefEqProofs [c110, c1, c2, outw]
    · cases b
      · simp -implicitDefEqProofs [c110, c1, c2, outw]
      · simp -implicitDefEqProofs [c110, c1, c2, outw]
  have hbf : b = false := by cases b; rfl; exact absurd (.inl rfl) c3
  have hsz : s ≠ 0 := fun h => c3 (.inr h)
  have bz : (((s / 18446744073709551616 : Nat) : Int) == 0 && ((s % 18446744073709551616 : Nat) : Int) == 0) = false := by
    have h := nz_iff s
    have : ¬ (s / 18446744073709551616 = 0 ∧ s % 18446744073709551616 = 0) := fun q => hsz (h.1 q)
    rw [Bool.and_eq_false_iff]
    simp only [beq_eq_false_iff_ne, ne_eq, Int.natCast_eq_zero]
    omega
  by_cases c4 : bad = 0
  · have e : outN b s bad w = ((1, 0), 0) := by unfold outN; rw [if_neg e0, if_neg c3, if_pos c4]
    rw [e]
    subst c4 hbf
    clear c3 e
    unfold sgn at *
    generalize s / 18446744073709551616 = s1 at *
    generalize s % 18446744073709551616 = s2 at *
    simp -implicitDefEqProofs [c110, c1, c2, outw, bz]
  have b4 : ((bad : Int) == 0) = false := by simp [c4]
  have H := has_spec s w hs (by omega) hw2
  have hl := hasL_len s w.toNat
  have hv := hasL_val s w.toNat hs (by omega)
  obtain ⟨h, hh⟩ : ∃ h, h = hasL s w.toNat := ⟨_, rfl⟩
  rw [← hh] at H hl hv
  clear hh
  have O := of_spec h (by omega)
  rw [hv] at O
  by_cases c5 : s * w.toNat < 340282366920938463463374607431768211456
  · have e : outN b s bad w = ((2, (s * w.toNat + bad * 1000000 - 1) / (bad * 1000000)), 0) := by unfold outN; rw [if_neg e0, if_neg c3, if_neg c4, if_pos c5]
    rw [e]
    rw [if_pos c5] at O
    have d0 : 0 < bad * 1000000 := Nat.mul_pos (by omega) (by omega)
    have B1 := rbits23_spec bad hb
    have B2 := rbits23_spec 1000000 (by omega)
    have T := times_spec_l (bitsOf bad 128) (bitsOf 1000000 128) (by rw [bitsOf_len]; omega) (by rw [bitsOf_len]; omega)
    have pl := prL_len bad 1000000
    have pv := prL_val bad 1000000 hb (by omega)
    unfold prL at pl pv
    obtain ⟨p, hp⟩ : ∃ p, p = timesL [] (bitsOf bad 128) (bitsOf 1000000 128) := ⟨_, rfl⟩
    rw [← hp] at T pl pv
    clear hp
    have D := divide_spec h p (by omega) (by omega) (by omega)
    rw [hv, pv] at D
    have cp := ceil_parts (s * w.toNat) (bad * 1000000) d0
    obtain ⟨Z, hZ⟩ : ∃ Z, Z = (s * w.toNat + bad * 1000000 - 1) / (bad * 1000000) := ⟨_, rfl⟩
    rw [← hZ] at cp ⊢
    have q1 : s * w.toNat / (bad * 1000000) ≤ s * w.toNat := Nat.div_le_self _ _
    have r1 : s * w.toNat % (bad * 1000000) ≤ s * w.toNat := Nat.mod_le _ _
    have hlt := val_lt h
    rw [hv] at hlt
    obtain ⟨q, hq⟩ : ∃ q, q = bitsOf (s * w.toNat / (bad * 1000000)) h.length := ⟨_, rfl⟩
    obtain ⟨r, hr⟩ : ∃ r, r = bitsOf (s * w.toNat % (bad * 1000000)) h.length := ⟨_, rfl⟩
    have qv : val q = s * w.toNat / (bad * 1000000) := by rw [hq, bitsOf_val, Nat.mod_eq_of_lt (by omega)]
    have rv : val r = s * w.toNat % (bad * 1000000) := by rw [hr, bitsOf_val, Nat.mod_eq_of_lt (by omega)]
    have ql : q.length ≤ 256 := by rw [hq, bitsOf_len]; omega
    have rl : r.length ≤ 256 := by rw [hr, bitsOf_len]; omega
    rw [← hq, ← hr] at D
    have C := compare_spec r [] (by omega) (by simp)
    rw [val_nil] at C
    have Oq := of_spec q (by omega)
    have Pl := plus_spec q [true] (by omega) (by simp)
    have plv := plusL_val q [true] false
    have pll := plusL_len q [true] false
    have Op := of_spec (plusL q [true] false) (by simp only [List.length_singleton] at pll; omega)
    rw [plv] at Op
    obtain ⟨q2, hq2⟩ : ∃ q2, q2 = plusL q [true] false := ⟨_, rfl⟩
    rw [← hq2] at Pl Op
    have v1 : val [true] = 1 := rfl
    rw [v1] at Op
    have hvw : wide (s * w.toNat) = .agg [u (s * w.toNat / 18446744073709551616), u (s * w.toNat % 18446744073709551616)] := rfl
    rw [hvw] at O
    by_cases c6 : val r = 0
    · rw [c6] at C
      have c0 : cmpN 0 0 = 0 := rfl
      rw [c0] at C
      have : val q = Z := by rw [cp, if_pos (by omega), qv]
      rw [this, if_pos (by omega)] at Oq
      clear hq hr hq2 hZ cp q1 r1 hlt qv rv plv pll Pl Op hv hvw c5 e this pv c6
      subst hbf
      unfold sgn outw wide at *
      generalize s * w.toNat / 18446744073709551616 = x1 at *
      generalize s * w.toNat % 18446744073709551616 = x2 at *
      generalize s / 18446744073709551616 = s1 at *
      generalize s % 18446744073709551616 = s2 at *
      generalize Z / 18446744073709551616 = z1 at *
      generalize Z % 18446744073709551616 = z2 at *
      generalize bitsOf bad 128 = l3 at *
      generalize bitsOf 1000000 128 = l4 at *
      simp -implicitDefEqProofs [c110, c1, c2, bz, b4]
      refine onC_mk _ H ?_
      simp -implicitDefEqProofs [bl]
      refine onC_mk _ O ?_
      simp -implicitDefEqProofs
      refine onC_mk _ B1 ?_
      simp -implicitDefEqProofs
      refine onC_mk _ B2 ?_
      simp -implicitDefEqProofs [bl]
      refine onC_mk _ T ?_
      simp -implicitDefEqProofs [bl]
      refine onC_mk _ D ?_
      simp -implicitDefEqProofs [bl]
      refine onC_mk _ C ?_
      simp -implicitDefEqProofs
      refine onC_mk _ Oq ?_
      simp -implicitDefEqProofs
    · have c0 : cmpN (val r) 0 = 1 := by unfold cmpN; rw [if_neg (by omega), if_neg c6]
      rw [c0] at C
      have : val q + 1 + false.toNat = Z := by rw [cp, if_neg (by omega), qv]; rfl
      have hZ2 : Z < 340282366920938463463374607431768211456 := by
        rw [cp, if_neg (by omega)]
        have := Nat.div_add_mod (s * w.toNat) (bad * 1000000)
        have h3 : s * w.toNat / (bad * 1000000) * 1 ≤ bad * 1000000 * (s * w.toNat / (bad * 1000000)) := by rw [Nat.mul_comm (bad * 1000000)]; exact Nat.mul_le_mul (Nat.le_refl _) d0
        omega
      rw [this, if_pos hZ2] at Op
      clear hq hr hq2 hZ hZ2 cp q1 r1 hlt qv rv plv pll Oq hv hvw c5 e this pv c6 c0
      subst hbf
      unfold sgn outw wide at *
      generalize s * w.toNat / 18446744073709551616 = x1 at *
      generalize s * w.toNat % 18446744073709551616 = x2 at *
      generalize s / 18446744073709551616 = s1 at *
      generalize s % 18446744073709551616 = s2 at *
      generalize Z / 18446744073709551616 = z1 at *
      generalize Z % 18446744073709551616 = z2 at *
      generalize bitsOf bad 128 = l3 at *
      generalize bitsOf 1000000 128 = l4 at *
      simp -implicitDefEqProofs [c110, c1, c2, bz, b4]
      refine onC_mk _ H ?_
      simp -implicitDefEqProofs [bl]
      refine onC_mk _ O ?_
      simp -implicitDefEqProofs
      refine onC_mk _ B1 ?_
      simp -implicitDefEqProofs
      refine onC_mk _ B2 ?_
      simp -implicitDefEqProofs [bl]
      refine onC_mk _ T ?_
      simp -implicitDefEqProofs [bl]
      refine onC_mk _ D ?_
      simp -implicitDefEqProofs [bl]
      refine onC_mk _ C ?_
      simp -implicitDefEqProofs
      refine onC_mk _ Pl ?_
      simp -implicitDefEqProofs [bl]
      refine onC_mk _ Op ?_
      simp -implicitDefEqProofs
  · have e : outN b s bad w = ((0, 0), 3) := by unfold outN; rw [if_neg e0, if_neg c3, if_neg c4, if_neg c5]
    rw [e]
    rw [if_neg c5] at O
    clear e c5 e0 hs hv
    have e4 : wide 0 = .agg [u 0, u 0] := rfl
    rw [e4] at O
    subst hbf
    clear c3
    unfold sgn wide at *
    generalize s / 18446744073709551616 = s1 at *
    generalize s % 18446744073709551616 = s2 at *
    simp -implicitDefEqProofs [c110, c1, c2, outw, bz, b4]
    refine onC_mk _ H ?_
    simp -implicitDefEqProofs [bl]
    refine onC_mk _ O ?_
    simp -implicitDefEqProofs
end Go.Ai
set_option linter.unusedSimpArgs false
set_option linter.unusedVariables false
namespace Go.Ai
open Go.Proofs
/-! ### Views and reports, no program in sight -/
structure WV where
  w : Int
  g : Nat
  n : Nat
structure Al where
  ph : Int
  si : Int
  cl : Int
  e : Nat
structure GV where
  g : Gl
  st : Bool
  ws : List WV
  fr : Int
  to : Int
  cg : Nat
  cn : Nat
  al : List Al
structure RRp where
  n : List UInt8
  p : Bool
  ph : Int
  l : Nat
  s : Nat
structure GRp where
  n : List UInt8
  st : Bool
  ro : Int
  ca : Int
  ok : Nat
  ot : Nat
  rs : List RRp
def WV.row (x : WV) : List AV := [i6 x.w, u x.g, u x.n]
def Al.row (x : Al) : List AV := [i6 x.ph, i6 x.si, i6 x.cl, u x.e]
def GV.row (x : GV) : List AV := [.str x.g.n, .int .u32 x.g.t, i6 x.g.g, i6 x.g.a, i6 x.g.o, i6 x.g.c, .sl (x.g.lb.map Lb.row), .sl (x.g.ru.map Ru.row), .bool x.st, .sl (x.ws.map WV.row), i6 x.fr, i6 x.to, u x.cg, u x.cn, .sl (x.al.map Al.row)]
def RRp.row (x : RRp) : List AV := [.str x.n, .bool x.p, i6 x.ph, u x.l, u x.s]
def sgC (z : Int) : List AV := [.bool (decide (z < 0)), u (z.natAbs / 18446744073709551616), u (z.natAbs % 18446744073709551616)]
theorem sgi_C (z : Int) : sgi z = .agg (sgC z) := rfl
def GRp.row (x : GRp) : List AV := [.str x.n, .bool x.st, .bool (decide (x.ro < 0)), u (x.ro.natAbs / 18446744073709551616), u (x.ro.natAbs % 18446744073709551616), .bool (decide (x.ca < 0)), u (x.ca.natAbs / 18446744073709551616), u (x.ca.natAbs % 18446744073709551616),
  i6 x.ok, u (x.ot / 18446744073709551616), u (x.ot % 18446744073709551616), .sl (x.rs.map RRp.row)]
def wvok (ws : List WV) : Prop := ∀ x ∈ ws, x.g < 18446744073709551616 ∧ x.n < 18446744073709551616
def cntOf : List WV → Int → Nat × Nat
  | [], _ => (0, 0)
  | x :: r, w => if x.w = w then (if x.n < x.g then (0, 0) else (x.g, x.n)) else cntOf r w
theorem cntOf_ok {ws : List WV} (h : wvok ws) (w : Int) : (cntOf ws w).1 ≤ (cntOf ws w).2 ∧ (cntOf ws w).2 < 18446744073709551616 := by
  induction ws with
  | nil => simp [cntOf]
  | cons x r ih =>
    simp only [cntOf]
    split
    · split
      · simp
      · exact ⟨by simp only; omega, (h x (by simp)).2⟩
    · exact ih (fun y hy => h y (by simp [hy]))
theorem wv_at (ws : List WV) (i : Nat) (h : i < ws.length) (h2 : i < (ws.map WV.row).length) : (ws.map WV.row)[i] = [i6 ws[i].w, u ws[i].g, u ws[i].n] := by simp [WV.row]
set_option maxRecDepth 20000 in
theorem count_spec (x : GV) (w : Int) (hn : x.ws.length ≤ 1000000) : Sp Tryz.prog gl 105 [.agg x.row, i6 w] (cnt (cntOf x.ws w).1 (cntOf x.ws w).2) := by
  refine s105 rfl rfl ?_
  obtain ⟨R, hR⟩ : ∃ R, R = cnt (cntOf x.ws w).1 (cntOf x.ws w).2 := ⟨_, rfl⟩
  rw [← hR]
  obtain ⟨g, st, ws, fr, to, cg, cn, al⟩ := x
  simp only at hR hn
  unfold GV.row
  simp only
  have rl : (ws.map WV.row).length = ws.length := by simp
  have rat := wv_at ws
  simp -implicitDefEqProofs [c105]
  refine wp_lpk (α := Nat) (fun i => ⟨[(1, i6 w), (4, .ptr (.n 4) 0), (8, .sl (ws.map WV.row)), (9, i6 ws.length), (10, i6 i)], [(.n 4, [u 0, u 0])], []⟩)
    (fun i => i ≤ ws.length ∧ cnt (cntOf (ws.drop i) w).1 (cntOf (ws.drop i) w).2 = R) (fun i => ws.length - i) ?_ 0 ?_ ?_
  · rintro K i hK ⟨h1, h2⟩
    by_cases gi : i < ws.length
    · obtain ⟨a, ha⟩ : ∃ a, ws[i] = a := ⟨_, rfl⟩
      have t1 : IntKind.i64.wrap ((i : Int) + 1) = (i + 1 : Nat) := by rw [wrap_i64] <;> omega
      have gR : i < (ws.map WV.row).length := by omega
      have ra := rat i gi gR
      rw [List.drop_eq_getElem_cons gi, cntOf, ha] at h2
      rw [ha] at ra
      by_cases e : a.w = w
      · rw [if_pos e] at h2
        have e' : (a.w != w) = false := by simp [e]
        by_cases c : a.n < a.g
        · rw [if_pos c] at h2
          have c' : (a.n : Int) < a.g := by omega
          subst h2
          clear hK hR
          generalize ws.map WV.row = RW at *
          simp -implicitDefEqProofs [gi, gR, ra, e', c', cnt]
        · rw [if_neg c] at h2
          have c' : ¬ (a.n : Int) < a.g := by omega
          subst h2
          clear hK hR
          generalize ws.map WV.row = RW at *
          simp -implicitDefEqProofs [gi, gR, ra, e', c', cnt]
      · rw [if_neg e] at h2
        have e' : (a.w != w) = true := by simp [e]
        have fin : ∀ σ', Weak σ' ⟨[(1, i6 w), (4, .ptr (.n 4) 0), (8, .sl (ws.map WV.row)), (9, i6 ws.length), (10, i6 (i + 1 : Nat))], [(.n 4, [u 0, u 0])], []⟩ → K σ' :=
          fun σ' hσ => hK (i + 1) σ' ⟨by omega, h2⟩ (by omega) hσ
        clear hK hR h2
        generalize ws.map WV.row = RW at *
        simp -implicitDefEqProofs [gi, gR, ra, e']
        refine fin _ (weak_mk ?_ ?_ ?_ ?_ ?_ ?_) <;> simp -implicitDefEqProofs [t1]
    · obtain rfl : i = ws.length := by omega
      rw [List.drop_length] at h2
      simp only [cntOf] at h2
      subst h2
      clear hK hR
      simp -implicitDefEqProofs [cnt]
  · exact ⟨Nat.zero_le _, hR.symm⟩
  · refine weak_mk ?_ ?_ ?_ ?_ ?_ ?_ <;> simp -implicitDefEqProofs
set_option maxRecDepth 20000 in
theorem rcount_spec (x : GV) (w : Int) (hn : x.ws.length ≤ 1000000) : Sp Tryz.prog gl 108 [.agg x.row, i6 w] (cnt (cntOf x.ws w).1 (cntOf x.ws w).2) := by
  refine s108 rfl rfl ?_
  obtain ⟨R, hR⟩ : ∃ R, R = cnt (cntOf x.ws w).1 (cntOf x.ws w).2 := ⟨_, rfl⟩
  rw [← hR]
  obtain ⟨g, st, ws, fr, to, cg, cn, al⟩ := x
  simp only at hR hn
  unfold GV.row
  simp only
  generalize hM : [AV.str g.n, .int .u32 g.t, i6 g.g, i6 g.a, i6 g.o, i6 g.c, .sl (g.lb.map Lb.row), .sl (g.ru.map Ru.row), .bool st, .sl (ws.map WV.row), i6 fr, i6 to, u cg, u cn, .sl (al.map Al.row)] = M
  have hM9 : M[9]? = some (.sl (ws.map WV.row)) := by subst hM; rfl
  have hM0 : idsL M = [] := by subst hM; rfl
  simp -implicitDefEqProofs [c108]
  have rl : (ws.map WV.row).length = ws.length := by simp
  have rat := wv_at ws
  clear hM
  refine wp_lpk (α := Nat) (fun i => ⟨[(1, i6 w), (2, .ptr (.n 2) 0), (4, .ptr (.n 4) 0), (5, i6 i)], [(.n 4, [u 0, u 0]), (.n 2, M)], []⟩)
    (fun i => i ≤ ws.length ∧ cnt (cntOf (ws.drop i) w).1 (cntOf (ws.drop i) w).2 = R) (fun i => ws.length - i) ?_ 0 ?_ ?_
  · rintro K i hK ⟨h1, h2⟩
    by_cases gi : i < ws.length
    · obtain ⟨a, ha⟩ : ∃ a, ws[i] = a := ⟨_, rfl⟩
      have t1 : IntKind.i64.wrap ((i : Int) + 1) = (i + 1 : Nat) := by rw [wrap_i64] <;> omega
      have gR : i < (ws.map WV.row).length := by omega
      have ra := rat i gi gR
      rw [List.drop_eq_getElem_cons gi, cntOf, ha] at h2
      rw [ha] at ra
      by_cases e : a.w = w
      · rw [if_pos e] at h2
        have e' : (a.w == w) = true := by simp [e]
        by_cases c : a.n < a.g
        · rw [if_pos c] at h2
          have c' : (a.n : Int) < a.g := by omega
          subst h2
          clear hK hR
          generalize ws.map WV.row = RW at *
          simp -implicitDefEqProofs [gi, gR, ra, e', c', cnt, hM9, rl]
        · rw [if_neg c] at h2
          have c' : ¬ (a.n : Int) < a.g := by omega
          subst h2
          clear hK hR
          generalize ws.map WV.row = RW at *
          simp -implicitDefEqProofs [gi, gR, ra, e', c', cnt, hM9, rl]
      · rw [if_neg e] at h2
        have e' : (a.w == w) = false := by simp [e]
        have fin : ∀ σ', Weak σ' ⟨[(1, i6 w), (2, .ptr (.n 2) 0), (4, .ptr (.n 4) 0), (5, i6 (i + 1 : Nat))], [(.n 4, [u 0, u 0]), (.n 2, M)], []⟩ → K σ' :=
          fun σ' hσ => hK (i + 1) σ' ⟨by omega, h2⟩ (by omega) hσ
        clear hK hR h2
        generalize ws.map WV.row = RW at *
        simp -implicitDefEqProofs [gi, gR, ra, e', hM9, rl]
        refine fin _ (weak_mk ?_ ?_ ?_ ?_ ?_ ?_) <;> simp -implicitDefEqProofs [t1, hM0]
    · obtain rfl : i = ws.length := by omega
      rw [List.drop_length] at h2
      simp only [cntOf] at h2
      subst h2
      clear hK hR
      generalize ws.map WV.row = RW at *
      simp -implicitDefEqProofs [cnt, hM9, rl]
  · exact ⟨Nat.zero_le _, hR.symm⟩
  · refine weak_mk ?_ ?_ ?_ ?_ ?_ ?_ <;> simp -implicitDefEqProofs [hM0]
/-! ### The least of the short windows -/
def leastGo (m : Int) (l : List Ru) : Int := l.foldl (fun m x => if x.s < m then x.s else m) m
def leastOf : List Ru → Int
  | [] => 0
  | x :: r => leastGo x.s r
def ruok (l : List Ru) : Prop := ∀ x ∈ l, -9223372036854775808 ≤ x.s ∧ x.s ≤ 9223372036854775807
theorem leastGo_b : ∀ (l : List Ru) (m : Int), ruok l → -9223372036854775808 ≤ m → m ≤ 9223372036854775807 → -9223372036854775808 ≤ leastGo m l ∧ leastGo m l ≤ 9223372036854775807
  | [], m, _, h1, h2 => ⟨h1, h2⟩
  | x :: r, m, h, h1, h2 => by
    have hx := h x (by simp)
    unfold leastGo
    rw [List.foldl_cons]
    refine leastGo_b r _ (fun y hy => h y (by simp [hy])) ?_ ?_ <;> split <;> omega
theorem leastOf_b (l : List Ru) (h : ruok l) : -9223372036854775808 ≤ leastOf l ∧ leastOf l < 9223372036854775808 := by
  cases l with
  | nil => simp [leastOf]
  | cons x r =>
    have hx := h x (by simp)
    have := leastGo_b r x.s (fun y hy => h y (by simp [hy])) hx.1 hx.2
    exact ⟨this.1, by have := this.2; simp only [leastOf]; omega⟩
theorem leastGo_take (m : Int) (l : List Ru) (i : Nat) (h : i < l.length) : leastGo m (l.take (i + 1)) = if l[i].s < leastGo m (l.take i) then l[i].s else leastGo m (l.take i) := by
  unfold leastGo
  rw [List.take_succ_eq_append_getElem h, List.foldl_append]; rfl
theorem leastGo_max (l : List Ru) (h : ruok l) (hl : l ≠ []) : leastGo 9223372036854775807 l = leastOf l := by
  cases l with
  | nil => exact absurd rfl hl
  | cons x r =>
    have hx := h x (by simp)
    unfold leastGo leastOf leastGo
    rw [List.foldl_cons]
    congr 1
    split <;> omega
theorem ru_at (l : List Ru) (i : Nat) (h : i < l.length) (h2 : i < (l.map Ru.row).length) : (l.map Ru.row)[i] = [.str l[i].n, .bool l[i].p, i6 l[i].l, i6 l[i].s, u l[i].f, i6 l[i].w, i6 l[i].k] := by simp [Ru.row]
set_option maxRecDepth 20000 in
theorem least_spec (l : List Ru) (hn : l.length ≤ 1000000) (hl : ruok l) : Sp Tryz.prog gl 104 [.sl (l.map Ru.row)] (i6 (leastOf l)) := by
  refine s104 rfl rfl ?_
  by_cases h0 : l = []
  · subst h0
    simp -implicitDefEqProofs [c104, leastOf]
  · have hlen : ((l.length : Int) == 0) = false := by
      rw [beq_eq_false_iff_ne]
      have := List.length_pos_iff.2 h0
      omega
    rw [← leastGo_max l hl h0]
    obtain ⟨R, hR⟩ : ∃ R, R = leastGo 9223372036854775807 l := ⟨_, rfl⟩
    rw [← hR]
    have rat := ru_at l
    simp -implicitDefEqProofs [c104, hlen]
    refine wp_lpk (α := Nat) (fun i => ⟨[(3, i6 (leastGo 9223372036854775807 (l.take i))), (9, .sl (l.map Ru.row)), (10, i6 l.length), (11, i6 i)], [], []⟩)
      (fun i => i ≤ l.length) (fun i => l.length - i) ?_ 0 ?_ ?_
    · rintro K i hK h1
      by_cases gi : i < l.length
      · have t1 : IntKind.i64.wrap ((i : Int) + 1) = (i + 1 : Nat) := by rw [wrap_i64] <;> omega
        have gR : i < (l.map Ru.row).length := by simpa using gi
        have ra := rat i gi gR
        have lt := leastGo_take 9223372036854775807 l i gi
        have fin : ∀ σ', Weak σ' ⟨[(3, i6 (leastGo 9223372036854775807 (l.take (i + 1)))), (9, .sl (l.map Ru.row)), (10, i6 l.length), (11, i6 (i + 1 : Nat))], [], []⟩ → K σ' :=
          fun σ' hσ => hK (i + 1) σ' (by omega) (by omega) hσ
        rw [lt] at fin
        clear hK hR lt
        generalize leastGo 9223372036854775807 (l.take i) = M at *
        generalize l[i] = a at *
        generalize l.map Ru.row = RW at *
        simp -implicitDefEqProofs [gi, gR, ra]
        refine fin _ (weak_mk ?_ ?_ ?_ ?_ ?_ ?_) <;> simp -implicitDefEqProofs [t1]
      · obtain rfl : i = l.length := by omega
        rw [List.take_length, ← hR]
        clear hK
        simp -implicitDefEqProofs
    · exact Nat.zero_le _
    · refine weak_mk ?_ ?_ ?_ ?_ ?_ ?_ <;> simp -implicitDefEqProofs [leastGo]
end Go.Ai
set_option linter.unusedSimpArgs false
set_option linter.unusedVariables false
namespace Go.Ai
open Go.Proofs
def phOf (al : List Al) (i : Nat) : Int := match al[i]? with
  | some a => a.ph
  | none => 0
def ruleOf (x : GV) (i : Nat) (r : Ru) : RRp :=
  ⟨r.n, r.p, phOf x.al i, if x.st = true then 0 else (rateN x.g.t (cntOf x.ws r.l).1 (cntOf x.ws r.l).2).1, if x.st = true then 0 else (rateN x.g.t (cntOf x.ws r.s).1 (cntOf x.ws r.s).2).1⟩
def ruAt (l : List Ru) (i : Nat) : Ru := l.getD i ⟨[], false, 0, 0, 0, 0, 0⟩
theorem ruAt_get (l : List Ru) (i : Nat) (h : i < l.length) : ruAt l i = l[i] := by simp [ruAt, h]
def rulesTo (x : GV) : Nat → List RRp
  | 0 => []
  | i + 1 => rulesTo x i ++ [ruleOf x i (ruAt x.g.ru i)]
theorem rulesTo_len (x : GV) : ∀ i, (rulesTo x i).length = i
  | 0 => rfl
  | i + 1 => by simp [rulesTo, rulesTo_len x i]
def rulesOf (x : GV) : List RRp := rulesTo x x.g.ru.length
structure GVok (x : GV) : Prop where
  t : x.g.t < 4294967296
  ws : wvok x.ws
  cg : x.cg < 18446744073709551616
  cn : x.cn < 18446744073709551616
  ru : ruok x.g.ru
  nw : x.ws.length ≤ 1000000
  nr : x.g.ru.length ≤ 1000
  na : x.al.length ≤ 1000000
theorem al_at (l : List Al) (i : Nat) (h : i < l.length) (h2 : i < (l.map Al.row).length) : (l.map Al.row)[i] = [i6 l[i].ph, i6 l[i].si, i6 l[i].cl, u l[i].e] := by simp [Al.row]
theorem GV_row (x : GV) : x.row = [.str x.g.n, .int .u32 x.g.t, i6 x.g.g, i6 x.g.a, i6 x.g.o, i6 x.g.c, .sl (x.g.lb.map Lb.row), .sl (x.g.ru.map Ru.row), .bool x.st, .sl (x.ws.map WV.row), i6 x.fr, i6 x.to, u x.cg, u x.cn, .sl (x.al.map Al.row)] := rfl
theorem rr5 (l : List RRp) : ∀ r ∈ l.map RRp.row, r.length = 5 := by
  intro r hr
  obtain ⟨_, _, rfl⟩ := List.mem_map.1 hr
  rfl
theorem RRp_row (x : RRp) : x.row = [.str x.n, .bool x.p, i6 x.ph, u x.l, u x.s] := rfl
set_option maxRecDepth 20000 in
theorem rules_spec (x : GV) (ok : GVok x) : Sp Tryz.prog gl 102 [.agg x.row] (.sl ((rulesOf x).map RRp.row)) := by
  refine s102 rfl rfl ?_
  obtain ⟨R, hR⟩ : ∃ R, R = (rulesOf x).map RRp.row := ⟨_, rfl⟩
  rw [← hR]
  have CS := fun w => count_spec x w ok.nw
  have RS := fun w => rate_spec x.g.t (cntOf x.ws w).1 (cntOf x.ws w).2 ok.t (by have := cntOf_ok ok.ws w; omega) (cntOf_ok ok.ws w).2
  obtain ⟨M, hM⟩ : ∃ M, M = x.row := ⟨_, rfl⟩
  rw [← hM] at CS ⊢
  have hM1 : ∀ h : 1 < M.length, M[1] = (u32 x.g.t) := by intro h; subst hM; rfl
  have hM7 : ∀ h : 7 < M.length, M[7] = (.sl (x.g.ru.map Ru.row)) := by intro h; subst hM; rfl
  have hM8 : ∀ h : 8 < M.length, M[8] = (.bool x.st) := by intro h; subst hM; rfl
  have hM14 : ∀ h : 14 < M.length, M[14] = (.sl (x.al.map Al.row)) := by intro h; subst hM; rfl
  have hMl : M.length = 15 := by subst hM; rfl
  have hMt : M.take 15 = M := List.take_of_length_le (by omega)
  have hM0 : idsL M = [] := by subst hM; rfl
  have hMs : shutL M = some M := by subst hM; rfl
  have hlim : lim = 140737488355328 := rfl
  have nr := ok.nr
  have na := ok.na
  clear hM
  simp -implicitDefEqProofs [c102, hM7, hMl]
  refine wp_lpk (α := Nat) (fun i => ⟨[(1, .ptr (.n 1) 0), (3, .sl ((rulesTo x i).map RRp.row)), (9, .sl (x.g.ru.map Ru.row)), (10, i6 x.g.ru.length), (11, i6 i)], [(.n 1, M)], [(.s 3, 5)]⟩)
    (fun i => i ≤ x.g.ru.length) (fun i => x.g.ru.length - i) ?_ 0 ?_ ?_
  · rintro K i hK h1
    by_cases gi : i < x.g.ru.length
    · have t1 : IntKind.i64.wrap ((i : Int) + 1) = (i + 1 : Nat) := by rw [wrap_i64] <;> omega
      have gR : i < (x.g.ru.map Ru.row).length := by simpa using gi
      have ra := ru_at x.g.ru i gi gR
      have r5 := rr5 (rulesTo x i)
      have rln : ((rulesTo x i).map RRp.row).length = i := by simp [rulesTo_len]
      have q3 : (i + 1) * 48 ≤ 140737488355328 := by omega
      have fin : ∀ σ', Weak σ' ⟨[(1, .ptr (.n 1) 0), (3, .sl ((rulesTo x (i + 1)).map RRp.row)), (9, .sl (x.g.ru.map Ru.row)), (10, i6 x.g.ru.length), (11, i6 (i + 1 : Nat))], [(.n 1, M)], [(.s 3, 5)]⟩ → K σ' :=
        fun σ' hσ => hK (i + 1) σ' (by omega) (by omega) hσ
      have hnx : (rulesTo x (i + 1)).map RRp.row = (rulesTo x i).map RRp.row ++ [[.str x.g.ru[i].n, .bool x.g.ru[i].p, i6 (phOf x.al i), u (if x.st = true then 0 else (rateN x.g.t (cntOf x.ws x.g.ru[i].l).1 (cntOf x.ws x.g.ru[i].l).2).1), u (if x.st = true then 0 else (rateN x.g.t (cntOf x.ws x.g.ru[i].s).1 (cntOf x.ws x.g.ru[i].s).2).1)]] := by
        simp only [rulesTo, List.map_append, List.map_cons, List.map_nil, ruleOf, RRp_row, ruAt_get x.g.ru i gi]
      rw [hnx] at fin
      clear hnx hK hR
      have C1 := CS x.g.ru[i].l
      have C2 := CS x.g.ru[i].s
      have R1 := RS x.g.ru[i].l
      have R2 := RS x.g.ru[i].s
      clear CS RS
      generalize rateN x.g.t (cntOf x.ws x.g.ru[i].l).1 (cntOf x.ws x.g.ru[i].l).2 = ra1 at *
      generalize rateN x.g.t (cntOf x.ws x.g.ru[i].s).1 (cntOf x.ws x.g.ru[i].s).2 = ra2 at *
      generalize cntOf x.ws x.g.ru[i].l = cc1 at *
      generalize cntOf x.ws x.g.ru[i].s = cc2 at *
      generalize x.g.ru[i] = a at *
      generalize (rulesTo x i).map RRp.row = AC0 at *
      generalize x.g.ru.map Ru.row = RW at *
      by_cases ga : i < x.al.length
      · have gA : i < (x.al.map Al.row).length := by simpa using ga
        have aa := al_at x.al i ga gA
        have hph : phOf x.al i = x.al[i].ph := by simp [phOf, ga]
        rw [hph] at fin
        clear hph
        have alen : (x.al.map Al.row).length = x.al.length := by simp
        generalize x.al[i] = b at *
        generalize x.al.map Al.row = AW at *
        cases hst : x.st
        · rw [hst] at hM8 fin
          simp only [Bool.false_eq_true, if_false] at fin
          simp -implicitDefEqProofs [gi, gR, ra, hM1, hM8, hM14, ga, gA, aa, hMl, hMt, hMs, alen]
          refine onC_mk _ C1 ?_
          simp -implicitDefEqProofs
          refine onC_mk _ R1 ?_
          simp -implicitDefEqProofs [hMl, hMt, hMs, hM1]
          refine onC_mk _ C2 ?_
          simp -implicitDefEqProofs
          refine onC_mk _ R2 ?_
          simp -implicitDefEqProofs [hlim, rln, q3]
          refine ⟨r5, fin _ (weak_mk ?_ ?_ ?_ ?_ ?_ ?_)⟩ <;> simp -implicitDefEqProofs [t1, hM0]
        · rw [hst] at hM8 fin
          simp only [if_true] at fin
          simp -implicitDefEqProofs [gi, gR, ra, hM1, hM8, hM14, ga, gA, aa, hMl, hMt, alen, hlim, rln, q3]
          refine ⟨r5, fin _ (weak_mk ?_ ?_ ?_ ?_ ?_ ?_)⟩ <;> simp -implicitDefEqProofs [t1, hM0]
      · have ga' : ¬ (i : Int) < x.al.length := by omega
        have hph : phOf x.al i = 0 := by
          unfold phOf
          rw [List.getElem?_eq_none (by omega)]
        rw [hph] at fin
        clear hph
        have alen : (x.al.map Al.row).length = x.al.length := by simp
        generalize x.al.map Al.row = AW at *
        cases hst : x.st
        · rw [hst] at hM8 fin
          simp only [Bool.false_eq_true, if_false] at fin
          simp -implicitDefEqProofs [gi, gR, ra, hM1, hM8, hM14, ga, ga', hMl, hMt, hMs, alen]
          refine onC_mk _ C1 ?_
          simp -implicitDefEqProofs
          refine onC_mk _ R1 ?_
          simp -implicitDefEqProofs [hMl, hMt, hMs, hM1]
          refine onC_mk _ C2 ?_
          simp -implicitDefEqProofs
          refine onC_mk _ R2 ?_
          simp -implicitDefEqProofs [hlim, rln, q3]
          refine ⟨r5, fin _ (weak_mk ?_ ?_ ?_ ?_ ?_ ?_)⟩ <;> simp -implicitDefEqProofs [t1, hM0]
        · rw [hst] at hM8 fin
          simp only [if_true] at fin
          simp -implicitDefEqProofs [gi, gR, ra, hM1, hM8, hM14, ga, ga', hMl, hMt, alen, hlim, rln, q3]
          refine ⟨r5, fin _ (weak_mk ?_ ?_ ?_ ?_ ?_ ?_)⟩ <;> simp -implicitDefEqProofs [t1, hM0]
    · obtain rfl : i = x.g.ru.length := by omega
      have hR' : (rulesTo x x.g.ru.length).map RRp.row = R := hR.symm
      rw [hR']
      clear hK CS RS
      simp -implicitDefEqProofs
  · exact Nat.zero_le _
  · refine weak_mk ?_ ?_ ?_ ?_ ?_ ?_ <;> simp -implicitDefEqProofs [hM0, rulesTo]
end Go.Ai
