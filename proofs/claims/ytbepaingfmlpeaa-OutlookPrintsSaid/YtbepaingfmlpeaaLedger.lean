/- YtbepaingfmlpeaaLedger: part of the abstract interpreter library (values, rules, soundness against the model) or of what a function of the seat computes. Conditions: as each theorem says. -/
import Derived.Test.YtbepaingfmlpeaaExact
import Derived.Test.YtbepaingfmlpeaaBurn
set_option linter.unusedSimpArgs false
set_option linter.unusedVariables false
namespace Go.Ai
open Go.Proofs
/-- A signed number. -/
abbrev sg2 (b : Bool) (m l : Nat) : AV := .agg [.bool b, u m, u l]
def sgn (b : Bool) (n : Nat) : AV := sg2 b (n / 18446744073709551616) (n % 18446744073709551616)
def sgi (z : Int) : AV := sgn (decide (z < 0)) z.natAbs
theorem sright0 (b : Bool) (m l : Nat) : Sp Try.prog gl 97 [sg2 b m l] (.bool (!b || !(decide (m = 0 ∧ l = 0)))) := by
  refine s97 rfl rfl ?_
  cases b
  · simp -implicitDefEqProofs [c97]
  · by_cases h1 : m = 0
    · by_cases h2 : l = 0
      · subst h1; subst h2; simp -implicitDefEqProofs [c97]
      · have h3 : ((l : Int) == 0) = false := by simpa using h2
        subst h1
        simp -implicitDefEqProofs [c97, h3, h2]
    · have h3 : ((m : Int) == 0) = false := by simpa using h1
      simp -implicitDefEqProofs [c97, h3, h1]
theorem srt0 (b : Bool) (m l : Nat) : Sp Try.prog gl 69 [sg2 b m l] (sg2 (b && !decide (m = 0 ∧ l = 0)) m l) := by
  refine s69 rfl rfl ?_
  have R := sright0 b m l
  simp -implicitDefEqProofs [c69]
  refine onC_mk _ R ?_
  by_cases h : m = 0 ∧ l = 0
  · obtain ⟨rfl, rfl⟩ := h
    cases b
    · simp -implicitDefEqProofs
    · simp -implicitDefEqProofs
  · simp -implicitDefEqProofs [h]
    intro _; omega
theorem nz_iff (n : Nat) : (n / 18446744073709551616 = 0 ∧ n % 18446744073709551616 = 0) ↔ n = 0 := by omega
theorem srt1 (b : Bool) (n : Nat) : Sp Try.prog gl 69 [sgn b n] (sgi (if b = true then -n else n)) := by
  have R := srt0 b (n / 18446744073709551616) (n % 18446744073709551616)
  have e : sgi (if b = true then -(n : Int) else n) = sgn (b && !decide (n / 18446744073709551616 = 0 ∧ n % 18446744073709551616 = 0)) n := by
    simp only [nz_iff]
    cases b
    · have : decide ((n : Int) < 0) = false := by simp
      simp [sgi, this]
    · have : decide (-(n : Int) < 0) = !decide (n = 0) := by rw [Bool.eq_iff_iff]; simp; omega
      simp only [sgi, if_true, this, Int.natAbs_neg, Int.natAbs_natCast, Bool.true_and]
  rw [e]; exact R
theorem sgi_if (z : Int) : (if decide (z < 0) = true then -(z.natAbs : Int) else z.natAbs) = z := by
  by_cases h : z < 0 <;> simp [h] <;> omega
theorem srt_spec (z : Int) : Sp Try.prog gl 69 [sgi z] (sgi z) := by
  have := srt1 (decide (z < 0)) z.natAbs
  rw [sgi_if] at this
  exact this
theorem sized_spec (b : Bool) (n : Nat) : Sp Try.prog gl 71 [.bool b, wide n] (sgi (if b = true then -n else n)) := by
  refine s71 rfl rfl ?_
  have key := srt1 b n
  obtain ⟨b', m', l', e⟩ : ∃ b' m' l', sgi (if b = true then -n else n) = sg2 b' m' l' := ⟨_, _, _, rfl⟩
  rw [e] at key ⊢
  unfold sgn at key
  unfold wide
  generalize n % 18446744073709551616 = l at *
  generalize n / 18446744073709551616 = m at *
  simp -implicitDefEqProofs [c71]
  refine onC_mk _ key ?_
  simp -implicitDefEqProofs
theorem between_spec (a b : Nat) (ha : a < 340282366920938463463374607431768211456) (hb : b < 340282366920938463463374607431768211456) : Sp Try.prog gl 59 [wide a, wide b] (sgi ((a : Int) - b)) := by
  refine s59 rfl rfl ?_
  have L1 := xless_spec a b ha hb
  have L2 := xless_spec b a hb ha
  have e0 : sgi ((a : Int) - b) = if b ≤ a then sgi (if false = true then -((a - b : Nat) : Int) else (a - b : Nat)) else sgi (if true = true then -((b - a : Nat) : Int) else (b - a : Nat)) := by
    split <;> congr 1 <;> simp <;> omega
  obtain ⟨b', m', l', e⟩ : ∃ b' m' l', sgi ((a : Int) - b) = sg2 b' m' l' := ⟨_, _, _, rfl⟩
  rw [e] at e0 ⊢
  by_cases h : b ≤ a
  · have Z := sized_spec false (a - b)
    rw [if_pos h] at L1 e0
    rw [← e0] at Z
    clear e0 L2 e
    unfold wide at *
    generalize (a - b) % 18446744073709551616 = l at *
    generalize (a - b) / 18446744073709551616 = m at *
    simp -implicitDefEqProofs [c59]
    refine onC_mk _ L1 ?_
    simp -implicitDefEqProofs
    refine onC_mk _ Z ?_
    simp -implicitDefEqProofs
  · have Z := sized_spec true (b - a)
    rw [if_neg h] at L1 e0
    rw [if_pos (by omega)] at L2
    rw [← e0] at Z
    clear e0 e
    unfold wide at *
    generalize (b - a) % 18446744073709551616 = l at *
    generalize (b - a) / 18446744073709551616 = m at *
    simp -implicitDefEqProofs [c59]
    refine onC_mk _ L1 ?_
    simp -implicitDefEqProofs
    refine onC_mk _ L2 ?_
    simp -implicitDefEqProofs
    refine onC_mk _ Z ?_
    simp -implicitDefEqProofs
theorem sgi_wide (z : Int) (h : z.natAbs < 340282366920938463463374607431768211456) : ∃ m l, sgi z = sg2 (decide (z < 0)) m l ∧ wide z.natAbs = .agg [u m, u l] := ⟨_, _, rfl, rfl⟩
set_option maxRecDepth 10000 in
/-- Both, where they have room. -/
theorem sadd_spec (x y : Int) (hx : x.natAbs < 340282366920938463463374607431768211456) (hy : y.natAbs < 340282366920938463463374607431768211456) (hxy : x.natAbs + y.natAbs < 340282366920938463463374607431768211456) :
    Sp Try.prog gl 30 [sgi x, sgi y] (.tup [sgi (x + y), i6 0]) := by
  refine s30 rfl rfl ?_
  have Rx := srt_spec x
  have Ry := srt_spec y
  obtain ⟨mx, lx, ex, wx⟩ := sgi_wide x hx
  obtain ⟨my, ly, ey, wy⟩ := sgi_wide y hy
  obtain ⟨b', m', l', e⟩ : ∃ b' m' l', sgi (x + y) = sg2 b' m' l' := ⟨_, _, _, rfl⟩
  rw [ex] at Rx ⊢
  rw [ey] at Ry ⊢
  by_cases hs : decide (x < 0) = decide (y < 0)
  · have A := xadd_spec x.natAbs y.natAbs hx hy
    rw [if_pos hxy, wx, wy] at A
    have Z := sized_spec (decide (x < 0)) (x.natAbs + y.natAbs)
    have e1 : (if decide (x < 0) = true then -((x.natAbs + y.natAbs : Nat) : Int) else (x.natAbs + y.natAbs : Nat)) = x + y := by
      by_cases h : x < 0
      · have : y < 0 := by simpa [h] using hs
        simp [h]; omega
      · have : ¬ y < 0 := by simpa [h] using hs
        simp [h]; omega
    rw [e1, e] at Z
    rw [e]
    rw [← hs] at Ry ⊢
    clear e1 e wx wy ex ey hs
    generalize decide (x < 0) = b at *
    unfold wide at *
    generalize (x.natAbs + y.natAbs) % 18446744073709551616 = l at *
    generalize (x.natAbs + y.natAbs) / 18446744073709551616 = m at *
    simp -implicitDefEqProofs [c30]
    refine onC_mk _ Rx ?_
    simp -implicitDefEqProofs
    refine onC_mk _ Ry ?_
    simp -implicitDefEqProofs
    refine onC_mk _ A ?_
    simp -implicitDefEqProofs
    refine onC_mk _ Z ?_
    simp -implicitDefEqProofs
  · by_cases h : x < 0
    · have h2 : ¬ y < 0 := by simpa [h] using hs
      have B := between_spec y.natAbs x.natAbs hy hx
      rw [show ((y.natAbs : Int) - x.natAbs) = x + y by omega, e, wx, wy] at B
      rw [e]
      rw [decide_eq_true h] at Rx ⊢
      rw [decide_eq_false h2] at Ry ⊢
      clear wx wy e ex ey
      simp -implicitDefEqProofs [c30]
      refine onC_mk _ Rx ?_
      simp -implicitDefEqProofs
      refine onC_mk _ Ry ?_
      simp -implicitDefEqProofs
      refine onC_mk _ B ?_
      simp -implicitDefEqProofs
    · have h2 : y < 0 := by simpa [h] using hs
      have B := between_spec x.natAbs y.natAbs hx hy
      rw [show ((x.natAbs : Int) - y.natAbs) = x + y by omega, e, wx, wy] at B
      rw [e]
      rw [decide_eq_false h] at Rx ⊢
      rw [decide_eq_true h2] at Ry ⊢
      clear wx wy e ex ey
      simp -implicitDefEqProofs [c30]
      refine onC_mk _ Rx ?_
      simp -implicitDefEqProofs
      refine onC_mk _ Ry ?_
      simp -implicitDefEqProofs
      refine onC_mk _ B ?_
      simp -implicitDefEqProofs
/-! ### Ledger -/
theorem may0 {t g n : Nat} (h1 : t ≤ 1000000) (h2 : g ≤ n) : mayN t g n = 0 := by unfold mayN; rw [if_neg (by omega), if_neg (by omega)]
theorem lmay_spec (t g n : Nat) : Sp Try.prog gl 58 [u32 t, cnt g n] (i6 (mayN t g n)) := by
  refine s58 rfl rfl ?_
  simp -implicitDefEqProofs [c58]
  refine onC_mk _ (right_spec t) ?_
  by_cases h : t ≤ 1000000
  · by_cases h2 : n < g
    · simp -implicitDefEqProofs [h, h2, mayN, show ¬ 1000000 < t by omega]
    · simp -implicitDefEqProofs [h, h2, mayN, show ¬ 1000000 < t by omega]
  · simp -implicitDefEqProofs [h, mayN, show 1000000 < t by omega]
theorem budget_spec (t g n : Nat) (ht : t ≤ 1000000) (hg : g ≤ n) (hn : n < 18446744073709551616) : Sp Try.prog gl 60 [u32 t, cnt g n] (.tup [wide (n * (1000000 - t)), wide ((n - g) * 1000000)]) := by
  refine s60 rfl rfl ?_
  have R := rest_spec t ht
  have T1 := times_spec n (1000000 - t) hn (by omega)
  have T2 := times_spec (n - g) 1000000 (by omega) (by omega)
  have w1 : IntKind.u64.wrap ((1000000 - t : Nat) : Int) = (1000000 - t : Nat) := by rw [wrap_u64] <;> omega
  have w2 : IntKind.u64.wrap ((n : Int) - g) = (n - g : Nat) := by rw [wrap_u64] <;> omega
  unfold wide at *
  generalize n * (1000000 - t) % 18446744073709551616 = l1 at *
  generalize n * (1000000 - t) / 18446744073709551616 = m1 at *
  generalize (n - g) * 1000000 % 18446744073709551616 = l2 at *
  generalize (n - g) * 1000000 / 18446744073709551616 = m2 at *
  simp -implicitDefEqProofs [c60]
  refine onC_mk _ R ?_
  simp -implicitDefEqProofs
  rw [w1]
  refine onC_mk _ T1 ?_
  simp -implicitDefEqProofs
  rw [w2]
  refine onC_mk _ T2 ?_
  simp -implicitDefEqProofs
def leftZ (t g n : Nat) : Int := if mayN t g n = 0 then ((n * (1000000 - t) : Nat) : Int) - ((n - g) * 1000000 : Nat) else 0
theorem left_spec (t g n : Nat) (ht : t < 4294967296) (hn : n < 18446744073709551616) : Sp Try.prog gl 26 [u32 t, cnt g n] (.tup [sgi (leftZ t g n), i6 (mayN t g n)]) := by
  refine s26 rfl rfl ?_
  have M := lmay_spec t g n
  by_cases h : mayN t g n = 0
  · have ht2 : t ≤ 1000000 := by unfold mayN at h; split at h <;> omega
    have hg : g ≤ n := by unfold mayN at h; (repeat' split at h) <;> omega
    have B := budget_spec t g n ht2 hg hn
    have k1 : n * (1000000 - t) ≤ 18446744073709551616 * 1000000 := Nat.mul_le_mul (by omega) (by omega)
    have k2 : (n - g) * 1000000 ≤ 18446744073709551616 * 1000000 := Nat.mul_le_mul (by omega) (by omega)
    have S := between_spec (n * (1000000 - t)) ((n - g) * 1000000) (by omega) (by omega)
    have e : leftZ t g n = ((n * (1000000 - t) : Nat) : Int) - ((n - g) * 1000000 : Nat) := by unfold leftZ; rw [if_pos h]
    rw [← e] at S
    obtain ⟨b', m', l', e2⟩ : ∃ b' m' l', sgi (leftZ t g n) = sg2 b' m' l' := ⟨_, _, _, rfl⟩
    rw [e2] at S ⊢
    rw [h] at M ⊢
    clear e e2 k1 k2
    unfold wide at *
    generalize n * (1000000 - t) % 18446744073709551616 = l1 at *
    generalize n * (1000000 - t) / 18446744073709551616 = m1 at *
    generalize (n - g) * 1000000 % 18446744073709551616 = l2 at *
    generalize (n - g) * 1000000 / 18446744073709551616 = m2 at *
    simp -implicitDefEqProofs [c26]
    refine onC_mk _ M ?_
    simp -implicitDefEqProofs
    refine onC_mk _ B ?_
    simp -implicitDefEqProofs
    refine onC_mk _ S ?_
    simp -implicitDefEqProofs
  · have e : leftZ t g n = 0 := by unfold leftZ; rw [if_neg h]
    have e2 : sgi 0 = sg2 false 0 0 := rfl
    rw [e, e2]
    have b1 : ((mayN t g n : Int) != 0) = true := by simp [h]
    simp -implicitDefEqProofs [c26]
    refine onC_mk _ M ?_
    simp -implicitDefEqProofs [b1]
def spentN (t g n : Nat) : Nat × Nat := if mayN t g n = 0 then (if n = 0 ∨ t = 1000000 then (0, 4) else ((n - g) * 1000000 * 1000000 / n / (1000000 - t), 0)) else (0, mayN t g n)
set_option maxRecDepth 10000 in
theorem spent_spec (t g n : Nat) (ht : t < 4294967296) (hn : n < 18446744073709551616) : Sp Try.prog gl 28 [u32 t, cnt g n] (.tup [u (spentN t g n).1, i6 (spentN t g n).2]) := by
  refine s28 rfl rfl ?_
  have M := lmay_spec t g n
  by_cases h : mayN t g n = 0
  · have ht2 : t ≤ 1000000 := by unfold mayN at h; split at h <;> omega
    have hg : g ≤ n := by unfold mayN at h; (repeat' split at h) <;> omega
    have R := rest_spec t ht2
    rw [h] at M
    by_cases h0 : n = 0
    · have e : spentN t g n = (0, 4) := by unfold spentN; rw [if_pos h, if_pos (.inl h0)]
      rw [e]
      subst h0
      simp -implicitDefEqProofs [c28]
      refine onC_mk _ M ?_
      simp -implicitDefEqProofs
    have b0 : ((n : Int) == 0) = false := by simp [h0]
    by_cases h1 : t = 1000000
    · have e : spentN t g n = (0, 4) := by unfold spentN; rw [if_pos h, if_pos (.inr h1)]
      rw [e]
      have e2 : 1000000 - t = 0 := by omega
      rw [e2] at R
      simp -implicitDefEqProofs [c28]
      refine onC_mk _ M ?_
      simp -implicitDefEqProofs [b0]
      refine onC_mk _ R ?_
      simp -implicitDefEqProofs
    have b1 : (((1000000 - t : Nat) : Int) == 0) = false := by simp; omega
    have e : spentN t g n = ((n - g) * 1000000 * 1000000 / n / (1000000 - t), 0) := by unfold spentN; rw [if_pos h, if_neg (by omega)]
    have B := budget_spec t g n ht2 hg hn
    have k2 : (n - g) * 1000000 ≤ 18446744073709551616 * 1000000 := Nat.mul_le_mul (by omega) (by omega)
    have X := xmore_spec ((n - g) * 1000000) 1000000 (by omega) (by omega)
    rw [if_pos (by omega)] at X
    have F1 := floor_spec ((n - g) * 1000000 * 1000000) n (by omega) (by omega) hn
    have q1 : (n - g) * 1000000 * 1000000 / n ≤ 1000000000000 := by
      apply Nat.div_le_of_le_mul
      have := Nat.mul_le_mul_right (1000000 * 1000000) (Nat.sub_le n g)
      rw [Nat.mul_assoc]; exact this
    rw [e]
    clear e
    obtain ⟨Y, hY⟩ : ∃ Y, Y = (n - g) * 1000000 * 1000000 / n := ⟨_, rfl⟩
    rw [← hY] at F1 q1 ⊢
    clear hY
    have F2 := floor_spec Y (1000000 - t) (by omega) (by omega) (by omega)
    have q2 : Y / (1000000 - t) ≤ Y := Nat.div_le_self _ _
    obtain ⟨Z, hZ⟩ : ∃ Z, Z = (n - g) * 1000000 * 1000000 % n := ⟨_, rfl⟩
    rw [← hZ] at F1
    clear hZ
    obtain ⟨X2, hX2⟩ : ∃ X2, X2 = (n - g) * 1000000 * 1000000 := ⟨_, rfl⟩
    rw [← hX2] at F1 X
    clear hX2
    obtain ⟨X1, hX1⟩ : ∃ X1, X1 = (n - g) * 1000000 := ⟨_, rfl⟩
    rw [← hX1] at B X
    clear hX1
    obtain ⟨X0, hX0⟩ : ∃ X0, X0 = n * (1000000 - t) := ⟨_, rfl⟩
    rw [← hX0] at B
    clear hX0
    obtain ⟨V, hV⟩ : ∃ V, V = Y / (1000000 - t) := ⟨_, rfl⟩
    rw [← hV] at F2 q2 ⊢
    clear hV
    obtain ⟨V2, hV2⟩ : ∃ V2, V2 = Y % (1000000 - t) := ⟨_, rfl⟩
    rw [← hV2] at F2
    clear hV2
    have wV : wide V = .agg [u 0, u V] := by unfold wide; rw [Nat.div_eq_of_lt (by omega), Nat.mod_eq_of_lt (by omega)]
    rw [wV] at F2
    have w1 : IntKind.u64.wrap ((1000000 - t : Nat) : Int) = (1000000 - t : Nat) := by rw [wrap_u64] <;> omega
    simp only [wide] at B X F1 F2
    generalize X0 / 18446744073709551616 = a1 at *
    generalize X0 % 18446744073709551616 = a2 at *
    generalize X1 / 18446744073709551616 = a3 at *
    generalize X1 % 18446744073709551616 = a4 at *
    generalize X2 / 18446744073709551616 = a5 at *
    generalize X2 % 18446744073709551616 = a6 at *
    generalize Y / 18446744073709551616 = a7 at *
    generalize Y % 18446744073709551616 = a8 at *
    simp -implicitDefEqProofs [c28]
    refine onC_mk _ M ?_
    simp -implicitDefEqProofs [b0]
    refine onC_mk _ R ?_
    simp -implicitDefEqProofs [b1]
    refine onC_mk _ B ?_
    simp -implicitDefEqProofs
    refine onC_mk _ X ?_
    simp -implicitDefEqProofs
    refine onC_mk _ F1 ?_
    simp -implicitDefEqProofs
    refine onC_mk _ R ?_
    simp -implicitDefEqProofs
    rw [w1]
    refine onC_mk _ F2 ?_
    simp -implicitDefEqProofs
  · have e : spentN t g n = (0, mayN t g n) := by unfold spentN; rw [if_neg h]
    have b1 : ((mayN t g n : Int) != 0) = true := by simp [h]
    rw [e]
    simp -implicitDefEqProofs [c28]
    refine onC_mk _ M ?_
    simp -implicitDefEqProofs [b1]
theorem lv_left : sgi (leftZ 999000 999600 1000000) = sg2 false 0 600000000 := by kernel_rfl
theorem lv_may : mayN 999000 999600 1000000 = 0 := by kernel_rfl
theorem lv_spent : spentN 999000 999600 1000000 = (400000, 0) := by kernel_rfl
set_option maxRecDepth 20000 in
theorem awake23_spec : Sp Try.prog gl 25 [] (.bool true) := by
  refine s25 rfl rfl ?_
  have L := left_spec 999000 999600 1000000 (by omega) (by omega)
  have S := spent_spec 999000 999600 1000000 (by omega) (by omega)
  rw [lv_left, lv_may] at L
  rw [lv_spent] at S
  simp -implicitDefEqProofs [c25]
  refine onC_mk _ L ?_
  simp -implicitDefEqProofs
  refine onC_mk _ S ?_
  simp -implicitDefEqProofs
theorem left_adds (t g n h m : Nat) (ht : t ≤ 1000000) (hg : g ≤ n) (hh : h ≤ m) : leftZ t (g + h) (n + m) = leftZ t g n + leftZ t h m := by
  have e1 : mayN t g n = 0 := may0 (by omega) (by omega)
  have e2 : mayN t h m = 0 := may0 (by omega) (by omega)
  have e3 : mayN t (g + h) (n + m) = 0 := may0 (by omega) (by omega)
  unfold leftZ
  rw [if_pos e1, if_pos e2, if_pos e3, Nat.add_mul, show n + m - (g + h) = (n - g) + (m - h) by omega, Nat.add_mul]
  omega
theorem left_small (t g n : Nat) (hn : n < 9223372036854775808) : (leftZ t g n).natAbs ≤ 9223372036854775808 * 1000000 := by
  unfold leftZ
  split
  · have k1 : n * (1000000 - t) ≤ 9223372036854775808 * 1000000 := Nat.mul_le_mul (by omega) (by omega)
    have k2 : (n - g) * 1000000 ≤ 9223372036854775808 * 1000000 := Nat.mul_le_mul (by omega) (by omega)
    omega
  · simp
set_option maxRecDepth 10000 in
theorem ledgerAdds_spec (t g n h m : Nat) (ht : t < 4294967296) (hg : g < 18446744073709551616) (hn : n < 18446744073709551616) (hh : h < 18446744073709551616) (hm : m < 18446744073709551616) :
    Sp Try.prog gl 9 [u32 t, cnt g n, cnt h m] (.bool true) := by
  refine s9 rfl rfl ?_
  by_cases c1 : 1000000 < t
  · simp -implicitDefEqProofs [c9]
    refine onC_mk _ awake23_spec ?_
    simp -implicitDefEqProofs [show (1000000 : Int) < t by omega]
  have d1 : ¬ (1000000 : Int) < t := by omega
  by_cases c2 : n < g
  · simp -implicitDefEqProofs [c9]
    refine onC_mk _ awake23_spec ?_
    simp -implicitDefEqProofs [d1, c2]
  by_cases c3 : m < h
  · simp -implicitDefEqProofs [c9]
    refine onC_mk _ awake23_spec ?_
    simp -implicitDefEqProofs [d1, c2, c3]
  by_cases c4 : 9223372036854775808 ≤ n
  · simp -implicitDefEqProofs [c9]
    refine onC_mk _ awake23_spec ?_
    simp -implicitDefEqProofs [d1, c2, c3, show (9223372036854775808 : Int) ≤ n by omega]
  have d4 : ¬ (9223372036854775808 : Int) ≤ n := by omega
  by_cases c5 : 9223372036854775808 ≤ m
  · simp -implicitDefEqProofs [c9]
    refine onC_mk _ awake23_spec ?_
    simp -implicitDefEqProofs [d1, c2, c3, d4, show (9223372036854775808 : Int) ≤ m by omega]
  have d5 : ¬ (9223372036854775808 : Int) ≤ m := by omega
  have L1 := left_spec t g n ht hn
  have L2 := left_spec t h m ht hm
  have L3 := left_spec t (g + h) (n + m) ht (by omega)
  have e1 : mayN t g n = 0 := may0 (by omega) (by omega)
  have e2 : mayN t h m = 0 := may0 (by omega) (by omega)
  have e3 : mayN t (g + h) (n + m) = 0 := may0 (by omega) (by omega)
  have s1 := left_small t g n (by omega)
  have s2 := left_small t h m (by omega)
  have A := sadd_spec (leftZ t g n) (leftZ t h m) (by omega) (by omega) (by omega)
  rw [left_adds t g n h m (by omega) (by omega) (by omega), e3] at L3
  rw [e1] at L1
  rw [e2] at L2
  obtain ⟨b1, x1, y1, z1⟩ : ∃ b' m' l', sgi (leftZ t g n) = sg2 b' m' l' := ⟨_, _, _, rfl⟩
  obtain ⟨b2, x2, y2, z2⟩ : ∃ b' m' l', sgi (leftZ t h m) = sg2 b' m' l' := ⟨_, _, _, rfl⟩
  obtain ⟨b3, x3, y3, z3⟩ : ∃ b' m' l', sgi (leftZ t g n + leftZ t h m) = sg2 b' m' l' := ⟨_, _, _, rfl⟩
  rw [z1] at L1 A
  rw [z2] at L2 A
  rw [z3] at L3 A
  clear z1 z2 z3 s1 s2 e1 e2 e3
  have w1 : IntKind.u64.wrap ((g : Int) + h) = (g + h : Nat) := by rw [wrap_u64] <;> omega
  have w2 : IntKind.u64.wrap ((n : Int) + m) = (n + m : Nat) := by rw [wrap_u64] <;> omega
  simp -implicitDefEqProofs [c9]
  refine onC_mk _ awake23_spec ?_
  simp -implicitDefEqProofs [d1, c2, c3, d4, d5]
  refine onC_mk _ L1 ?_
  simp -implicitDefEqProofs
  refine onC_mk _ L2 ?_
  simp -implicitDefEqProofs
  rw [w1, w2]
  refine onC_mk _ L3 ?_
  simp -implicitDefEqProofs
  refine onC_mk _ A ?_
  simp -implicitDefEqProofs
end Go.Ai
