/- YtbepaingfmlpeaaDiv4: part of the abstract interpreter library (values, rules, soundness against the model) or of what a function of the seat computes. Conditions: as each theorem says. -/
import Derived.Test.YtbepaingfmlpeaaDiv3
set_option linter.unusedSimpArgs false
set_option linter.unusedVariables false
set_option linter.unusedSectionVars false
namespace Go.Ai
open Go.Proofs
theorem shl_u64 (x s : Nat) (h : s ≤ 64) : (x : Int) * 2 ^ min s IntKind.u64.bits = ((x * 2 ^ s : Nat) : Int) := by
  rw [show min s IntKind.u64.bits = s by show min s 64 = s; omega]; simp
theorem shr_u64' (x i : Nat) (h : i ≤ 64) : (x : Int).fdiv (2 ^ min i IntKind.u64.bits) = ((x / 2 ^ i : Nat) : Int) := by
  rw [show min i IntKind.u64.bits = i by show min i 64 = i; omega, Int.fdiv_eq_ediv_of_nonneg _ (Int.pow_nonneg (by decide))]
  simp
section
variable {rq rr : Nat}
/-- The end: the quotient and what is left. -/
theorem div_19 {Y s D1 D0 R1 v0 R0 : Nat} (h1 : D1 < 4294967296) (h0 : D0 < 4294967296) (hs : s ≤ 64) (hR : D0 * Y + R0 = R1 * 4294967296 + v0) (hRY : R0 < 18446744073709551616)
    (hq : rq = D1 * 4294967296 + D0) (hr : rr = R0 / 2 ^ s)
    (e : List (Nat × AV)) (pm : List (Pl × Nat)) (h2 : lk e 2 = u Y) (h8 : lk e 8 = u s) (h14 : lk e 14 = u v0) (h15 : lk e 15 = u D1) (h17 : lk e 17 = u R1) (h18 : lk e 18 = u D0) :
    wpA (SpH Try.prog gl) (AC.tl 19 c93) (postA [.t 6, .t 7] (.tup [u rq, u rr])) ⟨e, [], pm⟩ := by
  simp only [c93, AC.tl]
  simp -implicitDefEqProofs [h2, h8, h14, h15, h17, h18]
  have t1 : IntKind.u64.wrap ((D1 : Int) * 4294967296) = (D1 * 4294967296 : Nat) := by rw [wrap_u64] <;> omega
  have t2 : IntKind.u64.wrap (((D1 * 4294967296 : Nat) : Int) + D0) = (D1 * 4294967296 + D0 : Nat) := by rw [wrap_u64] <;> omega
  have t3 := sub_mod hR hRY
  rw [Int.natCast_mul] at t3
  rw [t1, t2, t3, hq, hr]
  exact ⟨rfl, shr_u64' R0 s hs⟩
theorem div_15 {Y s y1 y0 un v v0 D1 R1 D0 R0 : Nat} (hY : Y = y1 * 4294967296 + y0) (hy1 : 2147483648 ≤ y1) (hy1' : y1 < 4294967296) (hy0 : y0 < 4294967296)
    (hD1 : D1 < 4294967296) (hs : s ≤ 64) (hR1 : D1 * Y + R1 = un * 4294967296 + v) (hR1Y : R1 < Y) (hv0 : v0 < 4294967296) (hR0 : D0 * Y + R0 = R1 * 4294967296 + v0) (hR0Y : R0 < Y) (hD0 : D0 = (R1 * 4294967296 + v0) / Y) (hD0' : D0 < 4294967296)
    (hq : rq = D1 * 4294967296 + D0) (hr : rr = R0 / 2 ^ s)
    (e : List (Nat × AV)) (pm : List (Pl × Nat)) (h2 : lk e 2 = u Y) (h8 : lk e 8 = u s) (h9 : lk e 9 = u y1) (h10 : lk e 10 = u y0) (h11 : lk e 11 = u un) (h13 : lk e 13 = u v) (h14 : lk e 14 = u v0) (h15 : lk e 15 = u D1) :
    wpA (SpH Try.prog gl) (AC.tl 15 c93) (postA [.t 6, .t 7] (.tup [u rq, u rr])) ⟨e, [], pm⟩ := by
  have ec : AC.tl 15 c93 = AC.cutAt 3 (AC.tl 18 c93) (AC.tl 15 c93) := rfl
  rw [ec]
  have T := @div_loop2 (postA [.t 6, .t 7] (.tup [u rq, u rr])) Y s y1 y0 R1 v0 D1 hY hy1 hy1' hy0 hR1Y hv0 (by
    intro e pm h2 h8 h9 h10 h17 h14 h15 h18
    exact div_19 hD1 hD0' hs hR0 (by clear hD0; omega) hq hr e pm h2 h8 h14 h15 h17 (by rw [h18, ← hD0]))
  clear hD0
  generalize AC.tl 18 c93 = t at T ⊢
  simp only [c93, AC.tl, AC.cutAt]
  have b0 : ((y1 : Int) == 0) = false := by simp; omega
  have b1 : ¬ (y1 : Int) = 0 := by omega
  have b2 : ¬ y1 = 0 := by omega
  simp -implicitDefEqProofs [h2, h8, h9, h10, h11, h13, h14, h15, b0, b1, b2]
  have t3 := sub_mod hR1 (by omega)
  rw [Int.natCast_mul] at t3
  have q0 := Nat.div_add_mod R1 y1
  have q1 : R1 / y1 ≤ R1 := Nat.div_le_self _ _
  refine T _ _ ?_ ?_ ?_ ?_ ?_ ?_ ?_ ?_ ?_ <;> simp -implicitDefEqProofs [h2, h8, h9, h10, h14, h15]
  · exact t3
  · rw [t3, Int.tdiv_eq_ediv_of_nonneg (by omega), ← Int.natCast_ediv]
    generalize R1 / y1 = q at *
    exact wrap_u64 (by omega) (by omega)
  · rw [t3, Int.tdiv_eq_ediv_of_nonneg (by omega), ← Int.natCast_ediv, ← Int.natCast_emod]
    generalize R1 / y1 = q at *
    generalize R1 % y1 = r at *
    have e1 : IntKind.u64.wrap (q : Int) = q := wrap_u64 (by omega) (by omega)
    rw [e1, Int.mul_comm, ← Int.natCast_mul]
    generalize y1 * q = z at *
    have e2 : IntKind.u64.wrap (z : Int) = z := wrap_u64 (by omega) (by omega)
    rw [e2, wrap_u64] <;> omega
end
theorem div0 (y n : Nat) (hn : 0 < n) (hy : y < 18446744073709551616) : Sp Try.prog gl 93 [u 0, u y, u n] (.tup [u (y / n), u (y % n)]) := by
  refine s93 rfl rfl ?_
  have h1 : ((n : Int) == 0) = false := by simp; omega
  have h2 : ¬ (n : Int) ≤ 0 := by omega
  have h3 : ¬ (n : Int) = 0 := by omega
  have h4 : ¬ n = 0 := by omega
  simp [c93, h1]
  simp [h2, h3, h4]
  refine ⟨?_, Int.tmod_eq_emod_of_nonneg (Int.natCast_nonneg _)⟩
  have := Nat.div_le_self y n
  rw [← Int.natCast_ediv]
  generalize y / n = q at *
  exact wrap_u64 (by omega) (by omega)
theorem digit_ex (A Y : Nat) (hY : 0 < Y) (hA : A < 4294967296 * Y) : ∃ D R, D = A / Y ∧ D < 4294967296 ∧ D * Y + R = A ∧ R < Y :=
  ⟨_, _, rfl, div_lt_of hY hA, Nat.div_add_mod' A Y, Nat.mod_lt _ hY⟩
theorem lin_fits {a v Y : Nat} (h : a < Y) (hv : v < 4294967296) : a * 4294967296 + v < 4294967296 * Y := by omega
theorem halves {Y y1 y0 : Nat} (ey : y1 * 4294967296 + y0 = Y) (h0 : y0 < 4294967296) (g1 : 9223372036854775808 ≤ Y) (g2 : Y < 18446744073709551616) : 2147483648 ≤ y1 ∧ y1 < 4294967296 := by omega
set_option maxRecDepth 10000 in
theorem div64_spec (hi lo y : Nat) (hlo : lo < 18446744073709551616) (hy : y < 18446744073709551616) (h : hi < y) :
    Sp Try.prog gl 93 [u hi, u lo, u y] (.tup [u ((hi * 18446744073709551616 + lo) / y), u ((hi * 18446744073709551616 + lo) % y)]) := by
  by_cases h00 : hi = 0
  · subst h00
    have := div0 lo y (by omega) hlo
    simpa using this
  obtain ⟨g1, g2⟩ := shift_fits (y := y) (by omega) hy
  have hs := lenN_le (x := y) (k := 64) (by omega)
  obtain ⟨s, hsd⟩ : ∃ s, s = 64 - lenN y := ⟨_, rfl⟩
  rw [← hsd] at g1 g2
  have hs : s ≤ 64 := by omega
  have hp : 0 < 2 ^ s := Nat.two_pow_pos s
  have k1 : (hi + 1) * 2 ^ s ≤ y * 2 ^ s := Nat.mul_le_mul_right _ h
  rw [Nat.add_mul, Nat.one_mul] at k1
  have k2 : lo / 2 ^ (64 - s) < 2 ^ s := by
    apply (Nat.div_lt_iff_lt_mul (Nat.two_pow_pos _)).2
    rw [← Nat.pow_add, show s + (64 - s) = 64 by omega]
    omega
  have sh := shifted (hi := hi) (y := y) hs hlo
  have dq : (hi * 18446744073709551616 + lo) / y = (hi * 18446744073709551616 + lo) * 2 ^ s / (y * 2 ^ s) := (Nat.mul_div_mul_right _ _ hp).symm
  have dr : (hi * 18446744073709551616 + lo) % y = (hi * 18446744073709551616 + lo) * 2 ^ s % (y * 2 ^ s) / 2 ^ s := by rw [Nat.mul_mod_mul_right, Nat.mul_div_cancel _ hp]
  rw [← sh] at dq dr
  have hor := or_shift hi (lo / 2 ^ (64 - s)) s k2
  generalize hY : y * 2 ^ s = Y at *
  generalize hH : hi * 2 ^ s = H at *
  generalize hL : lo / 2 ^ (64 - s) = L at *
  generalize hun10 : lo * 2 ^ s % 18446744073709551616 = un10 at *
  have hun10' : un10 < 18446744073709551616 := by rw [← hun10]; exact Nat.mod_lt _ (by decide)
  have hunY : H + L < Y := by clear dq dr; omega
  -- the two digits
  have two := fun D1 R1 D0 R0 => @two_digits (H + L) (un10 / 4294967296) (un10 % 4294967296) Y D1 D0 R1 R0
  have eu := Nat.div_add_mod' un10 4294967296
  rw [eu] at two
  have hYpos : 0 < Y := by clear dq dr two; omega
  obtain ⟨un1, un0, hun1, hun0, eun⟩ : ∃ un1 un0, un1 = un10 / 4294967296 ∧ un0 = un10 % 4294967296 ∧ un1 * 4294967296 + un0 = un10 := ⟨_, _, rfl, rfl, eu⟩
  rw [← hun1, ← hun0] at two
  have l1 : un1 < 4294967296 := by clear dq dr two hun1; omega
  have l0 : un0 < 4294967296 := by rw [hun0]; exact Nat.mod_lt _ (by decide)
  obtain ⟨D1, R1, eD1, hD1, m1, m1'⟩ := digit_ex ((H + L) * 4294967296 + un1) Y hYpos (lin_fits hunY l1)
  obtain ⟨D0, R0, eD0, hD0, m2, m2'⟩ := digit_ex (R1 * 4294967296 + un0) Y hYpos (lin_fits m1' l0)
  obtain ⟨z1, z2⟩ := two D1 R1 D0 R0 m1 m2 m2'
  rw [z1] at dq
  rw [z2] at dr
  clear two z1 z2
  rw [dq, dr]
  clear dq dr
  obtain ⟨y1, y0, hy1, hy0, ey⟩ : ∃ y1 y0, y1 = Y / 4294967296 ∧ y0 = Y % 4294967296 ∧ y1 * 4294967296 + y0 = Y := ⟨_, _, rfl, rfl, Nat.div_add_mod' Y 4294967296⟩
  have ly0 : y0 < 4294967296 := by rw [hy0]; exact Nat.mod_lt _ (by decide)
  obtain ⟨ly1, ly1'⟩ := halves ey ly0 g1 g2
  have T := @div_loop1 (postA [.t 6, .t 7] (.tup [u (D1 * 4294967296 + D0), u (R0 / 2 ^ s)])) Y s y1 y0 (H + L) un1 un0 ey.symm ly1 ly1' ly0 hunY l1 (by
    intro e pm h2 h8 h9 h10 h11 h13 h14 h15
    rw [← eD1] at h15
    exact div_15 ey.symm ly1 ly1' ly0 hD1 hs m1 m1' l0 m2 m2' eD0 hD0 rfl rfl e pm h2 h8 h9 h10 h11 h13 h14 h15)
  clear eD1 eD0
  -- from the shift on
  have T6 : ∀ e pm, lk e 0 = u hi → lk e 1 = u lo → lk e 2 = u Y → lk e 8 = u s → wpA (SpH Try.prog gl) (AC.tl 6 c93) (postA [.t 6, .t 7] (.tup [u (D1 * 4294967296 + D0), u (R0 / 2 ^ s)])) ⟨e, [], pm⟩ := by
    intro e pm h0 h1 h2 h8
    have ec : AC.tl 6 c93 = AC.cutAt 8 (AC.tl 14 c93) (AC.tl 6 c93) := rfl
    rw [ec]
    generalize AC.tl 14 c93 = t at T ⊢
    simp only [c93, AC.tl, AC.cutAt]
    have w1 : IntKind.u64.wrap ((64 : Int) - s) = (64 - s : Nat) := by rw [wrap_u64] <;> omega
    have w1' : 0 ≤ IntKind.u64.wrap ((64 : Int) - s) := by rw [w1]; omega
    have w2 : (Y : Int) / 4294967296 = y1 := by omega
    have w3 : ¬ (Y : Int) / 4294967296 = 0 := by omega
    simp -implicitDefEqProofs [h0, h1, h2, h8, w1', shr32]
    have e12 : IntKind.u64.wrap ((lo : Int) * 2 ^ min s IntKind.u64.bits) = (un10 : Nat) := by
      rw [shl_u64 _ _ hs, wrap_u64m, ← hun10]
      generalize lo * 2 ^ s = z
      omega
    have e11 : bits BinOp.or IntKind.u64 (IntKind.u64.wrap ((hi : Int) * 2 ^ min s IntKind.u64.bits)) ((lo : Int).fdiv (2 ^ min (IntKind.u64.wrap (64 - (s : Int))).toNat IntKind.u64.bits)) = (H + L : Nat) := by
      rw [shl_u64 _ _ hs, hH, w1, Int.toNat_natCast, shr_u64' lo (64 - s) (by omega), hL, wrap_u64 (n := (H : Int)) (by omega) (by omega), bits_or_u64_nat H L (by omega) (by omega), hor]
    have e10 : bits BinOp.and IntKind.u64 (Y : Int) 4294967295 = (y0 : Nat) := by rw [mask32 _ (by omega) (by omega)]; omega
    have e14 : bits BinOp.and IntKind.u64 (un10 : Int) 4294967295 = (un0 : Nat) := by rw [mask32 _ (by omega) (by omega)]; omega
    have e13 : (un10 : Int).fdiv (2 ^ min 32 IntKind.u64.bits) = (un1 : Nat) := by rw [shr32]; omega
    rw [e11, e12, w2, e10, e14, e13]
    have w4 : ¬ (y1 : Int) = 0 := by omega
    have w5 : ¬ y1 = 0 := by omega
    simp -implicitDefEqProofs [w4, w5]
    have q0 := Nat.div_add_mod (H + L) y1
    have q1 : (H + L) / y1 ≤ (H + L) := Nat.div_le_self _ _
    have e15 : IntKind.u64.wrap (((H + L : Nat) : Int).tdiv y1) = ((H + L) / y1 : Nat) := by
      rw [Int.tdiv_eq_ediv_of_nonneg (by omega), ← Int.natCast_ediv]
      generalize (H + L) / y1 = q at *
      exact wrap_u64 (by omega) (by omega)
    simp only [Int.natCast_add] at e15
    rw [e15]
    refine T _ _ ?_ ?_ ?_ ?_ ?_ ?_ ?_ ?_ ?_ <;> simp -implicitDefEqProofs [h2, h8]
    rw [← Int.natCast_add, ← Int.natCast_ediv, ← Int.natCast_emod]
    generalize (H + L) / y1 = q at *
    generalize (H + L) % y1 = r at *
    rw [← Int.natCast_mul, Nat.mul_comm]
    generalize y1 * q = z at *
    have e2 : IntKind.u64.wrap (z : Int) = z := wrap_u64 (by omega) (by omega)
    rw [e2, wrap_u64] <;> omega
  refine s93 rfl rfl ?_
  have ec : c93 = AC.cutAt 6 (AC.tl 6 c93) c93 := rfl
  rw [ec]
  clear T
  generalize AC.tl 6 c93 = t at T6 ⊢
  simp only [c93, AC.tl, AC.cutAt]
  have b0 : ((y : Int) == 0) = false := by simp; omega
  have b1 : ¬ (y : Int) ≤ hi := by omega
  have b2 : ((hi : Int) == 0) = false := by simp; omega
  simp -implicitDefEqProofs [b0, b1, b2]
  refine onC_mk _ (lz64_spec hy) ?_
  rw [← hsd]
  have w1 : IntKind.u64.wrap (s : Int) = s := by rw [wrap_u64] <;> omega
  simp -implicitDefEqProofs [w1]
  refine T6 _ _ ?_ ?_ ?_ ?_ <;> simp -implicitDefEqProofs
  rw [shl_u64 _ _ hs, hY, wrap_u64] <;> omega
end Go.Ai
