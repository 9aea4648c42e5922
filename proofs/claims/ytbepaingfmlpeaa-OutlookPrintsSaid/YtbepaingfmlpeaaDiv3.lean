/- YtbepaingfmlpeaaDiv3: part of the abstract interpreter library (values, rules, soundness against the model) or of what a function of the seat computes. Conditions: as each theorem says. -/
import Derived.Test.YtbepaingfmlpeaaDiv2
set_option linter.unusedSimpArgs false
set_option linter.unusedVariables false
set_option linter.unusedSectionVars false
namespace Go.Ai
open Go.Proofs
theorem step_eq {q r y1 un : Nat} (h : 1 ≤ q) (he : q * y1 + r = un) : (q - 1) * y1 + (r + y1) = un := by
  obtain ⟨k, rfl⟩ : ∃ k, q = k + 1 := ⟨q - 1, by omega⟩
  rw [← he, Nat.add_mul, Nat.add_sub_cancel]; omega
theorem bl_x {i j : Nat} {Q : AE → St → Prop} {σ : St} : AE.bl i Q (.x j) σ = if j = i then Q .n σ else Q (.x j) σ := (rfl)
theorem sq_x {B : St → Prop} {Q : AE → St → Prop} {i : Nat} {σ : St} : AE.sq B Q (.x i) σ = Q (.x i) σ := (rfl)
theorem sq_n {B : St → Prop} {Q : AE → St → Prop} {σ : St} : AE.sq B Q .n σ = B σ := (rfl)
section
variable {Q : AE → St → Prop} {Y s y1 y0 un v v0 : Nat}
set_option maxRecDepth 10000 in
theorem div_loop1 (hY : Y = y1 * 4294967296 + y0) (hy1 : 2147483648 ≤ y1) (hy1' : y1 < 4294967296) (hy0 : y0 < 4294967296) (hun : un < Y) (hv : v < 4294967296)
    (tail : ∀ e pm, lk e 2 = u Y → lk e 8 = u s → lk e 9 = u y1 → lk e 10 = u y0 → lk e 11 = u un → lk e 13 = u v → lk e 14 = u v0 → lk e 15 = u ((un * 4294967296 + v) / Y) → wpA (SpH Try.prog gl) (AC.tl 15 c93) Q ⟨e, [], pm⟩)
    (e : List (Nat × AV)) (pm : List (Pl × Nat)) (h2 : lk e 2 = u Y) (h8 : lk e 8 = u s) (h9 : lk e 9 = u y1) (h10 : lk e 10 = u y0) (h11 : lk e 11 = u un) (h13 : lk e 13 = u v) (h14 : lk e 14 = u v0) (h15 : lk e 15 = u (un / y1)) (h16 : lk e 16 = u (un % y1)) :
    wpA (SpH Try.prog gl) (AC.tl 14 c93) Q ⟨e, [], pm⟩ := by
  have ec : AC.tl 14 c93 = AC.cutAt 1 (AC.tl 15 c93) (AC.tl 14 c93) := rfl
  rw [ec]
  generalize AC.tl 15 c93 = t at tail ⊢
  simp only [c93, AC.tl, AC.cutAt]
  simp
  have g1 := guess_lo (un := un) hy0 hy1 hv
  have hun' : un < y1 * 4294967296 + y0 := by omega
  have g2 := guess_hi hun' hy0 hy1
  rw [← hY] at g1
  generalize hD : (un * 4294967296 + v) / Y = D at tail g1
  have hD' : D = (un * 4294967296 + v) / (y1 * 4294967296 + y0) := by rw [← hY, hD]
  have more : ∀ q r, D ≤ q → q * y1 + r = un → (4294967296 ≤ q ∨ r * 4294967296 + v < q * y0) → 1 ≤ q ∧ D ≤ q - 1 := fun q r i1 i2 => digit_step (D := D) hun' hy0 hy1 hv hD' i1 i2
  have done : ∀ q r, D ≤ q → q * y1 + r = un → q * y0 ≤ r * 4294967296 + v → q = D := fun q r i1 i2 => digit_end hy1 hD' i1 i2
  clear hD hD'
  refine wp_lp (α := Nat × Nat) (fun x => ⟨[(2, u Y), (8, u s), (9, u y1), (10, u y0), (11, u un), (13, u v), (14, u v0), (15, u x.1), (16, u x.2)], [], []⟩)
    (fun x => D ≤ x.1 ∧ x.1 * y1 + x.2 = un ∧ x.1 ≤ 4294967297 ∧ x.2 < 4294967296) (fun x => x.1) ?_ (un / y1, un % y1) ?_ ?_
  · rintro ⟨q, r⟩ ⟨i1, i2, i3, i4⟩
    simp only at i1 i2 i3 i4
    have more := more q r i1 i2
    have over : 1 ≤ q → D ≤ q - 1 → 4294967296 ≤ r + y1 → q - 1 = D := fun a b c => done (q - 1) (r + y1) b (step_eq a i2) (digit_over hy0 (by omega) c)
    have done := done q r i1 i2
    have t1 : 1 ≤ q → IntKind.u64.wrap ((q : Int) - 1) = (q - 1 : Nat) := fun h => by rw [wrap_u64] <;> omega
    have t2 : IntKind.u64.wrap ((r : Int) + y1) = (r + y1 : Nat) := by rw [wrap_u64] <;> omega
    by_cases hA : 4294967296 ≤ q
    · obtain ⟨m1, m2⟩ := more (.inl hA)
      have hA' : (4294967296 : Int) ≤ q := by omega
      simp [hA']
      rw [t2]
      refine onB_dec (fun h => ?_) (fun h => ?_)
      · rw [wpA_ex, bl_x, if_neg (by decide), sq_x, bl_x, if_pos rfl, sq_n]
        refine tail _ _ ?_ ?_ ?_ ?_ ?_ ?_ ?_ ?_ <;> simp
        rw [t1 m1, over m1 m2 (by omega)]
      · simp
        refine lpQ_mk (q - 1, r + y1) ⟨m2, step_eq m1 i2, by simp only; omega, by simp only; omega⟩ (by simp only; omega) ?_
        apply weak_mk <;> simp
        exact t1 m1
    · have hA' : ¬ (4294967296 : Int) ≤ q := by omega
      have e1 : q * y0 ≤ 4294967295 * 4294967295 := Nat.mul_le_mul (by omega) (by omega)
      have t3 : IntKind.u64.wrap ((q : Int) * y0) = (q * y0 : Nat) := by rw [← Int.natCast_mul, wrap_u64] <;> omega
      have t4 : IntKind.u64.wrap (4294967296 * (r : Int)) = (4294967296 * r : Nat) := by rw [wrap_u64] <;> omega
      have t5 : IntKind.u64.wrap (((4294967296 * r : Nat) : Int) + v) = (4294967296 * r + v : Nat) := by rw [wrap_u64] <;> omega
      simp [hA']
      rw [t4, t5, t3]
      refine onB_dec (fun hB => ?_) (fun hB => ?_)
      · have hB : 4294967296 * r + v < q * y0 := by omega
        obtain ⟨m1, m2⟩ := more (.inr (by omega))
        simp
        rw [t2]
        refine onB_dec (fun h => ?_) (fun h => ?_)
        · rw [wpA_ex, bl_x, if_neg (by decide), sq_x, bl_x, if_pos rfl, sq_n]
          refine tail _ _ ?_ ?_ ?_ ?_ ?_ ?_ ?_ ?_ <;> simp
          rw [t1 m1, over m1 m2 (by omega)]
        · simp
          refine lpQ_mk (q - 1, r + y1) ⟨m2, step_eq m1 i2, by simp only; omega, by simp only; omega⟩ (by simp only; omega) ?_
          apply weak_mk <;> simp
          exact t1 m1
      · have hB : q * y0 ≤ 4294967296 * r + v := by omega
        rw [wpA_ex, sq_x, sq_x, bl_x, if_pos rfl, sq_n]
        refine tail _ _ ?_ ?_ ?_ ?_ ?_ ?_ ?_ ?_ <;> simp
        rw [done (by omega)]
  · refine ⟨g1, ?_, g2, ?_⟩
    · simp only; rw [Nat.mul_comm]; exact Nat.div_add_mod un y1
    · simp only; have := Nat.mod_lt un (show 0 < y1 by omega); omega
  · apply weak_mk <;> simp [h2, h8, h9, h10, h11, h13, h14, h15, h16]
set_option maxRecDepth 10000 in
theorem div_loop2 (hY : Y = y1 * 4294967296 + y0) (hy1 : 2147483648 ≤ y1) (hy1' : y1 < 4294967296) (hy0 : y0 < 4294967296) (hun : un < Y) (hv : v < 4294967296)
    (tail : ∀ e pm, lk e 2 = u Y → lk e 8 = u s → lk e 9 = u y1 → lk e 10 = u y0 → lk e 17 = u un → lk e 14 = u v → lk e 15 = u v0 → lk e 18 = u ((un * 4294967296 + v) / Y) → wpA (SpH Try.prog gl) (AC.tl 19 c93) Q ⟨e, [], pm⟩)
    (e : List (Nat × AV)) (pm : List (Pl × Nat)) (h2 : lk e 2 = u Y) (h8 : lk e 8 = u s) (h9 : lk e 9 = u y1) (h10 : lk e 10 = u y0) (h11 : lk e 17 = u un) (h13 : lk e 14 = u v) (h14 : lk e 15 = u v0) (h15 : lk e 18 = u (un / y1)) (h16 : lk e 16 = u (un % y1)) :
    wpA (SpH Try.prog gl) (AC.tl 18 c93) Q ⟨e, [], pm⟩ := by
  have ec : AC.tl 18 c93 = AC.cutAt 1 (AC.tl 19 c93) (AC.tl 18 c93) := rfl
  rw [ec]
  generalize AC.tl 19 c93 = t at tail ⊢
  simp only [c93, AC.tl, AC.cutAt]
  simp
  have g1 := guess_lo (un := un) hy0 hy1 hv
  have hun' : un < y1 * 4294967296 + y0 := by omega
  have g2 := guess_hi hun' hy0 hy1
  rw [← hY] at g1
  generalize hD : (un * 4294967296 + v) / Y = D at tail g1
  have hD' : D = (un * 4294967296 + v) / (y1 * 4294967296 + y0) := by rw [← hY, hD]
  have more : ∀ q r, D ≤ q → q * y1 + r = un → (4294967296 ≤ q ∨ r * 4294967296 + v < q * y0) → 1 ≤ q ∧ D ≤ q - 1 := fun q r i1 i2 => digit_step (D := D) hun' hy0 hy1 hv hD' i1 i2
  have done : ∀ q r, D ≤ q → q * y1 + r = un → q * y0 ≤ r * 4294967296 + v → q = D := fun q r i1 i2 => digit_end hy1 hD' i1 i2
  clear hD hD'
  refine wp_lp (α := Nat × Nat) (fun x => ⟨[(2, u Y), (8, u s), (9, u y1), (10, u y0), (17, u un), (14, u v), (15, u v0), (18, u x.1), (16, u x.2)], [], []⟩)
    (fun x => D ≤ x.1 ∧ x.1 * y1 + x.2 = un ∧ x.1 ≤ 4294967297 ∧ x.2 < 4294967296) (fun x => x.1) ?_ (un / y1, un % y1) ?_ ?_
  · rintro ⟨q, r⟩ ⟨i1, i2, i3, i4⟩
    simp only at i1 i2 i3 i4
    have more := more q r i1 i2
    have over : 1 ≤ q → D ≤ q - 1 → 4294967296 ≤ r + y1 → q - 1 = D := fun a b c => done (q - 1) (r + y1) b (step_eq a i2) (digit_over hy0 (by omega) c)
    have done := done q r i1 i2
    have t1 : 1 ≤ q → IntKind.u64.wrap ((q : Int) - 1) = (q - 1 : Nat) := fun h => by rw [wrap_u64] <;> omega
    have t2 : IntKind.u64.wrap ((r : Int) + y1) = (r + y1 : Nat) := by rw [wrap_u64] <;> omega
    by_cases hA : 4294967296 ≤ q
    · obtain ⟨m1, m2⟩ := more (.inl hA)
      have hA' : (4294967296 : Int) ≤ q := by omega
      simp [hA']
      rw [t2]
      refine onB_dec (fun h => ?_) (fun h => ?_)
      · rw [wpA_ex, bl_x, if_neg (by decide), sq_x, bl_x, if_pos rfl, sq_n]
        refine tail _ _ ?_ ?_ ?_ ?_ ?_ ?_ ?_ ?_ <;> simp
        rw [t1 m1, over m1 m2 (by omega)]
      · simp
        refine lpQ_mk (q - 1, r + y1) ⟨m2, step_eq m1 i2, by simp only; omega, by simp only; omega⟩ (by simp only; omega) ?_
        apply weak_mk <;> simp
        exact t1 m1
    · have hA' : ¬ (4294967296 : Int) ≤ q := by omega
      have e1 : q * y0 ≤ 4294967295 * 4294967295 := Nat.mul_le_mul (by omega) (by omega)
      have t3 : IntKind.u64.wrap ((q : Int) * y0) = (q * y0 : Nat) := by rw [← Int.natCast_mul, wrap_u64] <;> omega
      have t4 : IntKind.u64.wrap (4294967296 * (r : Int)) = (4294967296 * r : Nat) := by rw [wrap_u64] <;> omega
      have t5 : IntKind.u64.wrap (((4294967296 * r : Nat) : Int) + v) = (4294967296 * r + v : Nat) := by rw [wrap_u64] <;> omega
      simp [hA']
      rw [t4, t5, t3]
      refine onB_dec (fun hB => ?_) (fun hB => ?_)
      · have hB : 4294967296 * r + v < q * y0 := by omega
        obtain ⟨m1, m2⟩ := more (.inr (by omega))
        simp
        rw [t2]
        refine onB_dec (fun h => ?_) (fun h => ?_)
        · rw [wpA_ex, bl_x, if_neg (by decide), sq_x, bl_x, if_pos rfl, sq_n]
          refine tail _ _ ?_ ?_ ?_ ?_ ?_ ?_ ?_ ?_ <;> simp
          rw [t1 m1, over m1 m2 (by omega)]
        · simp
          refine lpQ_mk (q - 1, r + y1) ⟨m2, step_eq m1 i2, by simp only; omega, by simp only; omega⟩ (by simp only; omega) ?_
          apply weak_mk <;> simp
          exact t1 m1
      · have hB : q * y0 ≤ 4294967296 * r + v := by omega
        rw [wpA_ex, sq_x, sq_x, bl_x, if_pos rfl, sq_n]
        refine tail _ _ ?_ ?_ ?_ ?_ ?_ ?_ ?_ ?_ <;> simp
        rw [done (by omega)]
  · refine ⟨g1, ?_, g2, ?_⟩
    · simp only; rw [Nat.mul_comm]; exact Nat.div_add_mod un y1
    · simp only; have := Nat.mod_lt un (show 0 < y1 by omega); omega
  · apply weak_mk <;> simp [h2, h8, h9, h10, h11, h13, h14, h15, h16]
end

/-! ### Plain laws of the shift -/
theorem shift_fits {y : Nat} (h0 : 0 < y) (hy : y < 18446744073709551616) : 9223372036854775808 ≤ y * 2 ^ (64 - lenN y) ∧ y * 2 ^ (64 - lenN y) < 18446744073709551616 := by
  have h := lenN_le (x := y) (k := 64) (by omega)
  have hl : lenN y = Nat.log2 y + 1 := by unfold lenN; rw [if_neg (by omega)]
  have h1 := Nat.log2_self_le (n := y) (by omega)
  have h2 := Nat.lt_log2_self (n := y)
  rw [hl] at h ⊢
  have e1 : 2 ^ Nat.log2 y * 2 ^ (64 - (Nat.log2 y + 1)) = 9223372036854775808 := by
    rw [← Nat.pow_add, show Nat.log2 y + (64 - (Nat.log2 y + 1)) = 63 by omega]
  have e2 : 2 ^ (Nat.log2 y + 1) * 2 ^ (64 - (Nat.log2 y + 1)) = 18446744073709551616 := by
    rw [← Nat.pow_add, show Nat.log2 y + 1 + (64 - (Nat.log2 y + 1)) = 64 by omega]
  have p : 0 < 2 ^ (64 - (Nat.log2 y + 1)) := Nat.two_pow_pos _
  constructor
  · rw [← e1]; exact Nat.mul_le_mul_right _ h1
  · rw [← e2]; exact Nat.mul_lt_mul_of_pos_right h2 p
theorem two_digits {un v v0 Y D1 D0 R1 R0 : Nat} (h1 : D1 * Y + R1 = un * 4294967296 + v) (h2 : D0 * Y + R0 = R1 * 4294967296 + v0) (hR : R0 < Y) :
    (un * 18446744073709551616 + (v * 4294967296 + v0)) / Y = D1 * 4294967296 + D0 ∧ (un * 18446744073709551616 + (v * 4294967296 + v0)) % Y = R0 := by
  have e : R0 + Y * (D1 * 4294967296 + D0) = un * 18446744073709551616 + (v * 4294967296 + v0) := by
    rw [Nat.mul_comm Y, Nat.add_mul, Nat.mul_right_comm]
    omega
  exact (Nat.div_mod_unique (by omega)).2 ⟨e, hR⟩
theorem shifted {hi lo y s : Nat} (hs : s ≤ 64) (hlo : lo < 18446744073709551616) :
    (hi * 2 ^ s + lo / 2 ^ (64 - s)) * 18446744073709551616 + lo * 2 ^ s % 18446744073709551616 = (hi * 18446744073709551616 + lo) * 2 ^ s := by
  have e : (18446744073709551616 : Nat) = 2 ^ (64 - s) * 2 ^ s := by rw [← Nat.pow_add, show 64 - s + s = 64 by omega]
  have h1 : lo * 2 ^ s / 18446744073709551616 = lo / 2 ^ (64 - s) := by rw [e]; exact Nat.mul_div_mul_right _ _ (Nat.two_pow_pos s)
  have h2 := Nat.div_add_mod (lo * 2 ^ s) 18446744073709551616
  rw [h1] at h2
  rw [Nat.add_mul, Nat.add_mul, Nat.mul_right_comm hi]
  omega
theorem sub_mod {a v P R : Nat} (h : P + R = a * 4294967296 + v) (hR : R < 18446744073709551616) :
    IntKind.u64.wrap (IntKind.u64.wrap (IntKind.u64.wrap ((a : Int) * 4294967296) + v) - IntKind.u64.wrap (P : Int)) = (R : Nat) := by
  simp only [wrap_u64m]
  omega
end Go.Ai
