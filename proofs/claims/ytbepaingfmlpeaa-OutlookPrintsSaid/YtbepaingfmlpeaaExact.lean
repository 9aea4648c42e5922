/- YtbepaingfmlpeaaExact: part of the abstract interpreter library (values, rules, soundness against the model) or of what a function of the seat computes. Conditions: as each theorem says. -/
import Derived.Test.YtbepaingfmlpeaaDiv4
import Derived.Test.YtbepaingfmlpeaaAiExt
import Derived.Laws.Externs
set_option linter.unusedSimpArgs false
set_option linter.unusedVariables false
namespace Go.Ai
open Go.Proofs Go.RowKit
def sub64Entry : Array Value → Sem Value := fun args => do
  let (x, y, b) ← Extern.MathBitsCarry.three "Sub64" args
  pure (Extern.MathBitsCarry.pair ((x + Extern.MathBitsCarry.m64 - y - b) % Extern.MathBitsCarry.m64) (if x < y + b then 1 else 0))
theorem run_sub64 {P : Program} (X Y k : Nat) (hk : k ≤ 1) (w : World) :
    (sub64Entry #[.int .u64 X, .int .u64 Y, .int .u64 k]).run P w = .ok (.tuple #[.int .u64 ((X + 18446744073709551616 - Y - k) % 18446744073709551616 : Nat), .int .u64 (if X < Y + k then 1 else 0 : Nat)]) w := by
  have key : (sub64Entry #[.int .u64 (X : Int), .int .u64 (Y : Int), .int .u64 (k : Int)]).run P w =
      .ok (Extern.MathBitsCarry.pair (((X : Int).toNat + Extern.MathBitsCarry.m64 - (Y : Int).toNat - k) % Extern.MathBitsCarry.m64) (if (X : Int).toNat < (Y : Int).toNat + k then 1 else 0)) w := by
    have : k = 0 ∨ k = 1 := by omega
    rcases this with rfl | rfl <;> rfl
  rw [key]
  simp only [Extern.MathBitsCarry.pair, Int.toNat_natCast]
  rfl
theorem add64_spec (x y c : Nat) (hc : c ≤ 1) : Sp Try.prog gl 98 [u x, u y, u c] (.tup [u ((x + y + c) % 18446744073709551616), u ((x + y + c) / 18446744073709551616)]) := by
  refine ext_spec (fn := Try.f98) (e := add64Entry) Try.func98 (by kernel_rfl) (by kernel_rfl) (by kernel_rfl) (by kernel_rfl) ?_
  intro S gb w vs h
  simp only [PRlist, PR] at h
  obtain ⟨_, _, rfl, rfl, _, _, rfl, rfl, _, _, rfl, rfl, rfl⟩ := h
  refine ⟨_, run_add64 x y c (by omega) (by omega) (by omega) (by omega) w, ?_⟩
  simp only [PR]
  refine ⟨_, rfl, ?_⟩
  simp only [PRlist, PR]
  exact ⟨_, _, rfl, by congr 1, _, _, rfl, by congr 1, rfl⟩
theorem sub64_spec (x y c : Nat) (hc : c ≤ 1) : Sp Try.prog gl 104 [u x, u y, u c] (.tup [u ((x + 18446744073709551616 - y - c) % 18446744073709551616), u (if x < y + c then 1 else 0)]) := by
  refine ext_spec (fn := Try.f104) (e := sub64Entry) Try.func104 (by kernel_rfl) (by kernel_rfl) (by kernel_rfl) (by kernel_rfl) ?_
  intro S gb w vs h
  simp only [PRlist, PR] at h
  obtain ⟨_, _, rfl, rfl, _, _, rfl, rfl, _, _, rfl, rfl, rfl⟩ := h
  refine ⟨_, run_sub64 x y c hc w, ?_⟩
  simp only [PR]
  refine ⟨_, rfl, ?_⟩
  simp only [PRlist, PR]
  exact ⟨_, _, rfl, rfl, _, _, rfl, rfl, rfl⟩
theorem xadd_spec (a b : Nat) (ha : a < 340282366920938463463374607431768211456) (hb : b < 340282366920938463463374607431768211456) :
    Sp Try.prog gl 70 [wide a, wide b] (if a + b < 340282366920938463463374607431768211456 then .tup [wide (a + b), i6 0] else .tup [wide 0, i6 3]) := by
  have A1 := add64_spec (a % 18446744073709551616) (b % 18446744073709551616) 0 (by omega)
  have A2 := add64_spec (a / 18446744073709551616) (b / 18446744073709551616) ((a % 18446744073709551616 + b % 18446744073709551616) / 18446744073709551616) (by omega)
  simp only [Nat.add_zero] at A1
  obtain ⟨up, hup⟩ : ∃ up, up = (a % 18446744073709551616 + b % 18446744073709551616) / 18446744073709551616 := ⟨_, rfl⟩
  obtain ⟨lo, hlo⟩ : ∃ lo, lo = (a % 18446744073709551616 + b % 18446744073709551616) % 18446744073709551616 := ⟨_, rfl⟩
  rw [← hup, ← hlo] at A1
  rw [← hup] at A2
  obtain ⟨ov, hov⟩ : ∃ ov, ov = (a / 18446744073709551616 + b / 18446744073709551616 + up) / 18446744073709551616 := ⟨_, rfl⟩
  obtain ⟨hi, hhi⟩ : ∃ hi, hi = (a / 18446744073709551616 + b / 18446744073709551616 + up) % 18446744073709551616 := ⟨_, rfl⟩
  rw [← hov, ← hhi] at A2
  refine s70 rfl rfl ?_
  simp -implicitDefEqProofs [c70, wide]
  refine onC_mk _ A1 ?_
  simp -implicitDefEqProofs
  refine onC_mk _ A2 ?_
  by_cases h : a + b < 340282366920938463463374607431768211456
  · have e1 : ov = 0 := by omega
    have e2 : (a + b) / 18446744073709551616 = hi := by omega
    have e3 : (a + b) % 18446744073709551616 = lo := by omega
    rw [if_pos h, e2, e3, e1]
    clear hup hlo hov hhi e2 e3
    simp -implicitDefEqProofs
  · have e1 : ov = 1 := by omega
    rw [if_neg h, e1]
    clear hup hlo hov hhi
    simp -implicitDefEqProofs
theorem xless_spec (a b : Nat) (ha : a < 340282366920938463463374607431768211456) (hb : b < 340282366920938463463374607431768211456) :
    Sp Try.prog gl 94 [wide a, wide b] (if b ≤ a then .tup [wide (a - b), i6 0] else .tup [wide 0, i6 3]) := by
  have A1 := sub64_spec (a % 18446744073709551616) (b % 18446744073709551616) 0 (by omega)
  simp only [Nat.add_zero, Nat.sub_zero] at A1
  obtain ⟨dn, hdn⟩ : ∃ dn, dn = (if a % 18446744073709551616 < b % 18446744073709551616 then 1 else 0) := ⟨_, rfl⟩
  have hdn1 : dn ≤ 1 := by rw [hdn]; split <;> omega
  have A2 := sub64_spec (a / 18446744073709551616) (b / 18446744073709551616) dn hdn1
  obtain ⟨lo, hlo⟩ : ∃ lo, lo = (a % 18446744073709551616 + 18446744073709551616 - b % 18446744073709551616) % 18446744073709551616 := ⟨_, rfl⟩
  rw [← hdn, ← hlo] at A1
  obtain ⟨ov, hov⟩ : ∃ ov, ov = (if a / 18446744073709551616 < b / 18446744073709551616 + dn then 1 else 0) := ⟨_, rfl⟩
  obtain ⟨hi, hhi⟩ : ∃ hi, hi = (a / 18446744073709551616 + 18446744073709551616 - b / 18446744073709551616 - dn) % 18446744073709551616 := ⟨_, rfl⟩
  rw [← hov, ← hhi] at A2
  refine s94 rfl rfl ?_
  simp -implicitDefEqProofs [c94, wide]
  refine onC_mk _ A1 ?_
  simp -implicitDefEqProofs
  refine onC_mk _ A2 ?_
  by_cases h : b ≤ a
  · have e1 : ov = 0 := by rw [hov]; split at hdn <;> rw [if_neg (by omega)]
    have e2 : (a - b) / 18446744073709551616 = hi := by split at hdn <;> omega
    have e3 : (a - b) % 18446744073709551616 = lo := by split at hdn <;> omega
    rw [if_pos h, e2, e3, e1]
    clear hdn hlo hov hhi e2 e3 hdn1
    simp -implicitDefEqProofs
  · have e1 : ov = 1 := by rw [hov]; split at hdn <;> rw [if_pos (by omega)]
    rw [if_neg h, e1]
    clear hdn hlo hov hhi hdn1
    simp -implicitDefEqProofs
theorem floor_parts (a n : Nat) (h0 : 0 < n) :
    (a / 18446744073709551616 % n * 18446744073709551616 + a % 18446744073709551616) / n = a / n % 18446744073709551616 + 0 ∧ a / 18446744073709551616 / n = a / n / 18446744073709551616 ∧
    (a / 18446744073709551616 % n * 18446744073709551616 + a % 18446744073709551616) % n = a % n := by
  have e1 := Nat.div_add_mod a 18446744073709551616
  have e2 := Nat.div_add_mod (a / 18446744073709551616) n
  have e3 : a / 18446744073709551616 / n = a / n / 18446744073709551616 := by rw [Nat.div_div_eq_div_mul, Nat.div_div_eq_div_mul, Nat.mul_comm]
  have hr := Nat.mod_lt (a / 18446744073709551616) h0
  obtain ⟨H, hH⟩ : ∃ H, H = a / 18446744073709551616 := ⟨_, rfl⟩
  obtain ⟨l, hl⟩ : ∃ l, l = a % 18446744073709551616 := ⟨_, rfl⟩
  have hl2 : l < 18446744073709551616 := by rw [hl]; exact Nat.mod_lt _ (by decide)
  rw [← hH, ← hl] at e1 ⊢
  rw [← hH] at e2 e3 hr
  obtain ⟨Q, hQ⟩ : ∃ Q, Q = H / n := ⟨_, rfl⟩
  obtain ⟨R, hR⟩ : ∃ R, R = H % n := ⟨_, rfl⟩
  rw [← hQ, ← hR] at e2
  rw [← hR] at hr ⊢
  rw [← hQ]
  rw [← hQ] at e3
  have e4 : a = n * (Q * 18446744073709551616) + (R * 18446744073709551616 + l) := by
    rw [← e1, ← e2, ← Nat.mul_assoc]; generalize n * Q = z; omega
  have e5 : (R * 18446744073709551616 + l) / n < 18446744073709551616 := by
    refine div_lt_of h0 ?_
    clear e1 e2 e3 e4 hH hQ hR
    omega
  have e6 : a / n = Q * 18446744073709551616 + (R * 18446744073709551616 + l) / n := by
    conv => lhs; rw [e4]
    rw [Nat.mul_add_div h0]
  refine ⟨?_, e3, ?_⟩
  · rw [e6]
    generalize (R * 18446744073709551616 + l) / n = z at *
    clear e1 e2 e3 e4 hH hQ hR e6 hl hr
    omega
  · conv => rhs; rw [e4]
    rw [Nat.mul_add_mod]
theorem floor_spec (a n : Nat) (h0 : 0 < n) (ha : a < 340282366920938463463374607431768211456) (hn : n < 18446744073709551616) :
    Sp Try.prog gl 57 [wide a, u n] (.tup [wide (a / n), u (a % n), i6 0]) := by
  obtain ⟨p1, p2, p3⟩ := floor_parts a n h0
  have D1 := div64_spec 0 (a / 18446744073709551616) n (by omega) hn h0
  rw [Nat.zero_mul, Nat.zero_add] at D1
  have D2 := div64_spec (a / 18446744073709551616 % n) (a % 18446744073709551616) n (Nat.mod_lt _ (by decide)) hn (Nat.mod_lt _ h0)
  rw [p1, p3, Nat.add_zero] at D2
  rw [p2] at D1
  refine s57 rfl rfl ?_
  have b0 : ((n : Int) == 0) = false := by simp; omega
  simp -implicitDefEqProofs [c57, wide, b0]
  generalize a / 18446744073709551616 = H at *
  generalize a % 18446744073709551616 = L at *
  generalize a / n / 18446744073709551616 = QH at *
  generalize a / n % 18446744073709551616 = QL at *
  generalize H % n = R at *
  generalize a % n = RR at *
  refine onC_mk _ D1 ?_
  simp -implicitDefEqProofs
  refine onC_mk _ D2 ?_
  simp -implicitDefEqProofs
theorem xmore_spec (a n : Nat) (ha : a < 340282366920938463463374607431768211456) (hn : n < 18446744073709551616) :
    Sp Try.prog gl 64 [wide a, u n] (if a * n < 340282366920938463463374607431768211456 then .tup [wide (a * n), i6 0] else .tup [wide 0, i6 3]) := by
  obtain ⟨H, hH⟩ : ∃ H, H = a / 18446744073709551616 := ⟨_, rfl⟩
  obtain ⟨L, hL⟩ : ∃ L, L = a % 18446744073709551616 := ⟨_, rfl⟩
  have hH2 : H < 18446744073709551616 := by omega
  have hL2 : L < 18446744073709551616 := by omega
  have T1 := times_spec L n hL2 hn
  have T2 := times_spec H n hH2 hn
  have e1 : a * n = H * n * 18446744073709551616 + L * n := by
    have := Nat.div_add_mod a 18446744073709551616
    rw [← hH, ← hL] at this
    rw [← this, Nat.add_mul, Nat.mul_comm 18446744073709551616 H, Nat.mul_right_comm]
  have b1 : L * n ≤ 18446744073709551615 * 18446744073709551615 := Nat.mul_le_mul (by omega) (by omega)
  have b2 : H * n ≤ 18446744073709551615 * 18446744073709551615 := Nat.mul_le_mul (by omega) (by omega)
  rw [e1]
  clear e1
  generalize H * n = X at *
  generalize L * n = Y at *
  have A := xadd_spec Y (X % 18446744073709551616 * 18446744073709551616) (by omega) (by omega)
  obtain ⟨X1, hX1⟩ : ∃ X1, X1 = X / 18446744073709551616 := ⟨_, rfl⟩
  obtain ⟨X0, hX0⟩ : ∃ X0, X0 = X % 18446744073709551616 := ⟨_, rfl⟩
  simp only [wide, ← hX1, ← hX0] at T2
  rw [← hX0] at A
  have w0 : wide (X0 * 18446744073709551616) = .agg [u X0, u 0] := by unfold wide; rw [Nat.mul_div_cancel _ (by decide), Nat.mul_mod_left]
  rw [w0] at A
  simp only [wide] at T1 A
  rw [show Y + X0 * 18446744073709551616 = X0 * 18446744073709551616 + Y by omega] at A
  refine s64 rfl rfl ?_
  simp -implicitDefEqProofs [c64, wide]
  rw [← hH, ← hL]
  refine onC_mk _ T1 ?_
  simp -implicitDefEqProofs
  refine onC_mk _ T2 ?_
  by_cases h : X1 = 0
  · have e2 : X0 = X := by omega
    rw [e2] at A ⊢
    rw [h]
    clear hX1 hX0 e2 w0 hH hL
    simp -implicitDefEqProofs
    refine onC_mk _ A ?_
    by_cases h2 : X * 18446744073709551616 + Y < 340282366920938463463374607431768211456
    · rw [if_pos h2, if_pos h2]; simp -implicitDefEqProofs
    · rw [if_neg h2, if_neg h2]; simp -implicitDefEqProofs
  · have h2 : ¬ (X * 18446744073709551616 + Y < 340282366920938463463374607431768211456) := by omega
    have h3 : ((X1 : Int) != 0) = true := by simp [h]
    rw [if_neg h2]
    clear hX1 hX0 w0 hH hL h2 A T2 T1
    simp -implicitDefEqProofs [h3]
theorem xceil_spec (a n : Nat) (h0 : 0 < n) (ha : a < 340282366920938463463374607431768211456) (hn : n < 18446744073709551616) :
    Sp Try.prog gl 73 [wide a, u n] (.tup [wide ((a + n - 1) / n), i6 0]) := by
  have F := floor_spec a n h0 ha hn
  obtain ⟨R, hR⟩ : ∃ R, R = a % n := ⟨_, rfl⟩
  obtain ⟨Q, hQ⟩ : ∃ Q, Q = a / n := ⟨_, rfl⟩
  rw [← hR, ← hQ] at F
  have e := Nat.div_add_mod a n
  have hr := Nat.mod_lt a h0
  rw [← hR, ← hQ] at e
  rw [← hR] at hr
  have hc : (a + n - 1) / n = if R = 0 then Q else Q + 1 := by
    split
    · apply Nat.div_eq_of_lt_le
      · rw [Nat.mul_comm]; omega
      · rw [Nat.add_mul, Nat.mul_comm]; omega
    · apply Nat.div_eq_of_lt_le
      · rw [Nat.add_mul, Nat.mul_comm]; omega
      · rw [Nat.add_mul, Nat.add_mul, Nat.mul_comm]; omega
  have hQa : Q + R ≤ a := by
    rw [← e]
    have := Nat.mul_le_mul_right Q (show 1 ≤ n from h0)
    omega
  have A := xadd_spec Q 1 (by omega) (by omega)
  have w1 : wide 1 = .agg [u 0, u 1] := by simp [wide]
  rw [w1] at A
  refine s73 rfl rfl ?_
  simp -implicitDefEqProofs [c73, wide]
  refine onC_mk _ F ?_
  rw [hc]
  clear hc hR hQ
  simp only [wide] at F A ⊢
  by_cases h : R = 0
  · rw [if_pos h, h]
    simp -implicitDefEqProofs
  · have h3 : ((R : Int) == 0) = false := by simp [h]
    rw [if_neg h]
    rw [if_pos (by omega)] at A
    simp -implicitDefEqProofs [h3]
    refine onC_mk _ A ?_
    simp -implicitDefEqProofs
end Go.Ai
