/- YtcdomokjdfmnlaaDoorP4: part of the abstract interpreter library (values, rules, soundness against the model) or of what a function of the seat computes. Conditions: as each theorem says. -/
import Derived.Test.YtcdomokjdfmnlaaDoorP3
import Derived.Test.YtcdomokjdfmnlaaDoorAiExt
import Derived.Laws.Externs
set_option linter.unusedSimpArgs false
set_option linter.unusedVariables false
namespace Go.Ai
open Go.Proofs Go.RowKit
def sub64Entry : Array Value → Sem Value := fun args => do
  let (x, y, b) ← Extern.MathBitsCarry.three "Sub64" args
  pure (Extern.MathBitsCarry.pair ((x + Extern.MathBitsCarry.m64 - y - b) % Extern.MathBitsCarry.m64) (if x < y + b then 1 else 0))
theorem run_sub64 {P : Program} (X Y k : Nat) (hk : k ≤ 1) (w : World) :
    (sub64Entry #[.int .u64 X, .int .u64 Y, .int .u64 k]).run P w = .ok (.tuple #[.int .u64 ((X + 18446744073709551616 - Y - k) % 18446744073709551616 : Nat), .int .u64 (if X < Y + k then 1 else 0 : Nat)]) w := by
  have key : (sub64Entry #[.int .u64 (X : Int), .int .u64 (Y : Int), .int .u64 (k : Int)]).run P w =
      .ok (Extern.MathBitsCarry.pair (((X : Int).toNat + Extern.MathBitsCarry.m64 - (Y : Int).toNat - k) % Extern.MathBitsCarry.m64) (if (X : Int).toNat < (Y : Int).toNat + k then 1 else 0)) w := by
    have : k = 0 ∨ k = 1 := by omega
    rcases this with rfl | rfl <;> rfl
  rw [key]
  simp only [Extern.MathBitsCarry.pair, Int.toNat_natCast]
  rfl
theorem add64_spec (x y c : Nat) (hc : c ≤ 1) : Sp Tryd.prog gl 179 [u x, u y, u c] (.tup [u ((x + y + c) % 18446744073709551616), u ((x + y + c) / 18446744073709551616)]) := by
  refine ext_spec (fn := Tryd.f179) (e := add64Entry) Tryd.func179 (by kernel_rfl) (by kernel_rfl) (by kernel_rfl) (by kernel_rfl) ?_
  intro S gb w vs h
  simp only [PRlist, PR] at h
  obtain ⟨_, _, rfl, rfl, _, _, rfl, rfl, _, _, rfl, rfl, rfl⟩ := h
  refine ⟨_, run_add64 x y c (by omega) (by omega) (by omega) (by omega) w, ?_⟩
  simp only [PR]
  refine ⟨_, rfl, ?_⟩
  simp only [PRlist, PR]
  exact ⟨_, _, rfl, by congr 1, _, _, rfl, by congr 1, rfl⟩
theorem xadd_spec (a b : Nat) (ha : a < 340282366920938463463374607431768211456) (hb : b < 340282366920938463463374607431768211456) :
    Sp Tryd.prog gl 149 [wide a, wide b] (if a + b < 340282366920938463463374607431768211456 then .tup [wide (a + b), i6 0] else .tup [wide 0, i6 3]) := by
  have A1 := add64_spec (a % 18446744073709551616) (b % 18446744073709551616) 0 (by omega)
  have A2 := add64_spec (a / 18446744073709551616) (b / 18446744073709551616) ((a % 18446744073709551616 + b % 18446744073709551616) / 18446744073709551616) (by omega)
  simp only [Nat.add_zero] at A1
  obtain ⟨up, hup⟩ : ∃ up, up = (a % 18446744073709551616 + b % 18446744073709551616) / 18446744073709551616 := ⟨_, rfl⟩
  obtain ⟨lo, hlo⟩ : ∃ lo, lo = (a % 18446744073709551616 + b % 18446744073709551616) % 18446744073709551616 := ⟨_, rfl⟩
  rw [← hup, ← hlo] at A1
  rw [← hup] at A2
  obtain ⟨ov, hov⟩ : ∃ ov, ov = (a / 18446744073709551616 + b / 18446744073709551616 + up) / 18446744073709551616 := ⟨_, rfl⟩
  obtain ⟨hi, hhi⟩ : ∃ hi, hi = (a / 18446744073709551616 + b / 18446744073709551616 + up) % 18446744073709551616 := ⟨_, rfl⟩
  rw [← hov, ← hhi] at A2
  refine s149 rfl rfl ?_
  simp -implicitDefEqProofs [c149, wide]
  refine onC_mk _ A1 ?_
  simp -implicitDefEqProofs
  refine onC_mk _ A2 ?_
  by_cases h : a + b < 340282366920938463463374607431768211456
  · have e1 : ov = 0 := by omega
    have e2 : (a + b) / 18446744073709551616 = hi := by omega
    have e3 : (a + b) % 18446744073709551616 = lo := by omega
    rw [if_pos h, e2, e3, e1]
    clear hup hlo hov hhi e2 e3
    simp -implicitDefEqProofs
  · have e1 : ov = 1 := by omega
    rw [if_neg h, e1]
    clear hup hlo hov hhi
    simp -implicitDefEqProofs
theorem floor_parts (a n : Nat) (h0 : 0 < n) :
    (a / 18446744073709551616 % n * 18446744073709551616 + a % 18446744073709551616) / n = a / n % 18446744073709551616 + 0 ∧ a / 18446744073709551616 / n = a / n / 18446744073709551616 ∧
    (a / 18446744073709551616 % n * 18446744073709551616 + a % 18446744073709551616) % n = a % n := by
  have e1 := Nat.div_add_mod a 18446744073709551616
  have e2 := Nat.div_add_mod (a / 18446744073709551616) n
  have e3 : a / 18446744073709551616 / n = a / n / 18446744073709551616 := by rw [Nat.div_div_eq_div_mul, Nat.div_div_eq_div_mul, Nat.mul_comm]
  have hr := Nat.mod_lt (a / 18446744073709551616) h0
  obtain ⟨H, hH⟩ : ∃ H, H = a / 18446744073709551616 := ⟨_, rfl⟩
  obtain ⟨l, hl⟩ : ∃ l, l = a % 18446744073709551616 := ⟨_, rfl⟩
  have hl2 : l < 18446744073709551616 := by rw [hl]; exact Nat.mod_lt _ (by decide)
  rw [← hH, ← hl] at e1 ⊢
  rw [← hH] at e2 e3 hr
  obtain ⟨Q, hQ⟩ : ∃ Q, Q = H / n := ⟨_, rfl⟩
  obtain ⟨R, hR⟩ : ∃ R, R = H % n := ⟨_, rfl⟩
  rw [← hQ, ← hR] at e2
  rw [← hR] at hr ⊢
  rw [← hQ]
  rw [← hQ] at e3
  have e4 : a = n * (Q * 18446744073709551616) + (R * 18446744073709551616 + l) := by
    rw [← e1, ← e2, ← Nat.mul_assoc]; generalize n * Q = z; omega
  have e5 : (R * 18446744073709551616 + l) / n < 18446744073709551616 := by
    refine div_lt_of h0 ?_
    clear e1 e2 e3 e4 hH hQ hR
    omega
  have e6 : a / n = Q * 18446744073709551616 + (R * 18446744073709551616 + l) / n := by
    conv => lhs; rw [e4]
    rw [Nat.mul_add_div h0]
  refine ⟨?_, e3, ?_⟩
  · rw [e6]
    generalize (R * 18446744073709551616 + l) / n = z at *
    clear e1 e2 e3 e4 hH hQ hR e6 hl hr
    omega
  · conv => rhs; rw [e4]
    rw [Nat.mul_add_mod]
theorem xmore_spec (a n : Nat) (ha : a < 340282366920938463463374607431768211456) (hn : n < 18446744073709551616) :
    Sp Tryd.prog gl 148 [wide a, u n] (if a * n < 340282366920938463463374607431768211456 then .tup [wide (a * n), i6 0] else .tup [wide 0, i6 3]) := by
  obtain ⟨H, hH⟩ : ∃ H, H = a / 18446744073709551616 := ⟨_, rfl⟩
  obtain ⟨L, hL⟩ : ∃ L, L = a % 18446744073709551616 := ⟨_, rfl⟩
  have hH2 : H < 18446744073709551616 := by omega
  have hL2 : L < 18446744073709551616 := by omega
  have T1 := times_spec L n hL2 hn
  have T2 := times_spec H n hH2 hn
  have e1 : a * n = H * n * 18446744073709551616 + L * n := by
    have := Nat.div_add_mod a 18446744073709551616
    rw [← hH, ← hL] at this
    rw [← this, Nat.add_mul, Nat.mul_comm 18446744073709551616 H, Nat.mul_right_comm]
  have b1 : L * n ≤ 18446744073709551615 * 18446744073709551615 := Nat.mul_le_mul (by omega) (by omega)
  have b2 : H * n ≤ 18446744073709551615 * 18446744073709551615 := Nat.mul_le_mul (by omega) (by omega)
  rw [e1]
  clear e1
  generalize H * n = X at *
  generalize L * n = Y at *
  have A := xadd_spec Y (X % 18446744073709551616 * 18446744073709551616) (by omega) (by omega)
  obtain ⟨X1, hX1⟩ : ∃ X1, X1 = X / 18446744073709551616 := ⟨_, rfl⟩
  obtain ⟨X0, hX0⟩ : ∃ X0, X0 = X % 18446744073709551616 := ⟨_, rfl⟩
  simp only [wide, ← hX1, ← hX0] at T2
  rw [← hX0] at A
  have w0 : wide (X0 * 18446744073709551616) = .agg [u X0, u 0] := by unfold wide; rw [Nat.mul_div_cancel _ (by decide), Nat.mul_mod_left]
  rw [w0] at A
  simp only [wide] at T1 A
  rw [show Y + X0 * 18446744073709551616 = X0 * 18446744073709551616 + Y by omega] at A
  refine s148 rfl rfl ?_
  simp -implicitDefEqProofs [c148, wide]
  rw [← hH, ← hL]
  refine onC_mk _ T1 ?_
  simp -implicitDefEqProofs
  refine onC_mk _ T2 ?_
  by_cases h : X1 = 0
  · have e2 : X0 = X := by omega
    rw [e2] at A ⊢
    rw [h]
    clear hX1 hX0 e2 w0 hH hL
    simp -implicitDefEqProofs
    refine onC_mk _ A ?_
    by_cases h2 : X * 18446744073709551616 + Y < 340282366920938463463374607431768211456
    · rw [if_pos h2, if_pos h2]; simp -implicitDefEqProofs
    · rw [if_neg h2, if_neg h2]; simp -implicitDefEqProofs
  · have h2 : ¬ (X * 18446744073709551616 + Y < 340282366920938463463374607431768211456) := by omega
    have h3 : ((X1 : Int) != 0) = true := by simp [h]
    rw [if_neg h2]
    clear hX1 hX0 w0 hH hL h2 A T2 T1
    simp -implicitDefEqProofs [h3]
end Go.Ai
set_option linter.unusedSimpArgs false
set_option linter.unusedVariables false
namespace Go.Ai
open Go.Proofs
abbrev u32 (n : Nat) : AV := .int .u32 n
abbrev cnt (g n : Nat) : AV := .agg [u g, u n]

theorem cmp_split (a b : Nat) : (if cmpN (a / 18446744073709551616) (b / 18446744073709551616) = 0 then cmpN (a % 18446744073709551616) (b % 18446744073709551616) else cmpN (a / 18446744073709551616) (b / 18446744073709551616)) = cmpN a b := by
  unfold cmpN
  repeat' split
  all_goals omega
/-! ### Burn -/
def mayN (t g n : Nat) : Nat := if 1000000 < t then 8 else if n < g then 16 else 0
def holdsN (t f g n : Nat) : Bool × Nat := if 1000000 < f ∨ 1000000 < t then (false, 8) else if n < g then (false, 16) else (decide (f * (1000000 - t) * n < (n - g) * 1000000000), 0)
theorem cmp_pos (a b : Nat) : decide (0 < cmpN a b) = decide (b < a) := by
  unfold cmpN
  repeat' split
  all_goals (simp; try omega)
theorem wide_lt (n : Nat) : ∃ a b, wide n = .agg [u a, u b] := ⟨_, _, rfl⟩
def badL (g n : Nat) : List Bool := timesL [] (bitsOf (n - g) 128) (bitsOf 1000000000 128)
theorem badL_len (g n : Nat) : (badL g n).length ≤ 256 := by
  have := timesL_len [] (bitsOf (n - g) 128) (bitsOf 1000000000 128) (by simp)
  simp only [bitsOf_len] at this; exact this
theorem badL_val (g n : Nat) (hn : n < 18446744073709551616) : val (badL g n) = (n - g) * 1000000000 := by
  simp only [badL, timesL_val, val, Nat.zero_add]
  rw [bitsOf_val128 _ (by omega), bitsOf_val128 _ (by omega)]
def allowL (t k n : Nat) : List Bool := timesL [] (timesL [] (bitsOf k 128) (bitsOf (1000000 - t) 128)) (bitsOf n 128)
theorem allowL_len0 (t k : Nat) : (timesL [] (bitsOf k 128) (bitsOf (1000000 - t) 128)).length ≤ 256 := by
  have := timesL_len [] (bitsOf k 128) (bitsOf (1000000 - t) 128) (by simp)
  simp only [bitsOf_len] at this; exact this
theorem allowL_len (t k n : Nat) : (allowL t k n).length ≤ 384 := by
  have := timesL_len [] (timesL [] (bitsOf k 128) (bitsOf (1000000 - t) 128)) (bitsOf n 128) (by simp)
  have := allowL_len0 t k
  simp only [bitsOf_len] at *; unfold allowL; omega
theorem allowL_val (t k n : Nat) (hk : k < 18446744073709551616) (hn : n < 18446744073709551616) : val (allowL t k n) = k * (1000000 - t) * n := by
  simp only [allowL, timesL_val, val, Nat.zero_add]
  rw [bitsOf_val128 _ (by omega), bitsOf_val128 _ (by omega), bitsOf_val128 _ (by omega)]
/-! ### Division: where the high half is nothing -/
theorem h986 : holdsN 999000 14400 986 1000 = (false, 0) := by kernel_rfl
theorem h985 : holdsN 999000 14400 985 1000 = (true, 0) := by kernel_rfl
theorem r986 : (1000 - 986) * 1000000000 / 1000 / (1000000 - 999000) = 14000 := by kernel_rfl
end Go.Ai
set_option linter.unusedSimpArgs false
set_option linter.unusedVariables false
namespace Go.Ai
open Go.Proofs
/-- A signed number. -/
abbrev sg2 (b : Bool) (m l : Nat) : AV := .agg [.bool b, u m, u l]
def sgn (b : Bool) (n : Nat) : AV := sg2 b (n / 18446744073709551616) (n % 18446744073709551616)
def sgi (z : Int) : AV := sgn (decide (z < 0)) z.natAbs
theorem nz_iff (n : Nat) : (n / 18446744073709551616 = 0 ∧ n % 18446744073709551616 = 0) ↔ n = 0 := by omega
theorem sgi_if (z : Int) : (if decide (z < 0) = true then -(z.natAbs : Int) else z.natAbs) = z := by
  by_cases h : z < 0 <;> simp [h] <;> omega
theorem sgi_wide (z : Int) (h : z.natAbs < 340282366920938463463374607431768211456) : ∃ m l, sgi z = sg2 (decide (z < 0)) m l ∧ wide z.natAbs = .agg [u m, u l] := ⟨_, _, rfl, rfl⟩
/-! ### Ledger -/
theorem may0 {t g n : Nat} (h1 : t ≤ 1000000) (h2 : g ≤ n) : mayN t g n = 0 := by unfold mayN; rw [if_neg (by omega), if_neg (by omega)]
def leftZ (t g n : Nat) : Int := if mayN t g n = 0 then ((n * (1000000 - t) : Nat) : Int) - ((n - g) * 1000000 : Nat) else 0
def spentN (t g n : Nat) : Nat × Nat := if mayN t g n = 0 then (if n = 0 ∨ t = 1000000 then (0, 4) else ((n - g) * 1000000 * 1000000 / n / (1000000 - t), 0)) else (0, mayN t g n)
theorem lv_left : sgi (leftZ 999000 999600 1000000) = sg2 false 0 600000000 := by kernel_rfl
theorem lv_may : mayN 999000 999600 1000000 = 0 := by kernel_rfl
theorem lv_spent : spentN 999000 999600 1000000 = (400000, 0) := by kernel_rfl
theorem left_adds (t g n h m : Nat) (ht : t ≤ 1000000) (hg : g ≤ n) (hh : h ≤ m) : leftZ t (g + h) (n + m) = leftZ t g n + leftZ t h m := by
  have e1 : mayN t g n = 0 := may0 (by omega) (by omega)
  have e2 : mayN t h m = 0 := may0 (by omega) (by omega)
  have e3 : mayN t (g + h) (n + m) = 0 := may0 (by omega) (by omega)
  unfold leftZ
  rw [if_pos e1, if_pos e2, if_pos e3, Nat.add_mul, show n + m - (g + h) = (n - g) + (m - h) by omega, Nat.add_mul]
  omega
theorem left_small (t g n : Nat) (hn : n < 9223372036854775808) : (leftZ t g n).natAbs ≤ 9223372036854775808 * 1000000 := by
  unfold leftZ
  split
  · have k1 : n * (1000000 - t) ≤ 9223372036854775808 * 1000000 := Nat.mul_le_mul (by omega) (by omega)
    have k2 : (n - g) * 1000000 ≤ 9223372036854775808 * 1000000 := Nat.mul_le_mul (by omega) (by omega)
    omega
  · simp
end Go.Ai
set_option linter.unusedSimpArgs false
set_option linter.unusedVariables false
namespace Go.Ai
open Go.Proofs
end Go.Ai
set_option linter.unusedSimpArgs false
set_option linter.unusedVariables false
namespace Go.Ai
open Go.Proofs
set_option maxRecDepth 10000 in
theorem digits_spec (l : List Bool) (hl : l.length ≤ 100000) : Sp Tryd.prog gl 154 [bl l] (.str (dec (val l))) := by
  refine s154 rfl rfl ?_
  have B := bits_spec 10 (by omega)
  have e10 : wide 10 = .agg [u 0, u 10] := rfl
  rw [e10] at B
  have v10 : val (bitsOf 10 128) = 10 := bitsOf_val128 10 (by omega)
  have l10 : (bitsOf 10 128).length = 128 := bitsOf_len _ _
  have hlen : (dec (val l)).length ≤ l.length + 1 := dec_len _ _ (Nat.lt_of_lt_of_le (val_lt l) (Nat.le_trans (Nat.pow_le_pow_left (by omega) _) (Nat.pow_le_pow_right (by omega) (Nat.le_succ _))))
  obtain ⟨ten, ht⟩ : ∃ ten, ten = bitsOf 10 128 := ⟨_, rfl⟩
  rw [← ht] at B v10 l10
  clear ht
  obtain ⟨R, hR⟩ : ∃ R, R = dec (val l) := ⟨_, rfl⟩
  rw [← hR] at hlen ⊢
  simp -implicitDefEqProofs [c154]
  refine onC_mk _ B ?_
  simp -implicitDefEqProofs
  refine wp_lpk (α := List Bool × List UInt8) (fun x => ⟨[(0, bl x.1), (3, bl ten), (4, .str x.2)], [], []⟩) (fun x => x.1.length = l.length ∧ R = dec (val x.1) ++ x.2) (fun x => val x.1) ?_ (l, []) ?_ ?_
  · rintro K ⟨l', s⟩ hK ⟨h1, h2⟩
    simp only at h1 h2
    have hlt := val_lt l'
    have D := divide_spec l' ten (by omega) (by omega) (by omega)
    rw [v10] at D
    have q1 : val l' / 10 ≤ val l' := Nat.div_le_self _ _
    have r1 : val l' % 10 ≤ val l' := Nat.mod_le _ _
    have r2 : val l' % 10 < 10 := Nat.mod_lt _ (by omega)
    have qv : val (bitsOf (val l' / 10) l'.length) = val l' / 10 := by rw [bitsOf_val, Nat.mod_eq_of_lt (by omega)]
    have rv : val (bitsOf (val l' % 10) l'.length) = val l' % 10 := by rw [bitsOf_val, Nat.mod_eq_of_lt (by omega)]
    have ql := bitsOf_len (val l' / 10) l'.length
    have rl := bitsOf_len (val l' % 10) l'.length
    obtain ⟨q, hq⟩ : ∃ q, q = bitsOf (val l' / 10) l'.length := ⟨_, rfl⟩
    obtain ⟨r, hr⟩ : ∃ r, r = bitsOf (val l' % 10) l'.length := ⟨_, rfl⟩
    rw [← hq] at D qv ql
    rw [← hr] at D rv rl
    have O := of_spec r (by omega)
    rw [rv, if_pos (by omega)] at O
    obtain ⟨d, hd⟩ : ∃ d, d = val l' % 10 := ⟨_, rfl⟩
    rw [← hd] at O r2
    have wd : wide d = .agg [u 0, u d] := by unfold wide; rw [Nat.div_eq_of_lt (by omega), Nat.mod_eq_of_lt (by omega)]
    rw [wd] at O
    have C := compare_spec q [] (by omega) (by simp)
    rw [show val [] = 0 from rfl] at C
    have sl : s.length ≤ 100001 := by rw [h2] at hlen; simp at hlen; omega
    have w1 : IntKind.u8.wrap (d : Int) = d := wrap_u8 (by omega) (by omega)
    have w2 : IntKind.u8.wrap (48 + (d : Int)) = (48 + d : Nat) := by rw [wrap_u8] <;> omega
    have tn : (48 + (d : Int)).toNat = 48 + d := by omega
    have hs1 : 1 + s.length ≤ 9223372036854775807 := by omega
    by_cases g : val l' < 10
    · have q0 : val q = 0 := by rw [qv]; omega
      have c0 : cmpN 0 0 = 0 := rfl
      rw [q0, c0] at C
      have eR : R = UInt8.ofNat (48 + d) :: s := by rw [h2, dec_lt g, hd, Nat.mod_eq_of_lt g]; rfl
      clear hq hr hd h2 qv rv wd q1 r1 hlt q0 hR hK hlen
      subst eR
      simp -implicitDefEqProofs [bl]
      refine onC_mk _ D ?_
      simp -implicitDefEqProofs [bl]
      refine onC_mk _ O ?_
      simp -implicitDefEqProofs [bytesA, rowBytes, w1, w2, hs1]
      refine onC_mk _ C ?_
      simp -implicitDefEqProofs [tn]
    · have q0 : val q ≠ 0 := by rw [qv]; omega
      have c0 : cmpN (val q) 0 = 1 := by unfold cmpN; rw [if_neg (by omega), if_neg q0]
      rw [c0] at C
      have eR : R = dec (val q) ++ (UInt8.ofNat (48 + d) :: s) := by rw [h2, dec_ge g, hd, qv]; simp
      have fin : ∀ σ', Weak σ' ⟨[(0, bl q), (3, bl ten), (4, .str (UInt8.ofNat (48 + d) :: s))], [], []⟩ → K σ' :=
        fun σ' hσ => hK (q, UInt8.ofNat (48 + d) :: s) σ' ⟨by simp only; omega, eR⟩ (by simp only; omega) hσ
      clear hq hr hd h2 qv rv wd q1 r1 hlt q0 hR hK hlen eR
      simp -implicitDefEqProofs [bl]
      refine onC_mk _ D ?_
      simp -implicitDefEqProofs [bl]
      refine onC_mk _ O ?_
      simp -implicitDefEqProofs [bytesA, rowBytes, w1, w2, hs1]
      refine onC_mk _ C ?_
      simp -implicitDefEqProofs
      refine fin _ ?_
      apply weak_mk <;> simp [bl, tn]
  · simp [hR]
  · apply weak_mk <;> simp [bl]
end Go.Ai
set_option linter.unusedSimpArgs false
set_option linter.unusedVariables false
namespace Go.Ai
open Go.Proofs
def byteAv (b : UInt8) : AV := .int .u8 b.toNat
def bufC (k : Nat) (s : List UInt8) : List AV := List.replicate k (.int .u8 0) ++ s.map byteAv
theorem bufC_len (k : Nat) (s : List UInt8) : (bufC k s).length = k + s.length := by simp [bufC]
theorem bufC_set (j : Nat) (b : UInt8) (s : List UInt8) : List.take j (bufC (j + 1) s) ++ byteAv b :: List.drop (j + 1) (bufC (j + 1) s) = bufC j (b :: s) := by
  have h1 : List.take j (bufC (j + 1) s) = List.replicate j (.int .u8 0) := by
    unfold bufC; rw [List.replicate_succ', List.append_assoc, List.take_left' (by simp)]
  have h2 : List.drop (j + 1) (bufC (j + 1) s) = s.map byteAv := by unfold bufC; rw [List.drop_left' (by simp)]
  rw [h1, h2]; rfl
theorem idsL_bytes (s : List UInt8) : idsL (s.map byteAv) = [] := by
  induction s with
  | nil => rfl
  | cons x r ih => simp [idsL, byteAv, AV.ids, ih]
theorem idsL_app (a b : List AV) : idsL (a ++ b) = idsL a ++ idsL b := by
  induction a with
  | nil => rfl
  | cons x r ih => simp [idsL, ih]
theorem bufC_ids (k : Nat) (s : List UInt8) : idsL (bufC k s) = [] := by
  unfold bufC; rw [idsL_app, idsL_bytes, List.append_nil]
  induction k with
  | zero => rfl
  | succ k ih => simp [List.replicate_succ, idsL, AV.ids, ih]
theorem bytes_of (s : List UInt8) : byteCells (s.map byteAv) = some s := by
  induction s with
  | nil => rfl
  | cons x r ih => simp [byteCells, byteAv, ih]
theorem buf_bytes (k n : Nat) (s : List UInt8) (h : s.length ≤ n) : byteCells (((bufC k s).drop k).take n) = some s := by
  have : (bufC k s).drop k = s.map byteAv := by unfold bufC; rw [List.drop_left' (by simp)]
  rw [this, List.take_of_length_le (by simpa using h), bytes_of]
end Go.Ai
