/- YtcdomokjdfmnlaaDoorP2: part of the abstract interpreter library (values, rules, soundness against the model) or of what a function of the seat computes. Conditions: as each theorem says. -/
import Derived.Test.YtcdomokjdfmnlaaDoorP1
import Derived.Test.YtcdomokjdfmnlaaDoorAiExt
import Derived.Laws.Externs
set_option linter.unusedSimpArgs false
set_option linter.unusedVariables false
namespace Go.Ai
open Go.Proofs

/-! ### Len64, LeadingZeros64 -/
def lenN (x : Nat) : Nat := if x = 0 then 0 else Nat.log2 x + 1
def lenT : List UInt8 := (List.range 256).map fun x => UInt8.ofNat (lenN x)
theorem lenT_eq : ([0, 1, 2, 2, 3, 3, 3, 3, 4, 4, 4, 4, 4, 4, 4, 4, 5, 5, 5, 5, 5, 5, 5, 5, 5, 5, 5, 5, 5, 5, 5, 5, 6, 6, 6, 6, 6, 6, 6, 6, 6, 6, 6, 6, 6, 6, 6, 6, 6, 6, 6, 6, 6, 6, 6, 6, 6, 6, 6, 6, 6, 6, 6, 6, 7, 7, 7, 7, 7, 7, 7, 7, 7, 7, 7, 7, 7, 7, 7, 7, 7, 7, 7, 7, 7, 7, 7, 7, 7, 7, 7, 7, 7, 7, 7, 7, 7, 7, 7, 7, 7, 7, 7, 7, 7, 7, 7, 7, 7, 7, 7, 7, 7, 7, 7, 7, 7, 7, 7, 7, 7, 7, 7, 7, 7, 7, 7, 7, 8, 8, 8, 8, 8, 8, 8, 8, 8, 8, 8, 8, 8, 8, 8, 8, 8, 8, 8, 8, 8, 8, 8, 8, 8, 8, 8, 8, 8, 8, 8, 8, 8, 8, 8, 8, 8, 8, 8, 8, 8, 8, 8, 8, 8, 8, 8, 8, 8, 8, 8, 8, 8, 8, 8, 8, 8, 8, 8, 8, 8, 8, 8, 8, 8, 8, 8, 8, 8, 8, 8, 8, 8, 8, 8, 8, 8, 8, 8, 8, 8, 8, 8, 8, 8, 8, 8, 8, 8, 8, 8, 8, 8, 8, 8, 8, 8, 8, 8, 8, 8, 8, 8, 8, 8, 8, 8, 8, 8, 8, 8, 8, 8, 8, 8, 8, 8, 8, 8, 8, 8, 8, 8, 8, 8, 8, 8, 8] : List UInt8) = lenT := by kernel_rfl
theorem lenN_shr {x k : Nat} (h : 2 ^ k ≤ x) : lenN x = lenN (x / 2 ^ k) + k := by
  have hx : x ≠ 0 := by have := Nat.two_pow_pos k; omega
  have hy : 1 ≤ x / 2 ^ k := (Nat.le_div_iff_mul_le (Nat.two_pow_pos k)).2 (by omega)
  have hy0 : x / 2 ^ k ≠ 0 := by omega
  unfold lenN
  rw [if_neg hx, if_neg hy0]
  have h1 := Nat.log2_self_le hy0
  have h2 := Nat.lt_log2_self (n := x / 2 ^ k)
  have e : Nat.log2 x = Nat.log2 (x / 2 ^ k) + k := by
    apply (Nat.log2_eq_iff hx).2
    rw [Nat.pow_add, show Nat.log2 (x / 2 ^ k) + k + 1 = (Nat.log2 (x / 2 ^ k) + 1) + k by omega, Nat.pow_add]
    exact ⟨(Nat.le_div_iff_mul_le (Nat.two_pow_pos k)).1 h1, (Nat.div_lt_iff_lt_mul (Nat.two_pow_pos k)).1 h2⟩
  omega
theorem lenN_le {x k : Nat} (h : x < 2 ^ k) : lenN x ≤ k := by
  unfold lenN
  split
  · omega
  · rename_i h0
    have := (Nat.log2_lt h0).2 h
    omega
theorem lenT_get (m : Nat) (hm : m < 256) : lenT[m]? = some (UInt8.ofNat (lenN m)) := by simp [lenT, hm]
theorem len64_end (a : Int) (b m : Nat) (h1 : a = b) (hb : b ≤ 56) (hm : m < 256) : IntKind.i64.wrap (a + ((UInt8.ofNat (lenN m)).toNat : Int)) = (b + lenN m : Nat) := by
  have := lenN_le (x := m) (k := 8) (by omega)
  have e : (UInt8.ofNat (lenN m)).toNat = lenN m := by simp; omega
  rw [e, h1, wrap_i64] <;> omega
theorem shr_lit (x : Nat) (k n : Nat) (h : (2 : Int) ^ min k IntKind.u64.bits = (n : Int)) : (x : Int).fdiv (2 ^ min k IntKind.u64.bits) = ((x / n : Nat) : Int) := by
  rw [h, Int.fdiv_eq_ediv_of_nonneg _ (by omega)]; simp
theorem shr32 (x : Nat) : (x : Int).fdiv (2 ^ min 32 IntKind.u64.bits) = ((x / 4294967296 : Nat) : Int) := shr_lit x 32 _ (by decide)
theorem shr16 (x : Nat) : (x : Int).fdiv (2 ^ min 16 IntKind.u64.bits) = ((x / 65536 : Nat) : Int) := shr_lit x 16 _ (by decide)
theorem shr8 (x : Nat) : (x : Int).fdiv (2 ^ min 8 IntKind.u64.bits) = ((x / 256 : Nat) : Int) := shr_lit x 8 _ (by decide)
section
variable {x : Nat} (hx : x < 18446744073709551616)
include hx
set_option linter.unusedSectionVars false
set_option maxRecDepth 20000 in
theorem len64_3 (e : List (Nat × AV)) (pm : List (Pl × Nat)) (m b : Nat) (h0 : lk e 0 = u m) (h2 : lk e 2 = i6 b) (hm : m < 256) (hb : b ≤ 56) (hl : lenN x = b + lenN m) :
    wpA (SpH Tryd.prog gl) (AC.tl 4 c137) (postA [.t 2] (i6 (lenN x))) ⟨e, [], pm⟩ := by
  unfold c137
  rw [lenT_eq]
  have e1 : IntKind.u8.wrap (m : Int) = m := wrap_u8 (by omega) (by omega)
  have e2 := len64_end b b m rfl hb hm
  have e3 : IntKind.i64.wrap ((lenN m : Int) % 256) = (lenN m : Int) % 256 := wrap_i64 (by omega) (by omega)
  simp at e2
  simp [AC.tl, h0, h2, e1, lenT_get m hm, hl, e3]
  exact e2
set_option maxRecDepth 20000 in
theorem len64_2 (e : List (Nat × AV)) (pm : List (Pl × Nat)) (m b : Nat) (h0 : lk e 0 = u m) (h2 : lk e 2 = i6 b) (hm : m < 65536) (hb : b ≤ 48) (hl : lenN x = b + lenN m) :
    wpA (SpH Tryd.prog gl) (AC.tl 3 c137) (postA [.t 2] (i6 (lenN x))) ⟨e, [], pm⟩ := by
  have ec : AC.tl 3 c137 = AC.cutAt 1 (AC.tl 4 c137) (AC.tl 3 c137) := rfl
  rw [ec]
  have T := @len64_3 x hx
  generalize AC.tl 4 c137 = t at T ⊢
  simp [c137, AC.tl, AC.cutAt, h0, h2]
  refine onB_dec (fun h => ?_) (fun h => ?_)
  · simp [h0, h2]
    refine T _ _ (m / 256) (b + 8) ?_ ?_ (by omega) (by omega) ?_
    · simp; exact shr8 m
    · simp; exact wrap_i64 (by omega) (by omega)
    · rw [hl, lenN_shr (x := m) (k := 8) (by omega), show m / 2 ^ 8 = m / 256 from rfl]; omega
  · simp
    exact T _ _ m b (by simp [h0]) (by simp [h2]) (by omega) (by omega) hl
set_option maxRecDepth 20000 in
theorem len64_1 (e : List (Nat × AV)) (pm : List (Pl × Nat)) (m b : Nat) (h0 : lk e 0 = u m) (h2 : lk e 2 = i6 b) (hm : m < 4294967296) (hb : b ≤ 32) (hl : lenN x = b + lenN m) :
    wpA (SpH Tryd.prog gl) (AC.tl 2 c137) (postA [.t 2] (i6 (lenN x))) ⟨e, [], pm⟩ := by
  have ec : AC.tl 2 c137 = AC.cutAt 1 (AC.tl 3 c137) (AC.tl 2 c137) := rfl
  rw [ec]
  have T := @len64_2 x hx
  generalize AC.tl 3 c137 = t at T ⊢
  simp [c137, AC.tl, AC.cutAt, h0, h2]
  refine onB_dec (fun h => ?_) (fun h => ?_)
  · simp [h0, h2]
    refine T _ _ (m / 65536) (b + 16) ?_ ?_ (by omega) (by omega) ?_
    · simp; exact shr16 m
    · simp; exact wrap_i64 (by omega) (by omega)
    · rw [hl, lenN_shr (x := m) (k := 16) (by omega), show m / 2 ^ 16 = m / 65536 from rfl]; omega
  · simp
    exact T _ _ m b (by simp [h0]) (by simp [h2]) (by omega) (by omega) hl
set_option maxRecDepth 20000 in
theorem len64_spec : Sp Tryd.prog gl 137 [u x] (i6 (lenN x)) := by
  refine s137 rfl rfl ?_
  have ec : c137 = AC.cutAt 2 (AC.tl 2 c137) c137 := rfl
  rw [ec]
  have T := @len64_1 x hx
  generalize AC.tl 2 c137 = t at T ⊢
  simp [c137, AC.tl, AC.cutAt]
  refine onB_dec (fun h => ?_) (fun h => ?_)
  · simp
    refine T _ _ (x / 4294967296) 32 ?_ ?_ (by omega) (by omega) ?_
    · simp; exact shr32 x
    · simp
    · rw [lenN_shr (x := x) (k := 32) (by omega), show x / 2 ^ 32 = x / 4294967296 from rfl]; omega
  · simp
    exact T _ _ x 0 (by simp) (by simp) (by omega) (by omega) (by omega)
end
end Go.Ai
set_option linter.unusedSimpArgs false
set_option linter.unusedVariables false
set_option linter.unusedSectionVars false
namespace Go.Ai
open Go.Proofs
theorem step_eq {q r y1 un : Nat} (h : 1 ≤ q) (he : q * y1 + r = un) : (q - 1) * y1 + (r + y1) = un := by
  obtain ⟨k, rfl⟩ : ∃ k, q = k + 1 := ⟨q - 1, by omega⟩
  rw [← he, Nat.add_mul, Nat.add_sub_cancel]; omega
theorem bl_x {i j : Nat} {Q : AE → St → Prop} {σ : St} : AE.bl i Q (.x j) σ = if j = i then Q .n σ else Q (.x j) σ := (rfl)
theorem sq_x {B : St → Prop} {Q : AE → St → Prop} {i : Nat} {σ : St} : AE.sq B Q (.x i) σ = Q (.x i) σ := (rfl)
theorem sq_n {B : St → Prop} {Q : AE → St → Prop} {σ : St} : AE.sq B Q .n σ = B σ := (rfl)
section
variable {Q : AE → St → Prop} {Y s y1 y0 un v v0 : Nat}
end

/-! ### Plain laws of the shift -/
theorem shift_fits {y : Nat} (h0 : 0 < y) (hy : y < 18446744073709551616) : 9223372036854775808 ≤ y * 2 ^ (64 - lenN y) ∧ y * 2 ^ (64 - lenN y) < 18446744073709551616 := by
  have h := lenN_le (x := y) (k := 64) (by omega)
  have hl : lenN y = Nat.log2 y + 1 := by unfold lenN; rw [if_neg (by omega)]
  have h1 := Nat.log2_self_le (n := y) (by omega)
  have h2 := Nat.lt_log2_self (n := y)
  rw [hl] at h ⊢
  have e1 : 2 ^ Nat.log2 y * 2 ^ (64 - (Nat.log2 y + 1)) = 9223372036854775808 := by
    rw [← Nat.pow_add, show Nat.log2 y + (64 - (Nat.log2 y + 1)) = 63 by omega]
  have e2 : 2 ^ (Nat.log2 y + 1) * 2 ^ (64 - (Nat.log2 y + 1)) = 18446744073709551616 := by
    rw [← Nat.pow_add, show Nat.log2 y + 1 + (64 - (Nat.log2 y + 1)) = 64 by omega]
  have p : 0 < 2 ^ (64 - (Nat.log2 y + 1)) := Nat.two_pow_pos _
  constructor
  · rw [← e1]; exact Nat.mul_le_mul_right _ h1
  · rw [← e2]; exact Nat.mul_lt_mul_of_pos_right h2 p
theorem two_digits {un v v0 Y D1 D0 R1 R0 : Nat} (h1 : D1 * Y + R1 = un * 4294967296 + v) (h2 : D0 * Y + R0 = R1 * 4294967296 + v0) (hR : R0 < Y) :
    (un * 18446744073709551616 + (v * 4294967296 + v0)) / Y = D1 * 4294967296 + D0 ∧ (un * 18446744073709551616 + (v * 4294967296 + v0)) % Y = R0 := by
  have e : R0 + Y * (D1 * 4294967296 + D0) = un * 18446744073709551616 + (v * 4294967296 + v0) := by
    rw [Nat.mul_comm Y, Nat.add_mul, Nat.mul_right_comm]
    omega
  exact (Nat.div_mod_unique (by omega)).2 ⟨e, hR⟩
theorem shifted {hi lo y s : Nat} (hs : s ≤ 64) (hlo : lo < 18446744073709551616) :
    (hi * 2 ^ s + lo / 2 ^ (64 - s)) * 18446744073709551616 + lo * 2 ^ s % 18446744073709551616 = (hi * 18446744073709551616 + lo) * 2 ^ s := by
  have e : (18446744073709551616 : Nat) = 2 ^ (64 - s) * 2 ^ s := by rw [← Nat.pow_add, show 64 - s + s = 64 by omega]
  have h1 : lo * 2 ^ s / 18446744073709551616 = lo / 2 ^ (64 - s) := by rw [e]; exact Nat.mul_div_mul_right _ _ (Nat.two_pow_pos s)
  have h2 := Nat.div_add_mod (lo * 2 ^ s) 18446744073709551616
  rw [h1] at h2
  rw [Nat.add_mul, Nat.add_mul, Nat.mul_right_comm hi]
  omega
theorem sub_mod {a v P R : Nat} (h : P + R = a * 4294967296 + v) (hR : R < 18446744073709551616) :
    IntKind.u64.wrap (IntKind.u64.wrap (IntKind.u64.wrap ((a : Int) * 4294967296) + v) - IntKind.u64.wrap (P : Int)) = (R : Nat) := by
  simp only [wrap_u64m]
  omega
end Go.Ai
set_option linter.unusedSimpArgs false
set_option linter.unusedVariables false
set_option linter.unusedSectionVars false
namespace Go.Ai
open Go.Proofs
theorem shl_u64 (x s : Nat) (h : s ≤ 64) : (x : Int) * 2 ^ min s IntKind.u64.bits = ((x * 2 ^ s : Nat) : Int) := by
  rw [show min s IntKind.u64.bits = s by show min s 64 = s; omega]; simp
theorem shr_u64' (x i : Nat) (h : i ≤ 64) : (x : Int).fdiv (2 ^ min i IntKind.u64.bits) = ((x / 2 ^ i : Nat) : Int) := by
  rw [show min i IntKind.u64.bits = i by show min i 64 = i; omega, Int.fdiv_eq_ediv_of_nonneg _ (Int.pow_nonneg (by decide))]
  simp
section
variable {rq rr : Nat}
end
theorem digit_ex (A Y : Nat) (hY : 0 < Y) (hA : A < 4294967296 * Y) : ∃ D R, D = A / Y ∧ D < 4294967296 ∧ D * Y + R = A ∧ R < Y :=
  ⟨_, _, rfl, div_lt_of hY hA, Nat.div_add_mod' A Y, Nat.mod_lt _ hY⟩
theorem lin_fits {a v Y : Nat} (h : a < Y) (hv : v < 4294967296) : a * 4294967296 + v < 4294967296 * Y := by omega
theorem halves {Y y1 y0 : Nat} (ey : y1 * 4294967296 + y0 = Y) (h0 : y0 < 4294967296) (g1 : 9223372036854775808 ≤ Y) (g2 : Y < 18446744073709551616) : 2147483648 ≤ y1 ∧ y1 < 4294967296 := by omega
end Go.Ai
set_option linter.unusedSimpArgs false
set_option linter.unusedVariables false
namespace Go.Ai
open Go.Proofs Go.RowKit
def sub64Entry : Array Value → Sem Value := fun args => do
  let (x, y, b) ← Extern.MathBitsCarry.three "Sub64" args
  pure (Extern.MathBitsCarry.pair ((x + Extern.MathBitsCarry.m64 - y - b) % Extern.MathBitsCarry.m64) (if x < y + b then 1 else 0))
theorem run_sub64 {P : Program} (X Y k : Nat) (hk : k ≤ 1) (w : World) :
    (sub64Entry #[.int .u64 X, .int .u64 Y, .int .u64 k]).run P w = .ok (.tuple #[.int .u64 ((X + 18446744073709551616 - Y - k) % 18446744073709551616 : Nat), .int .u64 (if X < Y + k then 1 else 0 : Nat)]) w := by
  have key : (sub64Entry #[.int .u64 (X : Int), .int .u64 (Y : Int), .int .u64 (k : Int)]).run P w =
      .ok (Extern.MathBitsCarry.pair (((X : Int).toNat + Extern.MathBitsCarry.m64 - (Y : Int).toNat - k) % Extern.MathBitsCarry.m64) (if (X : Int).toNat < (Y : Int).toNat + k then 1 else 0)) w := by
    have : k = 0 ∨ k = 1 := by omega
    rcases this with rfl | rfl <;> rfl
  rw [key]
  simp only [Extern.MathBitsCarry.pair, Int.toNat_natCast]
  rfl
theorem add64_spec (x y c : Nat) (hc : c ≤ 1) : Sp Tryd.prog gl 179 [u x, u y, u c] (.tup [u ((x + y + c) % 18446744073709551616), u ((x + y + c) / 18446744073709551616)]) := by
  refine ext_spec (fn := Tryd.f179) (e := add64Entry) Tryd.func179 (by kernel_rfl) (by kernel_rfl) (by kernel_rfl) (by kernel_rfl) ?_
  intro S gb w vs h
  simp only [PRlist, PR] at h
  obtain ⟨_, _, rfl, rfl, _, _, rfl, rfl, _, _, rfl, rfl, rfl⟩ := h
  refine ⟨_, run_add64 x y c (by omega) (by omega) (by omega) (by omega) w, ?_⟩
  simp only [PR]
  refine ⟨_, rfl, ?_⟩
  simp only [PRlist, PR]
  exact ⟨_, _, rfl, by congr 1, _, _, rfl, by congr 1, rfl⟩
theorem xadd_spec (a b : Nat) (ha : a < 340282366920938463463374607431768211456) (hb : b < 340282366920938463463374607431768211456) :
    Sp Tryd.prog gl 149 [wide a, wide b] (if a + b < 340282366920938463463374607431768211456 then .tup [wide (a + b), i6 0] else .tup [wide 0, i6 3]) := by
  have A1 := add64_spec (a % 18446744073709551616) (b % 18446744073709551616) 0 (by omega)
  have A2 := add64_spec (a / 18446744073709551616) (b / 18446744073709551616) ((a % 18446744073709551616 + b % 18446744073709551616) / 18446744073709551616) (by omega)
  simp only [Nat.add_zero] at A1
  obtain ⟨up, hup⟩ : ∃ up, up = (a % 18446744073709551616 + b % 18446744073709551616) / 18446744073709551616 := ⟨_, rfl⟩
  obtain ⟨lo, hlo⟩ : ∃ lo, lo = (a % 18446744073709551616 + b % 18446744073709551616) % 18446744073709551616 := ⟨_, rfl⟩
  rw [← hup, ← hlo] at A1
  rw [← hup] at A2
  obtain ⟨ov, hov⟩ : ∃ ov, ov = (a / 18446744073709551616 + b / 18446744073709551616 + up) / 18446744073709551616 := ⟨_, rfl⟩
  obtain ⟨hi, hhi⟩ : ∃ hi, hi = (a / 18446744073709551616 + b / 18446744073709551616 + up) % 18446744073709551616 := ⟨_, rfl⟩
  rw [← hov, ← hhi] at A2
  refine s149 rfl rfl ?_
  simp -implicitDefEqProofs [c149, wide]
  refine onC_mk _ A1 ?_
  simp -implicitDefEqProofs
  refine onC_mk _ A2 ?_
  by_cases h : a + b < 340282366920938463463374607431768211456
  · have e1 : ov = 0 := by omega
    have e2 : (a + b) / 18446744073709551616 = hi := by omega
    have e3 : (a + b) % 18446744073709551616 = lo := by omega
    rw [if_pos h, e2, e3, e1]
    clear hup hlo hov hhi e2 e3
    simp -implicitDefEqProofs
  · have e1 : ov = 1 := by omega
    rw [if_neg h, e1]
    clear hup hlo hov hhi
    simp -implicitDefEqProofs
theorem floor_parts (a n : Nat) (h0 : 0 < n) :
    (a / 18446744073709551616 % n * 18446744073709551616 + a % 18446744073709551616) / n = a / n % 18446744073709551616 + 0 ∧ a / 18446744073709551616 / n = a / n / 18446744073709551616 ∧
    (a / 18446744073709551616 % n * 18446744073709551616 + a % 18446744073709551616) % n = a % n := by
  have e1 := Nat.div_add_mod a 18446744073709551616
  have e2 := Nat.div_add_mod (a / 18446744073709551616) n
  have e3 : a / 18446744073709551616 / n = a / n / 18446744073709551616 := by rw [Nat.div_div_eq_div_mul, Nat.div_div_eq_div_mul, Nat.mul_comm]
  have hr := Nat.mod_lt (a / 18446744073709551616) h0
  obtain ⟨H, hH⟩ : ∃ H, H = a / 18446744073709551616 := ⟨_, rfl⟩
  obtain ⟨l, hl⟩ : ∃ l, l = a % 18446744073709551616 := ⟨_, rfl⟩
  have hl2 : l < 18446744073709551616 := by rw [hl]; exact Nat.mod_lt _ (by decide)
  rw [← hH, ← hl] at e1 ⊢
  rw [← hH] at e2 e3 hr
  obtain ⟨Q, hQ⟩ : ∃ Q, Q = H / n := ⟨_, rfl⟩
  obtain ⟨R, hR⟩ : ∃ R, R = H % n := ⟨_, rfl⟩
  rw [← hQ, ← hR] at e2
  rw [← hR] at hr ⊢
  rw [← hQ]
  rw [← hQ] at e3
  have e4 : a = n * (Q * 18446744073709551616) + (R * 18446744073709551616 + l) := by
    rw [← e1, ← e2, ← Nat.mul_assoc]; generalize n * Q = z; omega
  have e5 : (R * 18446744073709551616 + l) / n < 18446744073709551616 := by
    refine div_lt_of h0 ?_
    clear e1 e2 e3 e4 hH hQ hR
    omega
  have e6 : a / n = Q * 18446744073709551616 + (R * 18446744073709551616 + l) / n := by
    conv => lhs; rw [e4]
    rw [Nat.mul_add_div h0]
  refine ⟨?_, e3, ?_⟩
  · rw [e6]
    generalize (R * 18446744073709551616 + l) / n = z at *
    clear e1 e2 e3 e4 hH hQ hR e6 hl hr
    omega
  · conv => rhs; rw [e4]
    rw [Nat.mul_add_mod]
theorem xmore_spec (a n : Nat) (ha : a < 340282366920938463463374607431768211456) (hn : n < 18446744073709551616) :
    Sp Tryd.prog gl 148 [wide a, u n] (if a * n < 340282366920938463463374607431768211456 then .tup [wide (a * n), i6 0] else .tup [wide 0, i6 3]) := by
  obtain ⟨H, hH⟩ : ∃ H, H = a / 18446744073709551616 := ⟨_, rfl⟩
  obtain ⟨L, hL⟩ : ∃ L, L = a % 18446744073709551616 := ⟨_, rfl⟩
  have hH2 : H < 18446744073709551616 := by omega
  have hL2 : L < 18446744073709551616 := by omega
  have T1 := times_spec L n hL2 hn
  have T2 := times_spec H n hH2 hn
  have e1 : a * n = H * n * 18446744073709551616 + L * n := by
    have := Nat.div_add_mod a 18446744073709551616
    rw [← hH, ← hL] at this
    rw [← this, Nat.add_mul, Nat.mul_comm 18446744073709551616 H, Nat.mul_right_comm]
  have b1 : L * n ≤ 18446744073709551615 * 18446744073709551615 := Nat.mul_le_mul (by omega) (by omega)
  have b2 : H * n ≤ 18446744073709551615 * 18446744073709551615 := Nat.mul_le_mul (by omega) (by omega)
  rw [e1]
  clear e1
  generalize H * n = X at *
  generalize L * n = Y at *
  have A := xadd_spec Y (X % 18446744073709551616 * 18446744073709551616) (by omega) (by omega)
  obtain ⟨X1, hX1⟩ : ∃ X1, X1 = X / 18446744073709551616 := ⟨_, rfl⟩
  obtain ⟨X0, hX0⟩ : ∃ X0, X0 = X % 18446744073709551616 := ⟨_, rfl⟩
  simp only [wide, ← hX1, ← hX0] at T2
  rw [← hX0] at A
  have w0 : wide (X0 * 18446744073709551616) = .agg [u X0, u 0] := by unfold wide; rw [Nat.mul_div_cancel _ (by decide), Nat.mul_mod_left]
  rw [w0] at A
  simp only [wide] at T1 A
  rw [show Y + X0 * 18446744073709551616 = X0 * 18446744073709551616 + Y by omega] at A
  refine s148 rfl rfl ?_
  simp -implicitDefEqProofs [c148, wide]
  rw [← hH, ← hL]
  refine onC_mk _ T1 ?_
  simp -implicitDefEqProofs
  refine onC_mk _ T2 ?_
  by_cases h : X1 = 0
  · have e2 : X0 = X := by omega
    rw [e2] at A ⊢
    rw [h]
    clear hX1 hX0 e2 w0 hH hL
    simp -implicitDefEqProofs
    refine onC_mk _ A ?_
    by_cases h2 : X * 18446744073709551616 + Y < 340282366920938463463374607431768211456
    · rw [if_pos h2, if_pos h2]; simp -implicitDefEqProofs
    · rw [if_neg h2, if_neg h2]; simp -implicitDefEqProofs
  · have h2 : ¬ (X * 18446744073709551616 + Y < 340282366920938463463374607431768211456) := by omega
    have h3 : ((X1 : Int) != 0) = true := by simp [h]
    rw [if_neg h2]
    clear hX1 hX0 w0 hH hL h2 A T2 T1
    simp -implicitDefEqProofs [h3]
end Go.Ai
set_option linter.unusedSimpArgs false
set_option linter.unusedVariables false
namespace Go.Ai
open Go.Proofs
abbrev u32 (n : Nat) : AV := .int .u32 n
abbrev cnt (g n : Nat) : AV := .agg [u g, u n]

theorem cmp_split (a b : Nat) : (if cmpN (a / 18446744073709551616) (b / 18446744073709551616) = 0 then cmpN (a % 18446744073709551616) (b % 18446744073709551616) else cmpN (a / 18446744073709551616) (b / 18446744073709551616)) = cmpN a b := by
  unfold cmpN
  repeat' split
  all_goals omega
/-! ### Burn -/
def mayN (t g n : Nat) : Nat := if 1000000 < t then 8 else if n < g then 16 else 0
def holdsN (t f g n : Nat) : Bool × Nat := if 1000000 < f ∨ 1000000 < t then (false, 8) else if n < g then (false, 16) else (decide (f * (1000000 - t) * n < (n - g) * 1000000000), 0)
theorem cmp_pos (a b : Nat) : decide (0 < cmpN a b) = decide (b < a) := by
  unfold cmpN
  repeat' split
  all_goals (simp; try omega)
theorem wide_lt (n : Nat) : ∃ a b, wide n = .agg [u a, u b] := ⟨_, _, rfl⟩
def badL (g n : Nat) : List Bool := timesL [] (bitsOf (n - g) 128) (bitsOf 1000000000 128)
theorem badL_len (g n : Nat) : (badL g n).length ≤ 256 := by
  have := timesL_len [] (bitsOf (n - g) 128) (bitsOf 1000000000 128) (by simp)
  simp only [bitsOf_len] at this; exact this
theorem badL_val (g n : Nat) (hn : n < 18446744073709551616) : val (badL g n) = (n - g) * 1000000000 := by
  simp only [badL, timesL_val, val, Nat.zero_add]
  rw [bitsOf_val128 _ (by omega), bitsOf_val128 _ (by omega)]
def allowL (t k n : Nat) : List Bool := timesL [] (timesL [] (bitsOf k 128) (bitsOf (1000000 - t) 128)) (bitsOf n 128)
theorem allowL_len0 (t k : Nat) : (timesL [] (bitsOf k 128) (bitsOf (1000000 - t) 128)).length ≤ 256 := by
  have := timesL_len [] (bitsOf k 128) (bitsOf (1000000 - t) 128) (by simp)
  simp only [bitsOf_len] at this; exact this
theorem allowL_len (t k n : Nat) : (allowL t k n).length ≤ 384 := by
  have := timesL_len [] (timesL [] (bitsOf k 128) (bitsOf (1000000 - t) 128)) (bitsOf n 128) (by simp)
  have := allowL_len0 t k
  simp only [bitsOf_len] at *; unfold allowL; omega
theorem allowL_val (t k n : Nat) (hk : k < 18446744073709551616) (hn : n < 18446744073709551616) : val (allowL t k n) = k * (1000000 - t) * n := by
  simp only [allowL, timesL_val, val, Nat.zero_add]
  rw [bitsOf_val128 _ (by omega), bitsOf_val128 _ (by omega), bitsOf_val128 _ (by omega)]
/-! ### Division: where the high half is nothing -/
theorem h986 : holdsN 999000 14400 986 1000 = (false, 0) := by kernel_rfl
theorem h985 : holdsN 999000 14400 985 1000 = (true, 0) := by kernel_rfl
theorem r986 : (1000 - 986) * 1000000000 / 1000 / (1000000 - 999000) = 14000 := by kernel_rfl
end Go.Ai
set_option linter.unusedSimpArgs false
set_option linter.unusedVariables false
namespace Go.Ai
open Go.Proofs
/-- A signed number. -/
abbrev sg2 (b : Bool) (m l : Nat) : AV := .agg [.bool b, u m, u l]
def sgn (b : Bool) (n : Nat) : AV := sg2 b (n / 18446744073709551616) (n % 18446744073709551616)
def sgi (z : Int) : AV := sgn (decide (z < 0)) z.natAbs
theorem nz_iff (n : Nat) : (n / 18446744073709551616 = 0 ∧ n % 18446744073709551616 = 0) ↔ n = 0 := by omega
theorem sgi_if (z : Int) : (if decide (z < 0) = true then -(z.natAbs : Int) else z.natAbs) = z := by
  by_cases h : z < 0 <;> simp [h] <;> omega
theorem sgi_wide (z : Int) (h : z.natAbs < 340282366920938463463374607431768211456) : ∃ m l, sgi z = sg2 (decide (z < 0)) m l ∧ wide z.natAbs = .agg [u m, u l] := ⟨_, _, rfl, rfl⟩
/-! ### Ledger -/
theorem may0 {t g n : Nat} (h1 : t ≤ 1000000) (h2 : g ≤ n) : mayN t g n = 0 := by unfold mayN; rw [if_neg (by omega), if_neg (by omega)]
def leftZ (t g n : Nat) : Int := if mayN t g n = 0 then ((n * (1000000 - t) : Nat) : Int) - ((n - g) * 1000000 : Nat) else 0
def spentN (t g n : Nat) : Nat × Nat := if mayN t g n = 0 then (if n = 0 ∨ t = 1000000 then (0, 4) else ((n - g) * 1000000 * 1000000 / n / (1000000 - t), 0)) else (0, mayN t g n)
theorem lv_left : sgi (leftZ 999000 999600 1000000) = sg2 false 0 600000000 := by kernel_rfl
theorem lv_may : mayN 999000 999600 1000000 = 0 := by kernel_rfl
theorem lv_spent : spentN 999000 999600 1000000 = (400000, 0) := by kernel_rfl
theorem left_adds (t g n h m : Nat) (ht : t ≤ 1000000) (hg : g ≤ n) (hh : h ≤ m) : leftZ t (g + h) (n + m) = leftZ t g n + leftZ t h m := by
  have e1 : mayN t g n = 0 := may0 (by omega) (by omega)
  have e2 : mayN t h m = 0 := may0 (by omega) (by omega)
  have e3 : mayN t (g + h) (n + m) = 0 := may0 (by omega) (by omega)
  unfold leftZ
  rw [if_pos e1, if_pos e2, if_pos e3, Nat.add_mul, show n + m - (g + h) = (n - g) + (m - h) by omega, Nat.add_mul]
  omega
theorem left_small (t g n : Nat) (hn : n < 9223372036854775808) : (leftZ t g n).natAbs ≤ 9223372036854775808 * 1000000 := by
  unfold leftZ
  split
  · have k1 : n * (1000000 - t) ≤ 9223372036854775808 * 1000000 := Nat.mul_le_mul (by omega) (by omega)
    have k2 : (n - g) * 1000000 ≤ 9223372036854775808 * 1000000 := Nat.mul_le_mul (by omega) (by omega)
    omega
  · simp
end Go.Ai
