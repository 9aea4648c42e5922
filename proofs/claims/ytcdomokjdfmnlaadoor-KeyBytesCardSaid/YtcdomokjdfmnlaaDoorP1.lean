/- YtcdomokjdfmnlaaDoorP1: part of the abstract interpreter library (values, rules, soundness against the model) or of what a function of the seat computes. Conditions: as each theorem says. -/
import Derived.Test.YtcdomokjdfmnlaaDoorCode
import Derived.Laws.Bits64b
set_option linter.unusedSimpArgs false
set_option linter.unusedVariables false
namespace Go.Ai
open Go.Proofs
abbrev u (n : Nat) : AV := .int .u64 n
def wide (n : Nat) : AV := .agg [u (n / 18446744073709551616), u (n % 18446744073709551616)]
abbrev i6 (n : Int) : AV := .int .i64 n

theorem sh32 (x : Int) : x.fdiv (2 ^ min 32 IntKind.u64.bits) = x / 4294967296 := by
  have : (2 : Int) ^ min 32 IntKind.u64.bits = 4294967296 := by decide
  rw [this]; exact Int.fdiv_eq_ediv_of_nonneg _ (by decide)
theorem mask32 (n : Int) (h1 : 0 ≤ n) (h2 : n < 18446744073709551616) : bits BinOp.and IntKind.u64 n 4294967295 = n % 4294967296 := by
  obtain ⟨m, rfl⟩ := Int.eq_ofNat_of_zero_le h1
  have := bits_and_u64_nat m 4294967295 (by omega) (by omega)
  rw [show ((4294967295 : Nat) : Int) = 4294967295 from rfl] at this
  rw [this, show (4294967295 : Nat) = 2 ^ 32 - 1 from rfl, Nat.and_two_pow_sub_one_eq_mod]
  omega
theorem mul_law (x1 x0 y1 y0 : Int) (h1 : 0 ≤ x1) (h2 : x1 < 4294967296) (h3 : 0 ≤ x0) (h4 : x0 < 4294967296) (h5 : 0 ≤ y1) (h6 : y1 < 4294967296) (h7 : 0 ≤ y0) (h8 : y0 < 4294967296) :
    ((x1 * y1 % 18446744073709551616 + (x1 * y0 % 18446744073709551616 + x0 * y0 % 18446744073709551616 / 4294967296) % 18446744073709551616 / 4294967296) % 18446744073709551616 +
      ((x1 * y0 % 18446744073709551616 + x0 * y0 % 18446744073709551616 / 4294967296) % 18446744073709551616 % 4294967296 + x0 * y1 % 18446744073709551616) % 18446744073709551616 / 4294967296) % 18446744073709551616
      = (x1 * 4294967296 + x0) * (y1 * 4294967296 + y0) / 18446744073709551616 := by
  have e : (x1 * 4294967296 + x0) * (y1 * 4294967296 + y0) = x1 * y1 * 18446744073709551616 + (x1 * y0 + x0 * y1) * 4294967296 + x0 * y0 := by
    simp only [Int.add_mul, Int.mul_add]
    have : x1 * 4294967296 * (y1 * 4294967296) = x1 * y1 * 18446744073709551616 := by
      rw [show (18446744073709551616 : Int) = 4294967296 * 4294967296 from rfl]; ac_rfl
    rw [this, show x1 * 4294967296 * y0 = x1 * y0 * 4294967296 by ac_rfl, show x0 * (y1 * 4294967296) = x0 * y1 * 4294967296 by ac_rfl]
    omega
  rw [e]
  have b : ∀ a c : Int, 0 ≤ a → a < 4294967296 → 0 ≤ c → c < 4294967296 → 0 ≤ a * c ∧ a * c ≤ 18446744065119617025 := fun a c ha hb hc hd => by
    refine ⟨Int.mul_nonneg ha hc, ?_⟩
    have := Int.mul_le_mul (show a ≤ 4294967295 by omega) (show c ≤ 4294967295 by omega) hc (by decide)
    simpa using this
  have b1 := b x1 y1 h1 h2 h5 h6
  have b2 := b x1 y0 h1 h2 h7 h8
  have b3 := b x0 y1 h3 h4 h5 h6
  have b4 := b x0 y0 h3 h4 h7 h8
  generalize x1 * y1 = p at *
  generalize x1 * y0 = q at *
  generalize x0 * y1 = r at *
  generalize x0 * y0 = s at *
  omega
theorem mul64 (x y : Nat) (hx : x < 18446744073709551616) (hy : y < 18446744073709551616) : Sp Tryd.prog gl 196 [u x, u y] (.tup [u (x * y / 18446744073709551616), u (x * y % 18446744073709551616)]) := by
  refine s196 rfl rfl ?_
  simp [c196]
  have wm : ∀ n : Int, 0 ≤ n % 18446744073709551616 ∧ n % 18446744073709551616 < 18446744073709551616 := fun n => by omega
  rw [mask32 x (by omega) (by omega), mask32 y (by omega) (by omega)]
  simp only [sh32, wrap_u64m]
  rw [mask32 _ (wm _).1 (wm _).2]
  have := mul_law (x / 4294967296) (x % 4294967296) (y / 4294967296) (y % 4294967296) (by omega) (by omega) (by omega) (by omega) (by omega) (by omega) (by omega) (by omega)
  refine ⟨?_, trivial⟩
  rw [this]
  congr 2 <;> omega
theorem times_spec (x y : Nat) (hx : x < 18446744073709551616) (hy : y < 18446744073709551616) : Sp Tryd.prog gl 178 [u x, u y] (wide (x * y)) := by
  refine s178 rfl rfl ?_
  simp [c178]
  refine onC_mk _ (mul64 x y hx hy) ?_
  simp [wide]
end Go.Ai
set_option linter.unusedSimpArgs false
set_option linter.unusedVariables false
namespace Go.Ai
open Go.Proofs

/-! ### Plain laws of Knuth's division -/
theorem mul_split (q y1 y0 : Nat) : q * (y1 * 4294967296 + y0) = q * y1 * 4294967296 + q * y0 := by rw [Nat.mul_add, Nat.mul_assoc]
theorem un_split {q y1 r un : Nat} (he : q * y1 + r = un) : un * 4294967296 = q * y1 * 4294967296 + r * 4294967296 := by
  have := congrArg (fun x => x * 4294967296) he
  simp only [Nat.add_mul] at this
  exact this.symm
theorem div_lt_of {N Y q : Nat} (hY : 0 < Y) (h : N < q * Y) : N / Y < q := (Nat.div_lt_iff_lt_mul hY).2 h
theorem lin1 {A B r v un y1 y0 : Nat} (he : A + r = un) (hun : un < y1 * 4294967296 + y0) (hv : v < 4294967296) (h3 : 4294967296 * y1 ≤ A) (h4 : 4294967296 * y0 ≤ B) : A * 4294967296 + r * 4294967296 + v < A * 4294967296 + B := by omega
theorem lin2 {A B r v : Nat} (h : r * 4294967296 + v < B) : A * 4294967296 + r * 4294967296 + v < A * 4294967296 + B := Nat.lt_of_le_of_lt (Nat.le_of_eq (Nat.add_assoc _ _ _)) (Nat.add_lt_add_left h _)
theorem lin3 {A B r v : Nat} (h : B ≤ r * 4294967296 + v) : A * 4294967296 + B ≤ A * 4294967296 + r * 4294967296 + v := by omega
/-- The guess is never too small, and the loop's two ends find it right. -/
theorem digit_step {un v y1 y0 q r D : Nat} (hun : un < y1 * 4294967296 + y0) (hy0 : y0 < 4294967296) (hy1 : 2147483648 ≤ y1) (hv : v < 4294967296)
    (hD : D = (un * 4294967296 + v) / (y1 * 4294967296 + y0))
    (hq : D ≤ q) (he : q * y1 + r = un) (hbad : 4294967296 ≤ q ∨ r * 4294967296 + v < q * y0) :
    1 ≤ q ∧ D ≤ q - 1 := by
  have hpos : 0 < y1 * 4294967296 + y0 := by clear hD; omega
  have h2 : D < q := by
    rw [hD]
    apply div_lt_of hpos
    clear hD hq
    rw [mul_split, un_split he]
    rcases hbad with h | h
    · exact lin1 he hun hv (Nat.mul_le_mul_right y1 h) (Nat.mul_le_mul_right y0 h)
    · exact lin2 h
  clear hD
  omega
theorem digit_end {un v y1 y0 q r D : Nat} (hy1 : 2147483648 ≤ y1) (hD : D = (un * 4294967296 + v) / (y1 * 4294967296 + y0))
    (hq : D ≤ q) (he : q * y1 + r = un) (hok : q * y0 ≤ r * 4294967296 + v) :
    q = D := by
  have hpos : 0 < y1 * 4294967296 + y0 := by clear hD; omega
  have : q ≤ D := by
    rw [hD]
    apply (Nat.le_div_iff_mul_le hpos).2
    clear hD hq
    rw [mul_split, un_split he]
    exact lin3 hok
  clear hD
  omega
theorem guess_hi {un y1 y0 : Nat} (hun : un < y1 * 4294967296 + y0) (hy0 : y0 < 4294967296) (hy1 : 2147483648 ≤ y1) : un / y1 ≤ 4294967297 := by
  have : un / y1 < 4294967298 := by
    apply (Nat.div_lt_iff_lt_mul (by omega)).2
    omega
  omega
theorem guess_lo {un v y1 y0 : Nat} (hy0 : y0 < 4294967296) (hy1 : 2147483648 ≤ y1) (hv : v < 4294967296) : (un * 4294967296 + v) / (y1 * 4294967296 + y0) ≤ un / y1 := by
  have hpos : 0 < y1 * 4294967296 + y0 := by omega
  have h1 : (un * 4294967296 + v) / (y1 * 4294967296 + y0) ≤ (un * 4294967296 + v) / (y1 * 4294967296) := Nat.div_le_div_left (Nat.le_add_right _ _) (Nat.mul_pos (by omega) (by decide))
  have h2 : (un * 4294967296 + v) / (y1 * 4294967296) = un / y1 := by
    rw [Nat.mul_comm y1, ← Nat.div_div_eq_div_mul]
    congr 1
    omega
  omega
theorem digit_over {y0 q r v : Nat} (hy0 : y0 < 4294967296) (hq : q ≤ 4294967297) (hr : 4294967296 ≤ r) : q * y0 ≤ r * 4294967296 + v := by
  have h1 : q * y0 ≤ 4294967297 * 4294967295 := Nat.mul_le_mul hq (by omega)
  have h2 : 4294967296 * 4294967296 ≤ r * 4294967296 := Nat.mul_le_mul_right _ hr
  omega
theorem or_shift (a b s : Nat) (hb : b < 2 ^ s) : a * 2 ^ s ||| b = a * 2 ^ s + b := by
  rw [← Nat.shiftLeft_eq, Nat.shiftLeft_add_eq_or_of_lt hb]
end Go.Ai
set_option linter.unusedSimpArgs false
set_option linter.unusedVariables false
namespace Go.Ai
open Go.Proofs

/-! ### Len64, LeadingZeros64 -/
def lenN (x : Nat) : Nat := if x = 0 then 0 else Nat.log2 x + 1
def lenT : List UInt8 := (List.range 256).map fun x => UInt8.ofNat (lenN x)
theorem lenT_eq : ([0, 1, 2, 2, 3, 3, 3, 3, 4, 4, 4, 4, 4, 4, 4, 4, 5, 5, 5, 5, 5, 5, 5, 5, 5, 5, 5, 5, 5, 5, 5, 5, 6, 6, 6, 6, 6, 6, 6, 6, 6, 6, 6, 6, 6, 6, 6, 6, 6, 6, 6, 6, 6, 6, 6, 6, 6, 6, 6, 6, 6, 6, 6, 6, 7, 7, 7, 7, 7, 7, 7, 7, 7, 7, 7, 7, 7, 7, 7, 7, 7, 7, 7, 7, 7, 7, 7, 7, 7, 7, 7, 7, 7, 7, 7, 7, 7, 7, 7, 7, 7, 7, 7, 7, 7, 7, 7, 7, 7, 7, 7, 7, 7, 7, 7, 7, 7, 7, 7, 7, 7, 7, 7, 7, 7, 7, 7, 7, 8, 8, 8, 8, 8, 8, 8, 8, 8, 8, 8, 8, 8, 8, 8, 8, 8, 8, 8, 8, 8, 8, 8, 8, 8, 8, 8, 8, 8, 8, 8, 8, 8, 8, 8, 8, 8, 8, 8, 8, 8, 8, 8, 8, 8, 8, 8, 8, 8, 8, 8, 8, 8, 8, 8, 8, 8, 8, 8, 8, 8, 8, 8, 8, 8, 8, 8, 8, 8, 8, 8, 8, 8, 8, 8, 8, 8, 8, 8, 8, 8, 8, 8, 8, 8, 8, 8, 8, 8, 8, 8, 8, 8, 8, 8, 8, 8, 8, 8, 8, 8, 8, 8, 8, 8, 8, 8, 8, 8, 8, 8, 8, 8, 8, 8, 8, 8, 8, 8, 8, 8, 8, 8, 8, 8, 8, 8, 8] : List UInt8) = lenT := by kernel_rfl
theorem lenN_shr {x k : Nat} (h : 2 ^ k ≤ x) : lenN x = lenN (x / 2 ^ k) + k := by
  have hx : x ≠ 0 := by have := Nat.two_pow_pos k; omega
  have hy : 1 ≤ x / 2 ^ k := (Nat.le_div_iff_mul_le (Nat.two_pow_pos k)).2 (by omega)
  have hy0 : x / 2 ^ k ≠ 0 := by omega
  unfold lenN
  rw [if_neg hx, if_neg hy0]
  have h1 := Nat.log2_self_le hy0
  have h2 := Nat.lt_log2_self (n := x / 2 ^ k)
  have e : Nat.log2 x = Nat.log2 (x / 2 ^ k) + k := by
    apply (Nat.log2_eq_iff hx).2
    rw [Nat.pow_add, show Nat.log2 (x / 2 ^ k) + k + 1 = (Nat.log2 (x / 2 ^ k) + 1) + k by omega, Nat.pow_add]
    exact ⟨(Nat.le_div_iff_mul_le (Nat.two_pow_pos k)).1 h1, (Nat.div_lt_iff_lt_mul (Nat.two_pow_pos k)).1 h2⟩
  omega
theorem lenN_le {x k : Nat} (h : x < 2 ^ k) : lenN x ≤ k := by
  unfold lenN
  split
  · omega
  · rename_i h0
    have := (Nat.log2_lt h0).2 h
    omega
theorem lenT_get (m : Nat) (hm : m < 256) : lenT[m]? = some (UInt8.ofNat (lenN m)) := by simp [lenT, hm]
theorem len64_end (a : Int) (b m : Nat) (h1 : a = b) (hb : b ≤ 56) (hm : m < 256) : IntKind.i64.wrap (a + ((UInt8.ofNat (lenN m)).toNat : Int)) = (b + lenN m : Nat) := by
  have := lenN_le (x := m) (k := 8) (by omega)
  have e : (UInt8.ofNat (lenN m)).toNat = lenN m := by simp; omega
  rw [e, h1, wrap_i64] <;> omega
theorem shr_lit (x : Nat) (k n : Nat) (h : (2 : Int) ^ min k IntKind.u64.bits = (n : Int)) : (x : Int).fdiv (2 ^ min k IntKind.u64.bits) = ((x / n : Nat) : Int) := by
  rw [h, Int.fdiv_eq_ediv_of_nonneg _ (by omega)]; simp
theorem shr32 (x : Nat) : (x : Int).fdiv (2 ^ min 32 IntKind.u64.bits) = ((x / 4294967296 : Nat) : Int) := shr_lit x 32 _ (by decide)
theorem shr16 (x : Nat) : (x : Int).fdiv (2 ^ min 16 IntKind.u64.bits) = ((x / 65536 : Nat) : Int) := shr_lit x 16 _ (by decide)
theorem shr8 (x : Nat) : (x : Int).fdiv (2 ^ min 8 IntKind.u64.bits) = ((x / 256 : Nat) : Int) := shr_lit x 8 _ (by decide)
section
variable {x : Nat} (hx : x < 18446744073709551616)
include hx
set_option linter.unusedSectionVars false
set_option maxRecDepth 20000 in
theorem len64_3 (e : List (Nat × AV)) (pm : List (Pl × Nat)) (m b : Nat) (h0 : lk e 0 = u m) (h2 : lk e 2 = i6 b) (hm : m < 256) (hb : b ≤ 56) (hl : lenN x = b + lenN m) :
    wpA (SpH Tryd.prog gl) (AC.tl 4 c137) (postA [.t 2] (i6 (lenN x))) ⟨e, [], pm⟩ := by
  unfold c137
  rw [lenT_eq]
  have e1 : IntKind.u8.wrap (m : Int) = m := wrap_u8 (by omega) (by omega)
  have e2 := len64_end b b m rfl hb hm
  have e3 : IntKind.i64.wrap ((lenN m : Int) % 256) = (lenN m : Int) % 256 := wrap_i64 (by omega) (by omega)
  simp at e2
  simp [AC.tl, h0, h2, e1, lenT_get m hm, hl, e3]
  exact e2
set_option maxRecDepth 20000 in
theorem len64_2 (e : List (Nat × AV)) (pm : List (Pl × Nat)) (m b : Nat) (h0 : lk e 0 = u m) (h2 : lk e 2 = i6 b) (hm : m < 65536) (hb : b ≤ 48) (hl : lenN x = b + lenN m) :
    wpA (SpH Tryd.prog gl) (AC.tl 3 c137) (postA [.t 2] (i6 (lenN x))) ⟨e, [], pm⟩ := by
  have ec : AC.tl 3 c137 = AC.cutAt 1 (AC.tl 4 c137) (AC.tl 3 c137) := rfl
  rw [ec]
  have T := @len64_3 x hx
  generalize AC.tl 4 c137 = t at T ⊢
  simp [c137, AC.tl, AC.cutAt, h0, h2]
  refine onB_dec (fun h => ?_) (fun h => ?_)
  · simp [h0, h2]
    refine T _ _ (m / 256) (b + 8) ?_ ?_ (by omega) (by omega) ?_
    · simp; exact shr8 m
    · simp; exact wrap_i64 (by omega) (by omega)
    · rw [hl, lenN_shr (x := m) (k := 8) (by omega), show m / 2 ^ 8 = m / 256 from rfl]; omega
  · simp
    exact T _ _ m b (by simp [h0]) (by simp [h2]) (by omega) (by omega) hl
set_option maxRecDepth 20000 in
theorem len64_1 (e : List (Nat × AV)) (pm : List (Pl × Nat)) (m b : Nat) (h0 : lk e 0 = u m) (h2 : lk e 2 = i6 b) (hm : m < 4294967296) (hb : b ≤ 32) (hl : lenN x = b + lenN m) :
    wpA (SpH Tryd.prog gl) (AC.tl 2 c137) (postA [.t 2] (i6 (lenN x))) ⟨e, [], pm⟩ := by
  have ec : AC.tl 2 c137 = AC.cutAt 1 (AC.tl 3 c137) (AC.tl 2 c137) := rfl
  rw [ec]
  have T := @len64_2 x hx
  generalize AC.tl 3 c137 = t at T ⊢
  simp [c137, AC.tl, AC.cutAt, h0, h2]
  refine onB_dec (fun h => ?_) (fun h => ?_)
  · simp [h0, h2]
    refine T _ _ (m / 65536) (b + 16) ?_ ?_ (by omega) (by omega) ?_
    · simp; exact shr16 m
    · simp; exact wrap_i64 (by omega) (by omega)
    · rw [hl, lenN_shr (x := m) (k := 16) (by omega), show m / 2 ^ 16 = m / 65536 from rfl]; omega
  · simp
    exact T _ _ m b (by simp [h0]) (by simp [h2]) (by omega) (by omega) hl
set_option maxRecDepth 20000 in
theorem len64_spec : Sp Tryd.prog gl 137 [u x] (i6 (lenN x)) := by
  refine s137 rfl rfl ?_
  have ec : c137 = AC.cutAt 2 (AC.tl 2 c137) c137 := rfl
  rw [ec]
  have T := @len64_1 x hx
  generalize AC.tl 2 c137 = t at T ⊢
  simp [c137, AC.tl, AC.cutAt]
  refine onB_dec (fun h => ?_) (fun h => ?_)
  · simp
    refine T _ _ (x / 4294967296) 32 ?_ ?_ (by omega) (by omega) ?_
    · simp; exact shr32 x
    · simp
    · rw [lenN_shr (x := x) (k := 32) (by omega), show x / 2 ^ 32 = x / 4294967296 from rfl]; omega
  · simp
    exact T _ _ x 0 (by simp) (by simp) (by omega) (by omega) (by omega)
end
end Go.Ai
set_option linter.unusedSimpArgs false
set_option linter.unusedVariables false
namespace Go.Ai
open Go.Proofs Go.RowKit
/-! ### Numbers and texts as bytes, no program in sight -/
def sz8 (n : Nat) : Nat := if h : n = 0 then 0 else sz8 (n / 256) + 1
termination_by n
decreasing_by omega
def be : Nat → Nat → List UInt8
  | 0, _ => []
  | k + 1, n => UInt8.ofNat (n / 256 ^ k) :: be k n
def numB (n : Nat) : List UInt8 := UInt8.ofNat (sz8 n) :: be (sz8 n) n
def textB (s : List UInt8) : List UInt8 := numB s.length ++ s
def flagB (f : Bool) : List UInt8 := [if f = true then 1 else 0]
theorem sz8_zero : sz8 0 = 0 := by rw [sz8, dif_pos rfl]
theorem sz8_pos {n : Nat} (h : n ≠ 0) : sz8 n = sz8 (n / 256) + 1 := by rw [sz8, dif_neg h]
theorem be_len (k n : Nat) : (be k n).length = k := by
  induction k with
  | zero => rfl
  | succ k ih => simp [be, ih]
theorem sz8_le (k n : Nat) (h : n < 256 ^ k) : sz8 n ≤ k := by
  induction k generalizing n with
  | zero => have : n = 0 := by simpa using h
            subst this; rw [sz8_zero]; exact Nat.le_refl _
  | succ k ih =>
    by_cases h0 : n = 0
    · subst h0; rw [sz8_zero]; omega
    · rw [sz8_pos h0]
      have := ih (n / 256) (by rw [Nat.pow_succ] at h; omega)
      omega
theorem sz8_le8 (n : Nat) (h : n < 18446744073709551616) : sz8 n ≤ 8 := sz8_le 8 n (by simpa using h)
theorem sz8_len (n : Nat) : (lenN n + 7) / 8 = sz8 n := by
  induction n using Nat.strongRecOn with
  | _ n ih =>
    by_cases h0 : n = 0
    · subst h0; rw [sz8_zero]; rfl
    · rw [sz8_pos h0]
      by_cases h1 : n < 256
      · have e : n / 256 = 0 := by omega
        rw [e, sz8_zero]
        have hl := lenN_le (x := n) (k := 8) (by omega)
        have : 1 ≤ lenN n := by unfold lenN; rw [if_neg h0]; omega
        omega
      · have := ih (n / 256) (by omega)
        rw [lenN_shr (x := n) (k := 8) (by omega)]
        rw [show n / 2 ^ 8 = n / 256 from rfl]
        omega
theorem numB_len (n : Nat) (h : n < 18446744073709551616) : (numB n).length ≤ 9 := by
  have := sz8_le8 n h
  simp [numB, be_len]; omega
theorem byteRows_app (a b : List UInt8) : byteRows (a ++ b) = byteRows a ++ byteRows b := by simp [byteRows]
theorem byteRows_len (a : List UInt8) : (byteRows a).length = a.length := by simp [byteRows]
theorem byteRows_one (a : List UInt8) : ∀ r ∈ byteRows a, r.length = 1 := by
  intro r hr; simp only [byteRows, List.mem_map] at hr; obtain ⟨x, _, rfl⟩ := hr; rfl
theorem byteRows_cons (b : UInt8) (a : List UInt8) : byteRows (b :: a) = [.int .u8 b.toNat] :: byteRows a := rfl
theorem rowBytes_of (a : List UInt8) : rowBytes (byteRows a) = some a := by
  induction a with
  | nil => rfl
  | cons b r ih =>
    rw [byteRows_cons]
    simp only [rowBytes, ih]
    congr 2
    simp
theorem byteRows_at (a : List UInt8) (i : Nat) (h : i < a.length) : (byteRows a)[i]? = some [.int .u8 a[i].toNat] := by simp [byteRows, h]
theorem byteRows_take (a : List UInt8) (n : Nat) : (byteRows a).take n = byteRows (a.take n) := by simp [byteRows, List.map_take]
theorem byteRows_drop (a : List UInt8) (n : Nat) : (byteRows a).drop n = byteRows (a.drop n) := by simp [byteRows, List.map_drop]
theorem shrB (n m : Nat) (hm : m ≤ 7) : (n : Int).fdiv (2 ^ (min (8 * (m : Int)).toNat IntKind.u64.bits)) = ((n / 256 ^ m : Nat) : Int) := by
  have e : (2 : Int) ^ (min (8 * (m : Int)).toNat IntKind.u64.bits) = ((256 ^ m : Nat) : Int) := by
    match m, hm with
    | 0, _ => rfl | 1, _ => rfl | 2, _ => rfl | 3, _ => rfl | 4, _ => rfl | 5, _ => rfl | 6, _ => rfl | 7, _ => rfl
  rw [e, Int.fdiv_eq_ediv_of_nonneg _ (Int.natCast_nonneg _)]
  rfl
theorem wrap_u8o (n : Nat) : IntKind.u8.wrap (n : Int) = ((UInt8.ofNat n).toNat : Int) := by
  have : IntKind.u8.wrap (n : Int) = if (false && decide ((n : Int) % 2 ^ 8 ≥ 2 ^ (8 - 1))) = true then (n : Int) % 2 ^ 8 - 2 ^ 8 else (n : Int) % 2 ^ 8 := rfl
  rw [this]
  simp
theorem or0_u8 (n : Nat) (h : n < 256) : bits BinOp.or IntKind.u8 0 (n : Int) = n := by
  have : ∀ x : Fin 256, bits BinOp.or IntKind.u8 0 ((x.val : Nat) : Int) = (x.val : Int) := by decide +kernel
  exact this ⟨n, h⟩
theorem and0_u8 (n : Nat) (h : n < 256) : bits BinOp.and IntKind.u8 (n : Int) 0 = 0 := by
  have : ∀ x : Fin 256, bits BinOp.and IntKind.u8 ((x.val : Nat) : Int) 0 = 0 := by decide +kernel
  exact this ⟨n, h⟩
theorem andNot0_u8 (n : Nat) (h : n < 256) : bits BinOp.andNot IntKind.u8 (n : Int) 0 = n := by
  have : ∀ x : Fin 256, bits BinOp.andNot IntKind.u8 ((x.val : Nat) : Int) 0 = (x.val : Int) := by decide +kernel
  exact this ⟨n, h⟩
theorem appS_mk {P : Program} {GL : List (Nat × List Value)} {f k : Nat} {rows out : List (List AV)} {l : List AV} (h : ∀ d, SpH P GL f d ⟨.sl rows :: l, [], [(.s 0, k)]⟩ ⟨.sl out, [], [(.s 0, k)]⟩) : appS (SpH P GL) f (some rows) k l out := h
theorem appN_mk {P : Program} {GL : List (Nat × List Value)} {f k : Nat} {out : List (List AV)} {l : List AV} (h : ∀ d, SpH P GL f d ⟨l, [], []⟩ ⟨.sl out, [], [(.s 0, k)]⟩) : appS (SpH P GL) f none k l out := h
theorem size_spec (n : Nat) (hn : n < 18446744073709551616) : Sp Tryd.prog gl 117 [u n] (i6 (sz8 n)) := by
  refine s117 rfl rfl ?_
  have L := len64_spec (x := n) hn
  have e := sz8_len n
  have hl : lenN n ≤ 64 := lenN_le (x := n) (k := 64) (by omega)
  have t1 : IntKind.i64.wrap ((lenN n : Int) + 7) = (lenN n : Int) + 7 := by rw [wrap_i64] <;> omega
  have t2 : ((lenN n : Int) + 7).tdiv 8 = (sz8 n : Nat) := by
    rw [Int.tdiv_eq_ediv_of_nonneg (by omega)]; omega
  have t3 : IntKind.i64.wrap ((sz8 n : Nat) : Int) = (sz8 n : Nat) := by rw [wrap_i64] <;> omega
  clear e
  generalize lenN n = ln at *
  generalize sz8 n = sn at *
  simp -implicitDefEqProofs [c117]
  refine onC_mk _ L ?_
  simp -implicitDefEqProofs [t1, t2, t3]
set_option maxRecDepth 20000 in
theorem put_spec (l : List UInt8) (n : Nat) (hl : l.length ≤ 1000000) (hn : n < 18446744073709551616) (d : Nat) :
    SpH Tryd.prog gl 84 d ⟨[.sl (byteRows l), .int .u8 0, u n], [], [(.s 0, 1)]⟩ ⟨.sl (byteRows (l ++ numB n)), [], [(.s 0, 1)]⟩ := by
  refine h84 rfl ?_
  have S := size_spec n hn
  have h8 := sz8_le8 n hn
  have hlim : lim = 140737488355328 := rfl
  have t0 : IntKind.u8.wrap ((sz8 n : Nat) : Int) = (sz8 n : Nat) := by rw [wrap_u8] <;> omega
  have t1 := or0_u8 (sz8 n) (by omega)
  have b1 : ((UInt8.ofNat (sz8 n)).toNat : Int) = (sz8 n : Nat) := by simp; omega
  obtain ⟨R, hR⟩ : ∃ R, R = l ++ numB n := ⟨_, rfl⟩
  rw [← hR]
  have one := byteRows_one l
  have bl := byteRows_len l
  have q1 : l.length + 1 ≤ 140737488355328 := by omega
  have first : byteRows l ++ [[AV.int .u8 (sz8 n : Nat)]] = byteRows (l ++ [UInt8.ofNat (sz8 n)]) := by
    rw [byteRows_app, byteRows_cons, b1]; rfl
  unfold numB at hR
  have hst : (l ++ [UInt8.ofNat (sz8 n)]) ++ be (sz8 n) n = R := by rw [hR]; simp
  generalize sz8 n = k at *
  simp only [inSt, mpL, mpB, mpP, AV.mp]
  simp -implicitDefEqProofs [c84]
  refine onC_mk _ S ?_
  simp -implicitDefEqProofs [t0, t1, hlim, bl, q1, first]
  refine ⟨one, ?_⟩
  refine wp_lpk (α := Nat × List UInt8) (fun x => ⟨[(0, .sl (byteRows x.2)), (2, u n), (7, i6 x.1)], [], [(.s 0, 1)]⟩) (fun x => x.1 ≤ 8 ∧ x.2.length + x.1 ≤ 1000010 ∧ x.2 ++ be x.1 n = R) (fun x => x.1) ?_ (k, l ++ [UInt8.ofNat k]) ?_ ?_
  · rintro K ⟨j, acc⟩ hK ⟨g1, g2, g3⟩
    simp only at g1 g2 g3
    cases j with
    | zero =>
      simp only [be, List.append_nil] at g3
      subst g3
      clear hK
      generalize byteRows acc = A at *
      simp -implicitDefEqProofs
      refine postH_r ⟨?_, ?_, ?_, ?_, ?_, ?_⟩ <;> simp -implicitDefEqProofs
    | succ j =>
      have fin : ∀ σ', Weak σ' ⟨[(0, .sl (byteRows (acc ++ [UInt8.ofNat (n / 256 ^ j)]))), (2, u n), (7, i6 (j : Nat))], [], [(.s 0, 1)]⟩ → K σ' :=
        fun σ' hσ => hK (j, acc ++ [UInt8.ofNat (n / 256 ^ j)]) σ' ⟨by simp only; omega, by simp; omega, by simp only [be] at g3; simp only [List.append_assoc, List.singleton_append]; exact g3⟩ (by simp only; omega) hσ
      have w1 : IntKind.i64.wrap ((j : Int) + 1 - 1) = (j : Nat) := by rw [wrap_i64] <;> omega
      have w2 : IntKind.i64.wrap (8 * (j : Int)) = 8 * (j : Int) := by rw [wrap_i64] <;> omega
      have w3 := shrB n j (by omega)
      have w4 := wrap_u8o (n / 256 ^ j)
      generalize n / 256 ^ j = x at *
      have w5 : (0 : Int) ≤ 8 * (j : Int) := by omega
      have w6 : (0 : Int) < (j : Int) + 1 := by omega
      have w7 : IntKind.i64.wrap (j : Int) = (j : Nat) := by rw [wrap_i64] <;> omega
      have one := byteRows_one acc
      have bl := byteRows_len acc
      have q1 : acc.length + 1 ≤ 140737488355328 := by omega
      rw [byteRows_app, byteRows_cons, show byteRows [] = [] from rfl] at fin
      generalize byteRows acc = A at *
      generalize (UInt8.ofNat x).toNat = bb at *
      clear hK g3
      simp -implicitDefEqProofs [w6, w7, w2, w5, w3, w4, hlim, bl, q1]
      refine ⟨one, fin _ (weak_mk ?_ ?_ ?_ ?_ ?_ ?_)⟩ <;> simp -implicitDefEqProofs
  · exact ⟨h8, by simp; omega, hst⟩
  · refine weak_mk ?_ ?_ ?_ ?_ ?_ ?_ <;> simp -implicitDefEqProofs
end Go.Ai
set_option linter.unusedSimpArgs false
set_option linter.unusedVariables false
namespace Go.Ai
open Go.Proofs
/-! ### Keys and messages, no program in sight -/
structure Ky where
  g : List UInt8
  r : List UInt8
  p : Bool
  e : Nat
  f : Bool
  deriving DecidableEq
structure Ms where
  g : List UInt8
  p : Bool
  ks : List Ky
  deriving DecidableEq
def Ky.row (k : Ky) : List AV := [.str k.g, .str k.r, .bool k.p, u k.e, .bool k.f]
def Ms.row (m : Ms) : List AV := [.str m.g, .bool m.p, .sl (m.ks.map Ky.row)]
def goes (m : Ms) (k : Ky) : Bool := m.g == k.g && m.p == k.p && decide (m.ks.length < 8)
/-- Where a key goes; below 0: nowhere. -/
def goIx : List Ms → Ky → Nat → Int
  | [], _, _ => -1
  | m :: r, k, i => if goes m k = true then i else goIx r k (i + 1)
def addK : List Ms → Ky → List Ms
  | [], k => [⟨k.g, k.p, [k]⟩]
  | m :: r, k => if goes m k = true then { m with ks := m.ks ++ [k] } :: r else m :: addK r k
def grp (l : List Ky) (pg : Bool) : List Ms := (l.filter fun k => k.p == pg).foldl addK []
def grpAll (l : List Ky) : List Ms := grp l true ++ grp l false
def keysOf (l : List Ms) : List Ky := (l.map Ms.ks).flatten

theorem goIx_none {k : Ky} : ∀ {l : List Ms} {i : Nat}, goIx l k i = -1 ↔ ∀ m ∈ l, goes m k = false
  | [], i => by simp [goIx]
  | m :: r, i => by
    simp only [goIx]
    split
    · rename_i h
      constructor
      · intro h2; omega
      · intro h2; have := h2 m (by simp); rw [h] at this; cases this
    · rename_i h
      rw [goIx_none]
      simp only [List.mem_cons, forall_eq_or_imp]
      constructor
      · intro h2; exact ⟨by simpa using h, h2⟩
      · intro h2; exact h2.2
theorem addK_none {k : Ky} : ∀ {l : List Ms}, (∀ m ∈ l, goes m k = false) → addK l k = l ++ [⟨k.g, k.p, [k]⟩]
  | [], _ => rfl
  | m :: r, h => by
    simp only [addK]
    rw [if_neg (by rw [h m (by simp)]; simp), addK_none (fun m hm => h m (by simp [hm]))]
    rfl
theorem goIx_some {k : Ky} : ∀ {l : List Ms} {i : Nat}, (∀ m ∈ l, goes m k = false) ∨ ∃ j m, l[j]? = some m ∧ goes m k = true ∧ goIx l k i = ((i + j : Nat) : Int) ∧ addK l k = l.set j { m with ks := m.ks ++ [k] }
  | [], i => .inl (by simp)
  | m :: r, i => by
    by_cases h : goes m k = true
    · right
      refine ⟨0, m, rfl, h, ?_, ?_⟩
      · simp only [goIx, if_pos h, Nat.add_zero]
      · simp only [addK, if_pos h, List.set_cons_zero]
    · rcases goIx_some (l := r) (i := i + 1) (k := k) with h2 | ⟨j, m', h2, h3, h4, h5⟩
      · left
        intro m' hm
        simp only [List.mem_cons] at hm
        rcases hm with rfl | hm
        · simpa using h
        · exact h2 m' hm
      · right
        refine ⟨j + 1, m', by simpa using h2, h3, ?_, ?_⟩
        · simp only [goIx, if_neg h, h4]
          congr 1; omega
        · simp only [addK, if_neg h, h5, List.set_cons_succ]
/-- The cells of messages, one behind the other. -/
def cellsM (l : List Ms) : List AV := (l.map Ms.row).flatten
theorem cellsM_len (l : List Ms) : (cellsM l).length = l.length * 3 := by
  unfold cellsM
  rw [flatten_length (k := 3)]
  · simp
  · intro r hr
    obtain ⟨m, _, rfl⟩ := List.mem_map.1 hr
    rfl
theorem flat_drop {k : Nat} : ∀ {l : List (List AV)}, (∀ r ∈ l, r.length = k) → ∀ j, l.flatten.drop (j * k) = (l.drop j).flatten
  | [], _, j => by simp
  | r :: l, h, 0 => by simp
  | r :: l, h, j + 1 => by
    have hr := h r (by simp)
    have : (j + 1) * k = r.length + j * k := by rw [hr, Nat.add_mul]; omega
    rw [List.flatten_cons, this, List.drop_append]
    have e1 : List.drop (r.length + j * k) r = [] := List.drop_eq_nil_of_le (by omega)
    rw [e1, List.nil_append, show r.length + j * k - r.length = j * k by omega, flat_drop (fun r hr => h r (by simp [hr]))]
    rfl
theorem cellsM_drop (l : List Ms) (j : Nat) : (cellsM l).drop (j * 3) = cellsM (l.drop j) := by
  unfold cellsM
  rw [flat_drop, List.map_drop]
  intro r hr
  obtain ⟨m, _, rfl⟩ := List.mem_map.1 hr
  rfl
theorem cellsM_row (l : List Ms) (j : Nat) (h : j < l.length) : ((cellsM l).drop (j * 3)).take 3 = (l[j]).row := by
  rw [cellsM_drop, List.drop_eq_getElem_cons h]
  rfl
theorem cellsM_ks (l : List Ms) (j : Nat) (h : j < l.length) : (cellsM l)[j * 3 + 2]? = some (.sl ((l[j]).ks.map Ky.row)) := by
  have e : (cellsM l)[j * 3 + 2]? = ((cellsM l).drop (j * 3))[2]? := by rw [List.getElem?_drop]
  rw [e, cellsM_drop, List.drop_eq_getElem_cons h]
  rfl
theorem cellsM_cons (m : Ms) (l : List Ms) : cellsM (m :: l) = m.row ++ cellsM l := rfl
theorem cellsM_app (a b : List Ms) : cellsM (a ++ b) = cellsM a ++ cellsM b := by simp [cellsM]
theorem cellsM_set (v : List Ky) : ∀ (l : List Ms) (j : Nat) (h : j < l.length), (cellsM l).set (j * 3 + 2) (.sl (v.map Ky.row)) = cellsM (l.set j { l[j] with ks := v })
  | m :: l, 0, _ => rfl
  | m :: l, j + 1, h => by
    simp only [List.set_cons_succ, cellsM_cons, List.getElem_cons_succ]
    rw [← cellsM_set v l j (by simpa using h), show (j + 1) * 3 + 2 = m.row.length + (j * 3 + 2) by simp [Ms.row]; omega, List.set_append_right _ _ (by omega)]
    congr 2; omega
theorem cellsM_new (l : List Ms) (g : List UInt8) (p : Bool) (v : List Ky) : (cellsM l ++ [AV.str g, AV.bool p, AV.nils]).set (l.length * 3 + 2) (.sl (v.map Ky.row)) = cellsM (l ++ [⟨g, p, v⟩]) := by
  rw [cellsM_app, List.set_append_right _ _ (by rw [cellsM_len]; omega), cellsM_len, show l.length * 3 + 2 - l.length * 3 = 2 by omega]
  rfl
theorem row_ids (k : Ky) : idsL k.row = [] := rfl
theorem mrow_ids (m : Ms) : idsL m.row = [] := rfl
theorem idsL_appB (a b : List AV) : idsL (a ++ b) = idsL a ++ idsL b := by
  induction a with
  | nil => rfl
  | cons x r ih => simp only [List.cons_append, idsL, ih, List.append_assoc]
theorem cellsM_ids : ∀ (l : List Ms), idsL (cellsM l) = []
  | [] => rfl
  | m :: l => by rw [cellsM_cons, idsL_appB, mrow_ids, cellsM_ids l]; rfl
theorem addK_length (l : List Ms) (k : Ky) : (addK l k).length ≤ l.length + 1 := by
  induction l with
  | nil => simp [addK]
  | cons m r ih =>
    simp only [addK]
    split
    · simp
    · simp only [List.length_cons]; omega

/-- The permissions of messages' keys in box 'b'. -/
def kPm (b : Id) (n : Nat) : List (Pl × Nat) := (List.range n).map fun i => (.b b (i * 3 + 2), 5)
theorem kPm_lk (b : Id) (n j : Nat) (h : j < n) : lkP (kPm b n) (.b b (j * 3 + 2)) = some 5 := by
  have : ∀ (l : List Nat), j ∈ l → lkP (l.map fun i => (Pl.b b (i * 3 + 2), 5)) (.b b (j * 3 + 2)) = some 5 := by
    intro l
    induction l with
    | nil => intro h; simp at h
    | cons x r ih =>
      intro h
      simp only [List.map_cons, lkP]
      split
      · rfl
      · rename_i hne
        simp only [List.mem_cons] at h
        rcases h with rfl | h
        · exact absurd rfl hne
        · exact ih h
  exact this _ (List.mem_range.2 h)
theorem kPm_mem {b : Id} {n : Nat} {p : Pl × Nat} (h : p ∈ kPm b n) : ∃ j, j < n ∧ p = (.b b (j * 3 + 2), 5) := by
  unfold kPm at h
  obtain ⟨j, hj, rfl⟩ := List.mem_map.1 h
  exact ⟨j, List.mem_range.1 hj, rfl⟩
theorem kPm_self {b : Id} {n : Nat} : ∀ p ∈ kPm b n, lkP (kPm b n) p.1 = some p.2 := by
  intro p hp
  obtain ⟨j, hj, rfl⟩ := kPm_mem hp
  exact kPm_lk b n j hj
theorem kPm_ids {b : Id} {n : Nat} {p : Pl × Nat} (hp : p ∈ kPm b n) {d : Id} (hd : d ∈ p.1.ids) : d = b := by
  obtain ⟨j, hj, rfl⟩ := kPm_mem hp
  simpa [Pl.ids] using hd
theorem mpP_kPm (f : Id → Id) (b : Id) (n : Nat) : mpP f (kPm b n) = kPm (f b) n := by
  unfold kPm
  induction List.range n with
  | nil => rfl
  | cons x r ih => simp only [List.map_cons, mpP, Pl.mp, ih]
theorem dlS_kPm (b : Id) (n d : Nat) : dlS (kPm b n) d = kPm b n := by
  unfold kPm
  induction List.range n with
  | nil => rfl
  | cons x r ih => simp only [List.map_cons, dlS, ih]
theorem dlB_kPm (b c : Id) (n : Nat) (h : b ≠ c) : dlB (kPm b n) c = kPm b n := by
  unfold kPm
  induction List.range n with
  | nil => rfl
  | cons x r ih => simp only [List.map_cons, dlB, ih, if_neg h]
theorem dlB_kPm_self (b : Id) (n : Nat) : dlB (kPm b n) b = [] := by
  unfold kPm
  induction List.range n with
  | nil => rfl
  | cons x r ih => simp only [List.map_cons, dlB, ih, if_true]
theorem rnP_kPm (b c : Id) (n : Nat) : rnP (kPm b n) b c = kPm c n := by
  unfold kPm
  induction List.range n with
  | nil => rfl
  | cons x r ih => simp only [List.map_cons, rnP, ih, if_true]
theorem dlXs_kPm (xs : List X) (b : Id) (n : Nat) (l : List (Pl × Nat)) : dlXs xs l (kPm b n) = l := by
  unfold kPm
  induction List.range n generalizing l with
  | nil => rfl
  | cons x r ih => simp only [List.map_cons, dlXs, ih]
theorem retP_kPm (d : Nat) (b : Id) (n : Nat) : retP d (kPm b n) = kPm b n := by
  unfold kPm
  induction List.range n with
  | nil => rfl
  | cons x r ih => simp only [List.map_cons, retP, ih]
theorem pmOne_kPm (xs : List X) (b : Id) (n : Nat) : pmOne xs (kPm b n) := by
  unfold kPm
  induction List.range n with
  | nil => trivial
  | cons x r ih => exact ih
theorem dlr_kPm (b c : Id) (n o m : Nat) (h : b ≠ c) : dlr (kPm b n) c o m = kPm b n := by
  unfold kPm
  induction List.range n with
  | nil => rfl
  | cons x r ih =>
    simp only [List.map_cons, dlr, ih]
    rw [if_neg (fun e => h e.1)]
theorem dl_kPm (b : Id) (n t : Nat) : dl (kPm b n) (.s t) = kPm b n := by
  unfold kPm
  induction List.range n with
  | nil => rfl
  | cons x r ih => simp only [List.map_cons, dl, ih]; rfl
theorem lkP_kPm (b : Id) (n t : Nat) : lkP (kPm b n) (.s t) = none := by
  unfold kPm
  induction List.range n with
  | nil => rfl
  | cons x r ih => simp only [List.map_cons, lkP, ih]; rfl
theorem dlS_app (a b : List (Pl × Nat)) (d : Nat) : dlS (a ++ b) d = dlS a d ++ dlS b d := by
  induction a with
  | nil => rfl
  | cons x r ih =>
    obtain ⟨p, k⟩ := x
    cases p with
    | s t => simp only [List.cons_append, dlS, ih]; split <;> rfl
    | t t i => simp only [List.cons_append, dlS, ih]; split <;> rfl
    | b e o => simp only [List.cons_append, dlS, ih]
attribute [simp] dlS_kPm dlB_kPm dlB_kPm_self rnP_kPm dlXs_kPm retP_kPm mpP_kPm dlr_kPm dl_kPm lkP_kPm pmOne_kPm
theorem lkP_app' (A B : List (Pl × Nat)) (p : Pl) (k : Nat) (h : lkP A p = some k) : lkP (A ++ B) p = some k := by
  rw [lkP_app, h]
end Go.Ai
set_option linter.unusedSimpArgs false
set_option linter.unusedVariables false
namespace Go.Ai
open Go.Proofs
/-! ### Runes of bytes, no program in sight -/
theorem nget_at (s : List UInt8) (i : Nat) (h : i < s.length) : (ByteArray.mk s.toArray).get! i = s[i] := by
  simp [ByteArray.get!, getElem!_pos, h]
/-- A byte as a number; 0 behind the end. -/
def byt (s : List UInt8) (j : Nat) : Nat := match s[j]? with | some b => b.toNat | none => 0
/-- A byte that goes on. -/
def cont (s : List UInt8) (j : Nat) : Bool := decide (128 ≤ byt s j ∧ byt s j ≤ 191)
def rv (s : List UInt8) (i r0 : Nat) : Nat → Nat
  | 0 => r0
  | k + 1 => 64 * rv s i r0 k + (byt s (i + (k + 1)) - 128)
def conts (s : List UInt8) (i : Nat) : Nat → Bool
  | 0 => true
  | k + 1 => conts s i k && cont s (i + (k + 1))
def isRune (least r : Nat) : Bool := decide (least ≤ r ∧ r ≤ 1114111 ∧ ¬ (55296 ≤ r ∧ r < 57344))
def stepF (s : List UInt8) (i n r0 least : Nat) : Int × Nat := if conts s i n && isRune least (rv s i r0 n) then ((rv s i r0 n : Nat), n + 1) else (-1, 1)
/-- A rune and its bytes; -1: a bad byte. -/
def stepR (s : List UInt8) (i : Nat) : Int × Nat :=
  let b := byt s i
  if b < 128 then (b, 1) else if 192 ≤ b ∧ b < 224 then stepF s i 1 (b - 192) 128 else if 224 ≤ b ∧ b < 240 then stepF s i 2 (b - 224) 2048 else if 240 ≤ b ∧ b < 248 then stepF s i 3 (b - 240) 65536 else (-1, 1)
theorem byt_at {s : List UInt8} {i : Nat} (h : i < s.length) : byt s i = s[i].toNat := by unfold byt; rw [List.getElem?_eq_getElem h]
theorem byt_lt (s : List UInt8) (i : Nat) : byt s i < 256 := by
  unfold byt; split
  · rename_i b _; exact b.toNat_lt
  · omega
theorem byt_out {s : List UInt8} {i : Nat} (h : ¬ i < s.length) : byt s i = 0 := by unfold byt; rw [List.getElem?_eq_none (by omega)]
theorem stepF1 (s : List UInt8) (i r0 least : Nat) : stepF s i 1 r0 least = if cont s (i + 1) && isRune least (64 * r0 + (byt s (i + 1) - 128)) then (((64 * r0 + (byt s (i + 1) - 128) : Nat) : Int), 2) else (-1, 1) := rfl
theorem stepF2 (s : List UInt8) (i r0 least : Nat) : stepF s i 2 r0 least = if (cont s (i + 1) && cont s (i + 2)) && isRune least (64 * (64 * r0 + (byt s (i + 1) - 128)) + (byt s (i + 2) - 128)) then (((64 * (64 * r0 + (byt s (i + 1) - 128)) + (byt s (i + 2) - 128) : Nat) : Int), 3) else (-1, 1) := rfl
theorem stepF3 (s : List UInt8) (i r0 least : Nat) : stepF s i 3 r0 least = if ((cont s (i + 1) && cont s (i + 2)) && cont s (i + 3)) && isRune least (64 * (64 * (64 * r0 + (byt s (i + 1) - 128)) + (byt s (i + 2) - 128)) + (byt s (i + 3) - 128)) then (((64 * (64 * (64 * r0 + (byt s (i + 1) - 128)) + (byt s (i + 2) - 128)) + (byt s (i + 3) - 128) : Nat) : Int), 4) else (-1, 1) := rfl
theorem stepF_pos (s : List UInt8) (i n r0 least : Nat) : 1 ≤ (stepF s i n r0 least).2 := by unfold stepF; split <;> simp
theorem stepR_pos (s : List UInt8) (i : Nat) : 1 ≤ (stepR s i).2 := by
  unfold stepR
  simp only
  split
  · simp
  · split
    · exact stepF_pos ..
    · split
      · exact stepF_pos ..
      · split
        · exact stepF_pos ..
        · simp
def runesL (s : List UInt8) (i : Nat) : List Int := if h : i < s.length then (stepR s i).1 :: runesL s (i + (stepR s i).2) else []
termination_by s.length - i
decreasing_by have := stepR_pos s i; omega
theorem runesL_in {s : List UInt8} {i : Nat} (h : i < s.length) : runesL s i = (stepR s i).1 :: runesL s (i + (stepR s i).2) := by rw [runesL, dif_pos h]
theorem runesL_out {s : List UInt8} {i : Nat} (h : ¬ i < s.length) : runesL s i = [] := by rw [runesL, dif_neg h]
theorem get_byt {s : List UInt8} {j : Nat} (h : j < s.length) : ((ByteArray.mk s.toArray).get! j).toNat = byt s j := by rw [nget_at s j h, byt_at h]
theorem cont_iff {s : List UInt8} {j : Nat} : cont s j = true ↔ j < s.length ∧ byt s j / 64 = 2 := by
  unfold cont
  rw [decide_eq_true_eq]
  constructor
  · intro h
    rcases Nat.lt_or_ge j s.length with h1 | h1
    · exact ⟨h1, by omega⟩
    · rw [byt_out (by omega)] at h; omega
  · intro h; omega
/-- The model's reading of a rune is the same; a bad byte is 65533. -/
theorem step_rune (s : List UInt8) (i : Nat) (h : i < s.length) : runeAt s i = (if (stepR s i).1 = -1 then (65533, 1) else stepR s i) := by
  have hb : (ByteArray.mk s.toArray).size = s.length := by simp [ByteArray.size]
  have c : ∀ k, (decide (i + k < (ByteArray.mk s.toArray).size) && ((ByteArray.mk s.toArray).get! (i + k)).toNat / 64 == 2) = cont s (i + k) := by
    intro k
    rw [Bool.eq_iff_iff, cont_iff, hb]
    simp only [Bool.and_eq_true, decide_eq_true_eq, beq_iff_eq]
    constructor
    · rintro ⟨h1, h2⟩; rw [get_byt h1] at h2; exact ⟨h1, h2⟩
    · rintro ⟨h1, h2⟩; rw [get_byt h1]; exact ⟨h1, h2⟩
  have e0 : ((ByteArray.mk s.toArray).get! (i + 0)).toNat = byt s i := get_byt (by omega)
  have bl := byt_lt s i
  unfold runeAt Utf8.decode
  simp only [e0, c, Utf8.runeError]
  unfold stepR
  simp only
  by_cases h1 : byt s i < 128
  · have h2 : ¬ ((byt s i : Nat) : Int) = -1 := by omega
    simp only [h1, if_true, h2, if_false]
  · simp only [h1, if_false]
    have d1 : (byt s i / 32 == 6) = decide (192 ≤ byt s i ∧ byt s i < 224) := by rw [Bool.eq_iff_iff]; simp; omega
    have d2 : (byt s i / 16 == 14) = decide (224 ≤ byt s i ∧ byt s i < 240) := by rw [Bool.eq_iff_iff]; simp; omega
    have d3 : (byt s i / 8 == 30) = decide (240 ≤ byt s i ∧ byt s i < 248) := by rw [Bool.eq_iff_iff]; simp; omega
    rw [d1, d2, d3]
    by_cases r1 : 192 ≤ byt s i ∧ byt s i < 224
    · have r2 : ¬ (224 ≤ byt s i ∧ byt s i < 240) := by omega
      have r3 : ¬ (240 ≤ byt s i ∧ byt s i < 248) := by omega
      simp only [r1, r2, r3, and_self, decide_true, decide_false, Bool.true_and, Bool.false_and, if_true, if_false, Bool.false_eq_true]
      rw [stepF1]
      cases c1 : cont s (i + 1)
      · simp
      · obtain ⟨l1, q1⟩ := cont_iff.1 c1
        simp only [if_true, Bool.true_and, get_byt l1]
        have b1 := byt_lt s (i + 1)
        generalize byt s (i + 1) = y at *
        generalize byt s i = x at *
        by_cases z : isRune 128 (64 * (x - 192) + (y - 128)) = true
        · have zz := z
          unfold isRune at zz
          rw [decide_eq_true_eq] at zz
          have e : x % 32 * 64 + y % 64 = 64 * (x - 192) + (y - 128) := by omega
          simp only [z, e, if_true]
          rw [if_neg (show ¬ ((64 * (x - 192) + (y - 128) : Nat) : Int) = -1 by omega), if_pos (by omega)]
        · have zz := z
          unfold isRune at zz
          rw [decide_eq_true_eq] at zz
          have hz : ¬ (x % 32 * 64 + y % 64 ≥ 128) := by omega
          simp only [z, hz, Bool.false_eq_true, if_false]
          simp
    · by_cases r2 : 224 ≤ byt s i ∧ byt s i < 240
      · have r3 : ¬ (240 ≤ byt s i ∧ byt s i < 248) := by omega
        simp only [r1, r2, r3, and_self, decide_true, decide_false, Bool.true_and, Bool.false_and, if_true, if_false, Bool.false_eq_true]
        rw [stepF2]
        cases c1 : cont s (i + 1)
        · simp
        · cases c2 : cont s (i + 2)
          · simp
          · obtain ⟨l1, q1⟩ := cont_iff.1 c1
            obtain ⟨l2, q2⟩ := cont_iff.1 c2
            simp only [if_true, Bool.true_and, Bool.and_self, get_byt l1, get_byt l2]
            have b1 := byt_lt s (i + 1)
            have b2 := byt_lt s (i + 2)
            try rw [get_byt l2]
            generalize byt s (i + 2) = w at *
            generalize byt s (i + 1) = y at *
            generalize byt s i = x at *
            by_cases z : isRune 2048 (64 * (64 * (x - 224) + (y - 128)) + (w - 128)) = true
            · have zz := z
              unfold isRune at zz
              rw [decide_eq_true_eq] at zz
              have e : x % 16 * 4096 + y % 64 * 64 + w % 64 = 64 * (64 * (x - 224) + (y - 128)) + (w - 128) := by omega
              simp only [z, e, if_true]
              rw [if_neg (show ¬ ((64 * (64 * (x - 224) + (y - 128)) + (w - 128) : Nat) : Int) = -1 by omega), if_pos (by simp [Utf8.valid]; omega)]
            · have zz := z
              unfold isRune at zz
              rw [decide_eq_true_eq] at zz
              have hz : (decide (x % 16 * 4096 + y % 64 * 64 + w % 64 ≥ 2048) && Utf8.valid ((x % 16 * 4096 + y % 64 * 64 + w % 64 : Nat) : Int)) = false := by
                rw [Bool.eq_false_iff]; simp [Utf8.valid]; omega
              simp only [z, hz, Bool.false_eq_true, if_false]
              simp
      · by_cases r3 : 240 ≤ byt s i ∧ byt s i < 248
        · simp only [r1, r2, r3, and_self, decide_true, decide_false, Bool.true_and, Bool.false_and, if_true, if_false, Bool.false_eq_true]
          rw [stepF3]
          cases c1 : cont s (i + 1)
          · simp
          · cases c2 : cont s (i + 2)
            · simp
            · cases c3 : cont s (i + 3)
              · simp
              · obtain ⟨l1, q1⟩ := cont_iff.1 c1
                obtain ⟨l2, q2⟩ := cont_iff.1 c2
                obtain ⟨l3, q3⟩ := cont_iff.1 c3
                simp only [if_true, Bool.true_and, Bool.and_self, get_byt l1]
                have b1 := byt_lt s (i + 1)
                have b2 := byt_lt s (i + 2)
                have b3 := byt_lt s (i + 3)
                try simp only [get_byt l2, get_byt l3]
                generalize byt s (i + 3) = t at *
                generalize byt s (i + 2) = w at *
                generalize byt s (i + 1) = y at *
                generalize byt s i = x at *
                by_cases z : isRune 65536 (64 * (64 * (64 * (x - 240) + (y - 128)) + (w - 128)) + (t - 128)) = true
                · have zz := z
                  unfold isRune at zz
                  rw [decide_eq_true_eq] at zz
                  have e : x % 8 * 262144 + y % 64 * 4096 + w % 64 * 64 + t % 64 = 64 * (64 * (64 * (x - 240) + (y - 128)) + (w - 128)) + (t - 128) := by omega
                  simp only [z, e, if_true]
                  rw [if_neg (show ¬ ((64 * (64 * (64 * (x - 240) + (y - 128)) + (w - 128)) + (t - 128) : Nat) : Int) = -1 by omega), if_pos (by simp [Utf8.valid]; omega)]
                · have zz := z
                  unfold isRune at zz
                  rw [decide_eq_true_eq] at zz
                  have hz : (decide (x % 8 * 262144 + y % 64 * 4096 + w % 64 * 64 + t % 64 ≥ 65536) && Utf8.valid ((x % 8 * 262144 + y % 64 * 4096 + w % 64 * 64 + t % 64 : Nat) : Int)) = false := by
                    rw [Bool.eq_false_iff]; simp [Utf8.valid]; omega
                  simp only [z, hz, Bool.false_eq_true, if_false]
                  simp
        · simp [r1, r2, r3]
end Go.Ai
