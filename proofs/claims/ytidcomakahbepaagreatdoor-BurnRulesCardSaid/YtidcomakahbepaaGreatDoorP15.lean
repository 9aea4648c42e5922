/- P15: a part of the proof: the rules, or what functions compute. Conditions: as each theorem says. -/
import Derived.Test.YtidcomakahbepaaGreatDoorP14
import Derived.Test.YtidcomakahbepaaGreatDoorAiExt
import Derived.Laws.Externs
set_option linter.unusedSimpArgs false
set_option linter.unusedVariables false
set_option maxRecDepth 20000
set_option linter.unusedSectionVars false
namespace Go.Ai
open Go.Proofs
section
variable {Q : AE → St → Prop} {Y s y1 y0 un v v0 : Nat}
end

end Go.Ai
set_option linter.unusedSectionVars false
namespace Go.Ai
open Go.Proofs
section
variable {rq rr : Nat}
end
end Go.Ai
namespace Go.Ai
open Go.Proofs Go.RowKit
open Go.Proofs
abbrev u32 (n : Nat) : AV := .int .u32 n
abbrev cnt (g n : Nat) : AV := .agg [u g, u n]

theorem isNaN_spec (x : Nat) : Sp Tryz.prog gl 207 [u x] (.bool false) := by
 refine s207 rfl rfl ?_
 simp [c207]
theorem cmpU_spec (x y : Nat) : Sp Tryz.prog gl 180 [u x, u y] (i6 (cmpN x y)) := by
 refine s180 rfl rfl ?_
 simp [c180]
 refine onC_mk _ (isNaN_spec x) ?_
 simp
 refine onC_mk _ (isNaN_spec y) ?_
 simp
 refine onB_dec (fun h => ?_) (fun h => ?_)
 ·simp [cmpN, h]
 ·simp
  refine onB_dec (fun h2 => ?_) (fun h2 => ?_)
  ·simp [cmpN, h, show x ≠ y by omega]
  ·simp [cmpN, h, show x = y by omega]
theorem or2_spec (a b : Int) : Sp Tryz.prog gl 179 [.sl [[i6 a], [i6 b]]] (i6 (if a = 0 then b else a)) := by
 refine s179 rfl rfl ?_
 simp [c179]
 refine wp_lp (α := Nat) (fun k => ⟨[(3, i6 0), (6, .sl [[i6 a], [i6 b]]), (7, i6 2), (8, i6 k)], [], []⟩)
  (fun k => k ≤ 2 ∧ (1 ≤ k → a = 0) ∧ (2 ≤ k → b = 0)) (fun k => 2 - k) ?_ 0 ⟨by omega, by omega, by omega⟩ ?_
 ·rintro k ⟨h1, h2, h3⟩
  rcases (by omega : k = 0 ∨ k = 1 ∨ k = 2) with rfl | rfl | rfl
  ·simp
   by_cases ha : a = 0
   ·simp [ha]
    refine lpQ_mk 1 (by simp [ha]) (by omega) ?_
    apply weak_mk <;> simp
    exact wrap_i64 (by omega) (by omega)
   ·have : (a != 0) = true := by simp [ha]
    simp [this, ha]
  ·have ha := h2 (by omega)
   simp
   by_cases hb : b = 0
   ·simp [hb]
    refine lpQ_mk 2 (by simp [ha, hb]) (by omega) ?_
    apply weak_mk <;> simp
    exact wrap_i64 (by omega) (by omega)
   ·have : (b != 0) = true := by simp [hb]
    simp [this, ha]
  ·have ha := h2 (by omega)
   have hb := h3 (by omega)
   simp [ha, hb]
 ·apply weak_mk <;> simp
theorem cmp_split (a b : Nat) : (if cmpN (a / 18446744073709551616) (b / 18446744073709551616) = 0 then cmpN (a % 18446744073709551616) (b % 18446744073709551616) else cmpN (a / 18446744073709551616) (b / 18446744073709551616)) = cmpN a b := by
 unfold cmpN
 repeat' split
 all_goals omega
theorem xcompare_spec (a b : Nat) : Sp Tryz.prog gl 137 [wide a, wide b] (i6 (cmpN a b)) := by
 refine s137 rfl rfl ?_
 simp [c137, wide]
 refine onC_mk _ (cmpU_spec _ _) ?_
 simp
 refine onC_mk _ (cmpU_spec _ _) ?_
 simp
 refine onC_mk _ (or2_spec _ _) ?_
 simp [cmp_split]

theorem burnRight_spec (t : Nat) : Sp Tryz.prog gl 176 [u32 t] (.bool (decide (t ≤ 1000000))) := by
 refine s176 rfl rfl ?_
 simp [c176]
 omega
theorem rest_spec (t : Nat) (ht : t ≤ 1000000) : Sp Tryz.prog gl 133 [u32 t] (u32 (1000000 - t)) := by
 refine s133 rfl rfl ?_
 simp [c133]
 refine onC_mk _ (burnRight_spec t) ?_
 simp [ht]
 rw [wrap_u32] <;> omega
def mayN (t g n : Nat) : Nat := if 1000000 < t then 8 else if n < g then 16 else 0
theorem may_spec (t g n : Nat) : Sp Tryz.prog gl 132 [u32 t, cnt g n] (i6 (mayN t g n)) := by
 refine s132 rfl rfl ?_
 simp [c132]
 refine onC_mk _ (burnRight_spec t) ?_
 by_cases h : t ≤ 1000000
 ·simp [h]
  refine onB_dec (fun h2 => ?_) (fun h2 => ?_)
  ·simp [mayN, show ¬ 1000000 < t by omega, show n < g by omega]
  ·simp [mayN, show ¬ 1000000 < t by omega, show ¬ n < g by omega]
 ·simp [h, mayN, show 1000000 < t by omega]
theorem bad_spec (g n : Nat) (h : g ≤ n) (hn : n < 18446744073709551616) : Sp Tryz.prog gl 135 [cnt g n] (wide ((n - g) * 1000000000)) := by
 refine s135 rfl rfl ?_
 simp [c135]
 have e : IntKind.u64.wrap ((n : Int) - g) = (n - g : Nat) := by rw [wrap_u64] <;> omega
 rw [e]
 refine onC_mk _ (times_spec (n - g) 1000000000 (by omega) (by omega)) ?_
 simp [wide]
def holdsN (t f g n : Nat) : Bool × Nat := if 1000000 < f ∨ 1000000 < t then (false, 8) else if n < g then (false, 16) else (decide (f * (1000000 - t) * n < (n - g) * 1000000000), 0)
theorem cmp_pos (a b : Nat) : decide (0 < cmpN a b) = decide (b < a) := by
 unfold cmpN
 repeat' split
 all_goals (simp; try omega)
theorem holds_spec (t f g n : Nat) (ht : t < 4294967296) (hf : f < 18446744073709551616) (hg : g < 18446744073709551616) (hn : n < 18446744073709551616) : Sp Tryz.prog gl 86 [u32 t, u f, cnt g n] (.tup [.bool (holdsN t f g n).1, i6 (holdsN t f g n).2]) := by
 refine s86 rfl rfl ?_
 simp [c86]
 refine onB_dec (fun h => ?_) (fun h => ?_)
 ·simp [holdsN, show 1000000 < f by omega]
 ·simp
  refine onC_mk _ (may_spec t g n) ?_
  by_cases h1 : 1000000 < t
  ·simp [mayN, holdsN, h1]
  ·by_cases h2 : n < g
   ·simp [mayN, holdsN, h1, h2, show ¬ 1000000 < f by omega]
   ·simp [mayN, holdsN, h1, h2, show ¬ 1000000 < f by omega]
    refine onC_mk _ (rest_spec t (by omega)) ?_
    simp
    have b1 : f * (1000000 - t) ≤ 1000000 * 1000000 := Nat.mul_le_mul (by omega) (by omega)
    have e1 : IntKind.u64.wrap ((1000000 - t : Nat) : Int) = (1000000 - t : Nat) := by rw [wrap_u64] <;> omega
    have e2 : IntKind.u64.wrap ((f : Int) * (1000000 - t : Nat)) = (f * (1000000 - t) : Nat) := by rw [← Int.natCast_mul, wrap_u64] <;> omega
    rw [e1, e2]
    refine onC_mk _ (times_spec (f * (1000000 - t)) n (by omega) hn) ?_
    simp [wide]
    refine onC_mk _ (bad_spec g n (by omega) hn) ?_
    simp [wide]
    refine onC_mk _ (xcompare_spec ((n - g) * 1000000000) (f * (1000000 - t) * n)) ?_
    simp [cmp_pos]
theorem rbits_spec (x : Nat) (hx : x < 18446744073709551616) : Sp Tryz.prog gl 183 [u x] (bl (bitsOf x 128)) := by
 refine s183 rfl rfl ?_
 simp [c183]
 refine onC_mk _ ((by
  have := bits_spec x (by omega)
  rwa [wide, show x / 18446744073709551616 = 0 by omega, show x % 18446744073709551616 = x by omega] at this) : Sp Tryz.prog gl 191 [.agg [u 0, u x]] (bl (bitsOf x 128))) ?_
 simp [bl]
def badL (g n : Nat) : List Bool := timesL [] (bitsOf (n - g) 128) (bitsOf 1000000000 128)
theorem badL_len (g n : Nat) : (badL g n).length ≤ 256 := by
 have := timesL_len [] (bitsOf (n - g) 128) (bitsOf 1000000000 128) (by simp)
 simp only [bitsOf_len] at this; exact this
theorem badL_val (g n : Nat) (hn : n < 18446744073709551616) : val (badL g n) = (n - g) * 1000000000 := by
 simp only [badL, timesL_val, val, Nat.zero_add]
 rw [bitsOf_val128 _ (by omega), bitsOf_val128 _ (by omega)]
theorem rbad_spec (g n : Nat) (h : g ≤ n) (hn : n < 18446744073709551616) : Sp Tryz.prog gl 142 [cnt g n] (bl (badL g n)) := by
 refine s142 rfl rfl ?_
 simp [c142]
 have e : IntKind.u64.wrap ((n : Int) - g) = (n - g : Nat) := by rw [wrap_u64] <;> omega
 rw [e]
 refine onC_mk _ (rbits_spec (n - g) (by omega)) ?_
 simp [bl]
 refine onC_mk _ (rbits_spec 1000000000 (by omega)) ?_
 simp [bl]
 refine onC_mk _ (times_spec_l (bitsOf (n - g) 128) (bitsOf 1000000000 128) (by rw [bitsOf_len]; omega) (by rw [bitsOf_len]; omega)) ?_
 simp [bl, badL]
def allowL (t k n : Nat) : List Bool := timesL [] (timesL [] (bitsOf k 128) (bitsOf (1000000 - t) 128)) (bitsOf n 128)
theorem allowL_len0 (t k : Nat) : (timesL [] (bitsOf k 128) (bitsOf (1000000 - t) 128)).length ≤ 256 := by
 have := timesL_len [] (bitsOf k 128) (bitsOf (1000000 - t) 128) (by simp)
 simp only [bitsOf_len] at this; exact this
theorem allowL_len (t k n : Nat) : (allowL t k n).length ≤ 384 := by
 have := timesL_len [] (timesL [] (bitsOf k 128) (bitsOf (1000000 - t) 128)) (bitsOf n 128) (by simp)
 have := allowL_len0 t k
 simp only [bitsOf_len] at *; unfold allowL; omega
theorem allowL_val (t k n : Nat) (hk : k < 18446744073709551616) (hn : n < 18446744073709551616) : val (allowL t k n) = k * (1000000 - t) * n := by
 simp only [allowL, timesL_val, val, Nat.zero_add]
 rw [bitsOf_val128 _ (by omega), bitsOf_val128 _ (by omega), bitsOf_val128 _ (by omega)]
theorem allow_spec (t k g n : Nat) (ht : t ≤ 1000000) (hk : k < 18446744073709551616) (hn : n < 18446744073709551616) : Sp Tryz.prog gl 143 [u32 t, u k, cnt g n] (bl (allowL t k n)) := by
 refine s143 rfl rfl ?_
 simp [c143]
 refine onC_mk _ (rbits_spec k hk) ?_
 simp [bl]
 have e : IntKind.u32.wrap ((1000000 : Int) - t) = (1000000 - t : Nat) := by rw [wrap_u32] <;> omega
 have e1 : IntKind.u64.wrap ((1000000 - t : Nat) : Int) = (1000000 - t : Nat) := by rw [wrap_u64] <;> omega
 rw [e, e1]
 refine onC_mk _ (rbits_spec (1000000 - t) (by omega)) ?_
 simp [bl]
 refine onC_mk _ (times_spec_l (bitsOf k 128) (bitsOf (1000000 - t) 128) (by rw [bitsOf_len]; omega) (by rw [bitsOf_len]; omega)) ?_
 simp [bl]
 refine onC_mk _ (rbits_spec n hn) ?_
 simp [bl]
 refine onC_mk _ (times_spec_l (timesL [] (bitsOf k 128) (bitsOf (1000000 - t) 128)) (bitsOf n 128) (by have := allowL_len0 t k; omega) (by rw [bitsOf_len]; omega)) ?_
 simp [bl, allowL]
theorem rholds_spec (t f g n : Nat) (ht : t < 4294967296) (hf : f < 18446744073709551616) (hg : g < 18446744073709551616) (hn : n < 18446744073709551616) : Sp Tryz.prog gl 89 [u32 t, u f, cnt g n] (.tup [.bool (holdsN t f g n).1, i6 (holdsN t f g n).2]) := by
 refine s89 rfl rfl ?_
 by_cases h1 : (1000000 : Int) < t
 ·simp [c89, holdsN, h1, show 1000000 < t by omega]
 ·by_cases h2 : (1000000 : Int) < f
  ·simp [c89, holdsN, h1, h2, show 1000000 < f by omega]
  ·by_cases h3 : n < g
   ·simp [c89, holdsN, h1, h2, h3, show ¬ 1000000 < f by omega, show ¬ 1000000 < t by omega]
   ·simp [c89, holdsN, h1, h2, h3, show ¬ 1000000 < f by omega, show ¬ 1000000 < t by omega]
    refine onC_mk _ (rbad_spec g n (by omega) hn) ?_
    simp [bl]
    refine onC_mk _ (allow_spec t f g n (by omega) (by omega) hn) ?_
    simp [bl]
    refine onC_mk _ (compare_spec (badL g n) (allowL t f n) (by have := badL_len g n; omega) (by have := allowL_len t f n; omega)) ?_
    simp [cmp_pos, badL_val g n hn, allowL_val t f n hf hn]

theorem div0_spec (y n : Nat) (hn : 0 < n) (hy : y < 18446744073709551616) : Sp Tryz.prog gl 177 [u 0, u y, u n] (.tup [u (y / n), u (y % n)]) := by
 refine s177 rfl rfl ?_
 have h1 : ((n : Int) == 0) = false := by simp; omega
 have h2 : ¬ (n : Int) ≤ 0 := by omega
 have h3 : ¬ (n : Int) = 0 := by omega
 have h4 : ¬ n = 0 := by omega
 simp [c177, h1]
 simp [h2, h3, h4]
 refine ⟨?_, Int.tmod_eq_emod_of_nonneg (Int.natCast_nonneg _)⟩
 have := Nat.div_le_self y n
 rw [← Int.natCast_ediv]
 generalize y / n = q at *
 exact wrap_u64 (by omega) (by omega)
theorem floor0_spec (y n : Nat) (hn : 0 < n) (hy : y < 18446744073709551616) : Sp Tryz.prog gl 134 [wide y, u n] (.tup [wide (y / n), u (y % n), i6 0]) := by
 refine s134 rfl rfl ?_
 have h1 : ((n : Int) == 0) = false := by simp; omega
 have h2 : y / 18446744073709551616 = 0 := by omega
 have h3 : y % 18446744073709551616 = y := by omega
 have h4 : y / n < 18446744073709551616 := by have := Nat.div_le_self y n; omega
 have h5 : y / n / 18446744073709551616 = 0 := Nat.div_eq_of_lt h4
 have h6 : y / n % 18446744073709551616 = y / n := Nat.mod_eq_of_lt h4
 simp only [wide, h2, h3, h5, h6]
 simp [c134, h1]
 refine onC_mk _ (div0_spec 0 n hn (by omega)) ?_
 simp
 refine onC_mk _ (div0_spec y n hn hy) ?_
 simp
theorem rate0_spec (t g n : Nat) (ht : t < 1000000) (hg : g ≤ n) (hn : n < 18446744073709551616) (h0 : 0 < n) (hb : (n - g) * 1000000000 < 18446744073709551616) :
  Sp Tryz.prog gl 85 [u32 t, cnt g n] (.tup [u ((n - g) * 1000000000 / n / (1000000 - t)), i6 0]) := by
 refine s85 rfl rfl ?_
 simp [c85]
 refine onC_mk _ (may_spec t g n) ?_
 simp [mayN, show ¬ 1000000 < t by omega, show ¬ n < g by omega]
 refine onC_mk _ (rest_spec t (by omega)) ?_
 have e1 : (((1000000 - t : Nat) : Int) == 0) = false := by simp; omega
 have e2 : ((n : Int) == 0) = false := by simp; omega
 simp [e1, e2]
 refine onC_mk _ (bad_spec g n hg hn) ?_
 simp [wide]
 refine onC_mk _ (floor0_spec ((n - g) * 1000000000) n h0 hb) ?_
 simp [wide]
 refine onC_mk _ (rest_spec t (by omega)) ?_
 have e3 : IntKind.u64.wrap ((1000000 - t : Nat) : Int) = (1000000 - t : Nat) := by rw [wrap_u64] <;> omega
 have e4 : (n - g) * 1000000000 / n < 18446744073709551616 := by have := Nat.div_le_self ((n - g) * 1000000000) n; omega
 have e5 : (n - g) * 1000000000 / n / (1000000 - t) < 18446744073709551616 := by have := Nat.div_le_self ((n - g) * 1000000000 / n) (1000000 - t); omega
 simp
 rw [e3]
 refine onC_mk _ (floor0_spec ((n - g) * 1000000000 / n) (1000000 - t) (by omega) e4) ?_
 simp [wide]
 have := congrArg (fun x : Nat => (x : Int)) (Nat.mod_eq_of_lt e5)
 simp only [Int.natCast_ediv, Int.natCast_emod, Int.natCast_mul] at this
 exact this
theorem h986 : holdsN 999000 14400 986 1000 = (false, 0) := by kernel_rfl
theorem h985 : holdsN 999000 14400 985 1000 = (true, 0) := by kernel_rfl
theorem r986 : (1000 - 986) * 1000000000 / 1000 / (1000000 - 999000) = 14000 := by kernel_rfl
theorem awake21_spec : Sp Tryz.prog gl 34 [] (.bool true) := by
 refine s34 rfl rfl ?_
 simp [c34]
 refine onC_mk _ (rate0_spec 999000 986 1000 (by omega) (by omega) (by omega) (by omega) (by omega)) ?_
 rw [r986]
 simp
 refine onC_mk _ (holds_spec 999000 14400 986 1000 (by omega) (by omega) (by omega) (by omega)) ?_
 rw [h986]
 simp
 refine onC_mk _ (holds_spec 999000 14400 985 1000 (by omega) (by omega) (by omega) (by omega)) ?_
 rw [h985]
 simp
open Go.Proofs
end Go.Ai
namespace Go.Ai
open Go.Proofs
end Go.Ai
