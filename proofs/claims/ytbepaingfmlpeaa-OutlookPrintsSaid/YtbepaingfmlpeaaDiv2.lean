/- YtbepaingfmlpeaaDiv2: part of the abstract interpreter library (values, rules, soundness against the model) or of what a function of the seat computes. Conditions: as each theorem says. -/
import Derived.Test.YtbepaingfmlpeaaDiv
set_option linter.unusedSimpArgs false
set_option linter.unusedVariables false
namespace Go.Ai
open Go.Proofs

/-! ### Len64, LeadingZeros64 -/
def lenN (x : Nat) : Nat := if x = 0 then 0 else Nat.log2 x + 1
def lenT : List UInt8 := (List.range 256).map fun x => UInt8.ofNat (lenN x)
theorem lenT_eq : ([0, 1, 2, 2, 3, 3, 3, 3, 4, 4, 4, 4, 4, 4, 4, 4, 5, 5, 5, 5, 5, 5, 5, 5, 5, 5, 5, 5, 5, 5, 5, 5, 6, 6, 6, 6, 6, 6, 6, 6, 6, 6, 6, 6, 6, 6, 6, 6, 6, 6, 6, 6, 6, 6, 6, 6, 6, 6, 6, 6, 6, 6, 6, 6, 7, 7, 7, 7, 7, 7, 7, 7, 7, 7, 7, 7, 7, 7, 7, 7, 7, 7, 7, 7, 7, 7, 7, 7, 7, 7, 7, 7, 7, 7, 7, 7, 7, 7, 7, 7, 7, 7, 7, 7, 7, 7, 7, 7, 7, 7, 7, 7, 7, 7, 7, 7, 7, 7, 7, 7, 7, 7, 7, 7, 7, 7, 7, 7, 8, 8, 8, 8, 8, 8, 8, 8, 8, 8, 8, 8, 8, 8, 8, 8, 8, 8, 8, 8, 8, 8, 8, 8, 8, 8, 8, 8, 8, 8, 8, 8, 8, 8, 8, 8, 8, 8, 8, 8, 8, 8, 8, 8, 8, 8, 8, 8, 8, 8, 8, 8, 8, 8, 8, 8, 8, 8, 8, 8, 8, 8, 8, 8, 8, 8, 8, 8, 8, 8, 8, 8, 8, 8, 8, 8, 8, 8, 8, 8, 8, 8, 8, 8, 8, 8, 8, 8, 8, 8, 8, 8, 8, 8, 8, 8, 8, 8, 8, 8, 8, 8, 8, 8, 8, 8, 8, 8, 8, 8, 8, 8, 8, 8, 8, 8, 8, 8, 8, 8, 8, 8, 8, 8, 8, 8, 8, 8] : List UInt8) = lenT := by kernel_rfl
theorem lenN_shr {x k : Nat} (h : 2 ^ k ≤ x) : lenN x = lenN (x / 2 ^ k) + k := by
  have hx : x ≠ 0 := by have := Nat.two_pow_pos k; omega
  have hy : 1 ≤ x / 2 ^ k := (Nat.le_div_iff_mul_le (Nat.two_pow_pos k)).2 (by omega)
  have hy0 : x / 2 ^ k ≠ 0 := by omega
  unfold lenN
  rw [if_neg hx, if_neg hy0]
  have h1 := Nat.log2_self_le hy0
  have h2 := Nat.lt_log2_self (n := x / 2 ^ k)
  have e : Nat.log2 x = Nat.log2 (x / 2 ^ k) + k := by
    apply (Nat.log2_eq_iff hx).2
    rw [Nat.pow_add, show Nat.log2 (x / 2 ^ k) + k + 1 = (Nat.log2 (x / 2 ^ k) + 1) + k by omega, Nat.pow_add]
    exact ⟨(Nat.le_div_iff_mul_le (Nat.two_pow_pos k)).1 h1, (Nat.div_lt_iff_lt_mul (Nat.two_pow_pos k)).1 h2⟩
  omega
theorem lenN_le {x k : Nat} (h : x < 2 ^ k) : lenN x ≤ k := by
  unfold lenN
  split
  · omega
  · rename_i h0
    have := (Nat.log2_lt h0).2 h
    omega
theorem lenT_get (m : Nat) (hm : m < 256) : lenT[m]? = some (UInt8.ofNat (lenN m)) := by simp [lenT, hm]
theorem len64_end (a : Int) (b m : Nat) (h1 : a = b) (hb : b ≤ 56) (hm : m < 256) : IntKind.i64.wrap (a + ((UInt8.ofNat (lenN m)).toNat : Int)) = (b + lenN m : Nat) := by
  have := lenN_le (x := m) (k := 8) (by omega)
  have e : (UInt8.ofNat (lenN m)).toNat = lenN m := by simp; omega
  rw [e, h1, wrap_i64] <;> omega
theorem shr_lit (x : Nat) (k n : Nat) (h : (2 : Int) ^ min k IntKind.u64.bits = (n : Int)) : (x : Int).fdiv (2 ^ min k IntKind.u64.bits) = ((x / n : Nat) : Int) := by
  rw [h, Int.fdiv_eq_ediv_of_nonneg _ (by omega)]; simp
theorem shr32 (x : Nat) : (x : Int).fdiv (2 ^ min 32 IntKind.u64.bits) = ((x / 4294967296 : Nat) : Int) := shr_lit x 32 _ (by decide)
theorem shr16 (x : Nat) : (x : Int).fdiv (2 ^ min 16 IntKind.u64.bits) = ((x / 65536 : Nat) : Int) := shr_lit x 16 _ (by decide)
theorem shr8 (x : Nat) : (x : Int).fdiv (2 ^ min 8 IntKind.u64.bits) = ((x / 256 : Nat) : Int) := shr_lit x 8 _ (by decide)
section
variable {x : Nat} (hx : x < 18446744073709551616)
include hx
set_option linter.unusedSectionVars false
set_option maxRecDepth 20000 in
theorem len64_3 (e : List (Nat × AV)) (pm : List (Pl × Nat)) (m b : Nat) (h0 : lk e 0 = u m) (h2 : lk e 2 = i6 b) (hm : m < 256) (hb : b ≤ 56) (hl : lenN x = b + lenN m) :
    wpA (SpH Try.prog gl) (AC.tl 4 c105) (postA [.t 2] (i6 (lenN x))) ⟨e, [], pm⟩ := by
  unfold c105
  rw [lenT_eq]
  have e1 : IntKind.u8.wrap (m : Int) = m := wrap_u8 (by omega) (by omega)
  have e2 := len64_end b b m rfl hb hm
  have e3 : IntKind.i64.wrap ((lenN m : Int) % 256) = (lenN m : Int) % 256 := wrap_i64 (by omega) (by omega)
  simp at e2
  simp [AC.tl, h0, h2, e1, lenT_get m hm, hl, e3]
  exact e2
set_option maxRecDepth 20000 in
theorem len64_2 (e : List (Nat × AV)) (pm : List (Pl × Nat)) (m b : Nat) (h0 : lk e 0 = u m) (h2 : lk e 2 = i6 b) (hm : m < 65536) (hb : b ≤ 48) (hl : lenN x = b + lenN m) :
    wpA (SpH Try.prog gl) (AC.tl 3 c105) (postA [.t 2] (i6 (lenN x))) ⟨e, [], pm⟩ := by
  have ec : AC.tl 3 c105 = AC.cutAt 1 (AC.tl 4 c105) (AC.tl 3 c105) := rfl
  rw [ec]
  have T := @len64_3 x hx
  generalize AC.tl 4 c105 = t at T ⊢
  simp [c105, AC.tl, AC.cutAt, h0, h2]
  refine onB_dec (fun h => ?_) (fun h => ?_)
  · simp [h0, h2]
    refine T _ _ (m / 256) (b + 8) ?_ ?_ (by omega) (by omega) ?_
    · simp; exact shr8 m
    · simp; exact wrap_i64 (by omega) (by omega)
    · rw [hl, lenN_shr (x := m) (k := 8) (by omega), show m / 2 ^ 8 = m / 256 from rfl]; omega
  · simp
    exact T _ _ m b (by simp [h0]) (by simp [h2]) (by omega) (by omega) hl
set_option maxRecDepth 20000 in
theorem len64_1 (e : List (Nat × AV)) (pm : List (Pl × Nat)) (m b : Nat) (h0 : lk e 0 = u m) (h2 : lk e 2 = i6 b) (hm : m < 4294967296) (hb : b ≤ 32) (hl : lenN x = b + lenN m) :
    wpA (SpH Try.prog gl) (AC.tl 2 c105) (postA [.t 2] (i6 (lenN x))) ⟨e, [], pm⟩ := by
  have ec : AC.tl 2 c105 = AC.cutAt 1 (AC.tl 3 c105) (AC.tl 2 c105) := rfl
  rw [ec]
  have T := @len64_2 x hx
  generalize AC.tl 3 c105 = t at T ⊢
  simp [c105, AC.tl, AC.cutAt, h0, h2]
  refine onB_dec (fun h => ?_) (fun h => ?_)
  · simp [h0, h2]
    refine T _ _ (m / 65536) (b + 16) ?_ ?_ (by omega) (by omega) ?_
    · simp; exact shr16 m
    · simp; exact wrap_i64 (by omega) (by omega)
    · rw [hl, lenN_shr (x := m) (k := 16) (by omega), show m / 2 ^ 16 = m / 65536 from rfl]; omega
  · simp
    exact T _ _ m b (by simp [h0]) (by simp [h2]) (by omega) (by omega) hl
set_option maxRecDepth 20000 in
theorem len64_spec : Sp Try.prog gl 105 [u x] (i6 (lenN x)) := by
  refine s105 rfl rfl ?_
  have ec : c105 = AC.cutAt 2 (AC.tl 2 c105) c105 := rfl
  rw [ec]
  have T := @len64_1 x hx
  generalize AC.tl 2 c105 = t at T ⊢
  simp [c105, AC.tl, AC.cutAt]
  refine onB_dec (fun h => ?_) (fun h => ?_)
  · simp
    refine T _ _ (x / 4294967296) 32 ?_ ?_ (by omega) (by omega) ?_
    · simp; exact shr32 x
    · simp
    · rw [lenN_shr (x := x) (k := 32) (by omega), show x / 2 ^ 32 = x / 4294967296 from rfl]; omega
  · simp
    exact T _ _ x 0 (by simp) (by simp) (by omega) (by omega) (by omega)
end
theorem lz64_spec {x : Nat} (hx : x < 18446744073709551616) : Sp Try.prog gl 103 [u x] (i6 (64 - lenN x : Nat)) := by
  refine s103 rfl rfl ?_
  simp [c103]
  refine onC_mk _ (len64_spec hx) ?_
  have := lenN_le (x := x) (k := 64) (by omega)
  have e : IntKind.i64.wrap (64 - (lenN x : Int)) = (64 - lenN x : Nat) := by rw [wrap_i64] <;> omega
  simp [e]
end Go.Ai
