/- YtbepaingfmlpeaaDoorKey3: part of the abstract interpreter library (values, rules, soundness against the model) or of what a function of the seat computes. Conditions: as each theorem says. -/
import Derived.Test.YtbepaingfmlpeaaDoorKey2
set_option linter.unusedSimpArgs false
set_option linter.unusedVariables false
namespace Go.Ai
open Go.Proofs Go.RowKit
theorem runesL_ascii (s : List UInt8) (h : ∀ b ∈ s, b.toNat < 128) : ∀ (n i : Nat), s.length - i ≤ n → runesL s i = (s.drop i).map fun b => (b.toNat : Int)
  | 0, i, hn => by rw [runesL_out (by omega), List.drop_eq_nil_of_le (by omega)]; rfl
  | n + 1, i, hn => by
    by_cases hi : i < s.length
    · rw [runesL_in hi, List.drop_eq_getElem_cons hi, List.map_cons]
      have hb := byt_at hi
      have h128 := h _ (List.getElem_mem hi)
      have e : stepR s i = ((byt s i : Int), 1) := by unfold stepR; simp only; rw [if_pos (by rw [hb]; exact h128)]
      rw [e]
      simp only
      rw [runesL_ascii s h n (i + 1) (by omega), hb]
    · rw [runesL_out hi, List.drop_eq_nil_of_le (by omega)]; rfl
theorem nameT_ascii (s : List UInt8) (h : ∀ b ∈ s, b.toNat < 128) : nameT s = nameGo 0 32 (s.map fun b => (b.toNat : Int)) := by
  unfold nameT
  rw [runesL_ascii s h s.length 0 (by omega)]; rfl
def awkK : Ky := ⟨[97, 112, 105], [102, 97, 115, 116], true, 3, false⟩
theorem awkK_right : rightK awkK = true := by
  unfold rightK
  rw [nameT_ascii _ (by decide), nameT_ascii _ (by decide)]
  decide
theorem small3_spec : Sp Tryd.prog gl 74 [i6 3] (.str [51]) := by
  refine s74 rfl rfl ?_
  have t1 : IntKind.i64.wrap 4 = 4 := by rw [wrap_i64] <;> omega
  simp -implicitDefEqProofs [c74, t1]
theorem fmt3i_spec : Sp Tryd.prog gl 55 [u 3, i6 10] (.str [51]) := by
  refine s55 rfl rfl ?_
  have t1 : IntKind.i64.wrap 3 = 3 := by rw [wrap_i64] <;> omega
  simp -implicitDefEqProofs [c55, t1]
  refine onC_mk _ small3_spec ?_
  simp -implicitDefEqProofs
theorem fmt3_spec : Sp Tryd.prog gl 29 [u 3, i6 10] (.str [51]) := by
  refine s29 rfl rfl ?_
  simp -implicitDefEqProofs [c29]
  refine onC_mk _ fmt3i_spec ?_
  simp -implicitDefEqProofs
theorem print3_spec : Sp Tryd.prog gl 10 [.agg awkK.row] (.str [97, 112, 105, 47, 102, 97, 115, 116, 47, 112, 97, 103, 101, 47, 51, 47, 102, 105, 114, 101]) := by
  refine s10 rfl rfl ?_
  have R := kright_spec awkK (by decide) (by decide)
  rw [awkK_right] at R
  have E1 := either_spec true [112, 97, 103, 101] [116, 105, 99, 107, 101, 116]
  have E2 := either_spec false [114, 101, 115, 111, 108, 118, 101] [102, 105, 114, 101]
  have J := join_spec [[97, 112, 105], [102, 97, 115, 116], [112, 97, 103, 101], [51], [102, 105, 114, 101]] [47] (by decide) (by decide)
  rw [show Lib.join [[97, 112, 105], [102, 97, 115, 116], [112, 97, 103, 101], [51], [102, 105, 114, 101]] [47] = [97, 112, 105, 47, 102, 97, 115, 116, 47, 112, 97, 103, 101, 47, 51, 47, 102, 105, 114, 101] from rfl] at J
  unfold strRows at J
  simp only [List.map_cons, List.map_nil] at J
  simp only [if_true, Bool.false_eq_true, if_false] at E1 E2
  rw [krow] at R ⊢
  simp only [awkK] at R ⊢
  simp -implicitDefEqProofs [c10]
  refine onC_mk _ R ?_
  simp -implicitDefEqProofs
  refine onC_mk _ E1 ?_
  simp -implicitDefEqProofs
  refine onC_mk _ fmt3_spec ?_
  simp -implicitDefEqProofs
  refine onC_mk _ E2 ?_
  simp -implicitDefEqProofs
  refine onC_mk _ J ?_
  simp -implicitDefEqProofs
theorem awake25_spec : Sp Tryd.prog gl 7 [] (.bool true) := by
  refine s7 rfl rfl ?_
  have P := print3_spec
  rw [krow] at P
  simp only [awkK] at P
  simp -implicitDefEqProofs [c7]
  refine onC_mk _ P ?_
  simp -implicitDefEqProofs
theorem heavy_agg (k : Ky) : Sp Tryd.prog gl 8 [.agg k.row] (.bool (heavyK k)) := xheavy_spec k
end Go.Ai
