/- YtbepaingfmlpeaaDoorKey4: part of the abstract interpreter library (values, rules, soundness against the model) or of what a function of the seat computes. Conditions: as each theorem says. -/
import Derived.Test.YtbepaingfmlpeaaDoorKey3
set_option linter.unusedSimpArgs false
set_option linter.unusedVariables false
namespace Go.Ai
open Go.Proofs Go.RowKit
theorem other_other (k : Ky) : otherK (otherK k) = k := by
  obtain ⟨g, r, p, e, f⟩ := k
  simp [otherK]
set_option maxRecDepth 20000 in
theorem keyOrders_tail (g1 r1 : List UInt8) (p1 : Bool) (e1 : Nat) (f1 : Bool) (x4 x5 : List AV) (O1 : Sp Tryd.prog gl 14 [.agg [.str g1, .str r1, .bool p1, u e1, .bool f1]] (.agg [.str g1, .str r1, .bool p1, u e1, .bool (!f1)]))
    (O2 : Sp Tryd.prog gl 14 [.agg [.str g1, .str r1, .bool p1, u e1, .bool (!f1)]] (.agg [.str g1, .str r1, .bool p1, u e1, .bool f1]))
    (e : List (Nat × AV)) (h3 : lk e 3 = .ptr (.n 3) 0) : wpA (SpH Tryd.prog gl) (AC.tl 5 c4) (postA [.t 6] (.bool true)) ⟨e, [(.n 5, x5), (.n 4, x4), (.n 3, [.str g1, .str r1, .bool p1, u e1, .bool f1])], []⟩ := by
  simp only [c4, AC.tl]
  obtain ⟨G, hG⟩ : ∃ G, G = g1 := ⟨_, rfl⟩
  obtain ⟨R, hR⟩ : ∃ R, R = r1 := ⟨_, rfl⟩
  obtain ⟨P, hP⟩ : ∃ P, P = p1 := ⟨_, rfl⟩
  obtain ⟨E, hE⟩ : ∃ E, E = e1 := ⟨_, rfl⟩
  have bG : (G == g1) = true := by simp [hG]
  have bR : (R == r1) = true := by simp [hR]
  have bP : (P == p1) = true := by simp [hP]
  have bE : ((E : Int) == e1) = true := by simp [hE]
  have bf : ((!f1) == f1) = false := by cases f1 <;> rfl
  rw [show AV.agg [AV.str g1, AV.str r1, AV.bool p1, u e1, AV.bool !f1] = AV.agg [AV.str G, AV.str R, AV.bool P, u E, AV.bool !f1] by rw [hG, hR, hP, hE]] at O1 O2
  clear hG hR hP hE
  simp -implicitDefEqProofs [h3]
  refine onC_mk _ O1 ?_
  simp -implicitDefEqProofs [h3, bG, bR, bP, bE, bf]
  refine onC_mk _ O2 ?_
  simp -implicitDefEqProofs [h3]
  rw [bG]
  simp -implicitDefEqProofs [h3]
  rw [bR]
  simp -implicitDefEqProofs [h3]
  rw [bP]
  simp -implicitDefEqProofs [h3, bE]
set_option maxRecDepth 20000 in
theorem keyOrders_spec (a b c : Ky) : Sp Tryd.prog gl 4 [.agg a.row, .agg b.row, .agg c.row] (.bool true) := by
  refine s4 rfl rfl ?_
  have H1 := heavy_agg a
  have H2 := heavy_agg b
  have H3 := heavy_agg c
  have L1 := less_spec a b
  have L1' := rless_spec a b
  have L2 := less_spec b a
  have L3 := less_spec b c
  have L4 := less_spec a c
  have O1 := other_spec a
  have O2 := other_spec (otherK a)
  rw [other_other] at O2
  have hasym := lessK_asym a b
  have eq := lessK_eq a b
  have tr := lessK_trans a b c
  have kb := ky_beq a b
  rw [eq] at kb
  clear eq
  generalize lessK a b = x at *
  generalize lessK b a = z at *
  generalize lessK b c = y at *
  generalize lessK a c = w at *
  generalize heavyK a = q1 at *
  generalize heavyK b = q2 at *
  generalize heavyK c = q3 at *
  obtain ⟨g1, r1, p1, e1, f1⟩ := a
  obtain ⟨g2, r2, p2, e2, f2⟩ := b
  obtain ⟨g3, r3, p3, e3, f3⟩ := c
  simp only [otherK, krow] at O1 O2 H1 H2 H3 L1 L1' L2 L3 L4 kb ⊢
  have T := fun e => keyOrders_tail g1 r1 p1 e1 f1 [.str g2, .str r2, .bool p2, u e2, .bool f2] [.str g3, .str r3, .bool p3, u e3, .bool f3] O1 O2 e
  have ec : c4 = AC.cutAt 5 (AC.tl 5 c4) c4 := rfl
  rw [ec]
  generalize AC.tl 5 c4 = t at T ⊢
  simp only [c4, AC.cutAt]
  clear O1 O2 ec
  simp -implicitDefEqProofs
  refine onC_mk _ awake25_spec ?_
  simp -implicitDefEqProofs
  refine onC_mk _ H1 ?_
  cases q1
  · simp -implicitDefEqProofs
    refine onC_mk _ H2 ?_
    cases q2
    · simp -implicitDefEqProofs
      refine onC_mk _ H3 ?_
      cases q3
      · simp -implicitDefEqProofs
        refine onC_mk _ L1 ?_
        simp -implicitDefEqProofs
        refine onC_mk _ L1' ?_
        cases x
        · cases z
          · simp only [Bool.not_false, Bool.and_self] at kb
            simp -implicitDefEqProofs [kb]
            refine onC_mk _ L2 ?_
            simp -implicitDefEqProofs [kb]
            exact T _ (by simp)
          · simp only [Bool.not_false, Bool.not_true, Bool.and_false] at kb
            simp -implicitDefEqProofs [kb]
            refine onC_mk _ L2 ?_
            simp -implicitDefEqProofs [kb]
            exact T _ (by simp)
        · have hz := hasym rfl
          subst hz
          simp only [Bool.not_true, Bool.false_and] at kb
          simp -implicitDefEqProofs [kb]
          refine onC_mk _ L2 ?_
          simp -implicitDefEqProofs [kb]
          refine onC_mk _ L3 ?_
          cases y
          · simp -implicitDefEqProofs
            exact T _ (by simp)
          · have hw := tr rfl rfl
            subst hw
            simp -implicitDefEqProofs
            refine onC_mk _ L4 ?_
            simp -implicitDefEqProofs
            exact T _ (by simp)
      · simp -implicitDefEqProofs
    · simp -implicitDefEqProofs
  · simp -implicitDefEqProofs
end Go.Ai
