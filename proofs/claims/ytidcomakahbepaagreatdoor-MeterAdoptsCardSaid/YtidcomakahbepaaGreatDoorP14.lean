/- P14: a part of the proof: the rules, or what functions compute. Conditions: as each theorem says. -/
import Derived.Test.YtidcomakahbepaaGreatDoorP13
import Derived.Test.YtidcomakahbepaaGreatDoorP12
import Derived.Test.YtidcomakahbepaaGreatDoorP11
import Derived.Test.YtidcomakahbepaaGreatDoorP7
set_option linter.unusedSimpArgs false
set_option linter.unusedVariables false
set_option maxRecDepth 20000
namespace Go.Ai
open Go.Proofs
open Go.Proofs
/-- Is another goal's meter counted likewise? -/
def adP (x y : Gl) : Bool := goalP y && (y.g == x.g && (y.c == x.c && decide (winP y = winP x)))
theorem madopt_spec (M A : Id) (h : Pr2 M A) (x y : Gl) (hf : y.Fit) (hl : y.ru.length ≤ 10) (hlx : (winP x).length ≤ 1000000) (hly : (winP y).length ≤ 1000000) (n : Nat) (fr tt cg ct t : Nat) (sd : Bool) (d : Nat) (hd : M.isNw d = false) :
    SpH Tryz.prog gl 26 d ⟨[.ptr M 0, .agg y.row], [(M, mtC x A n (intRows (winP x)) fr tt cg ct t sd)], []⟩ ⟨i6 (if adP x y = true then 0 else 2), [(M, mtC (if adP x y = true then y else x) A n (intRows (winP x)) fr tt cg ct t sd)], []⟩ := by
  refine h26 rfl ?_
  have hi := inn_notNw hd
  have hdA : A.isNw d = false := by rw [← h.nw]; exact hd
  have hiA := inn_notNw hdA
  have r1 := h.ri
  have b1 := h.bi
  have G := goal_spec y hf
  have WS := win_spec y hl
  have ES := equal_spec (winP y) (winP x) hly hlx
  unfold adP
  generalize hdw : decide (winP y = winP x) = e at *
  generalize intRows (winP x) = W at *
  generalize intRows (winP y) = W2 at *
  simp only [Gl.row] at G WS ⊢
  simp only [mtC]
  simp only [inSt, mpL, mpB, mpP, AV.mp]
  cases hg : goalP y with
  | false =>
    rw [hg] at G
    simp only [Bool.false_and, Bool.false_eq_true, if_false]
    simp -implicitDefEqProofs [c26]
    refine onC_mk _ G ?_
    simp -implicitDefEqProofs
    refine postH_r ⟨?_, ?_, ?_, ?_, ?_, ?_⟩ <;> simp -implicitDefEqProofs [hi, hiA, r1, b1, hd, hdA]
  | true =>
    rw [hg] at G
    cases h1 : y.g == x.g with
    | false =>
      have h1' : (y.g != x.g) = true := by rw [bne, h1]; rfl
      simp only [Bool.true_and, Bool.false_and, Bool.false_eq_true, if_false]
      simp -implicitDefEqProofs [c26]
      refine onC_mk _ G ?_
      simp -implicitDefEqProofs [h1']
      refine postH_r ⟨?_, ?_, ?_, ?_, ?_, ?_⟩ <;> simp -implicitDefEqProofs [hi, hiA, r1, b1, hd, hdA]
    | true =>
      have h1' : (y.g != x.g) = false := by rw [bne, h1]; rfl
      cases h2 : y.c == x.c with
      | false =>
        have h2' : (y.c != x.c) = true := by rw [bne, h2]; rfl
        simp only [Bool.true_and, Bool.false_and, Bool.false_eq_true, if_false]
        simp -implicitDefEqProofs [c26]
        refine onC_mk _ G ?_
        simp -implicitDefEqProofs [h1', h2']
        refine postH_r ⟨?_, ?_, ?_, ?_, ?_, ?_⟩ <;> simp -implicitDefEqProofs [hi, hiA, r1, b1, hd, hdA]
      | true =>
        have h2' : (y.c != x.c) = false := by rw [bne, h2]; rfl
        cases e with
        | false =>
          simp only [Bool.true_and, Bool.false_eq_true, if_false]
          simp -implicitDefEqProofs [c26]
          refine onC_mk _ G ?_
          simp -implicitDefEqProofs [h1', h2']
          refine onC_mk _ WS ?_
          simp -implicitDefEqProofs
          refine onC_mk _ ES ?_
          simp -implicitDefEqProofs
          refine postH_r ⟨?_, ?_, ?_, ?_, ?_, ?_⟩ <;> simp -implicitDefEqProofs [hi, hiA, r1, b1, hd, hdA]
        | true =>
          simp only [Bool.true_and, if_true]
          simp -implicitDefEqProofs [c26]
          refine onC_mk _ G ?_
          simp -implicitDefEqProofs [h1', h2']
          refine onC_mk _ WS ?_
          simp -implicitDefEqProofs
          refine onC_mk _ ES ?_
          simp -implicitDefEqProofs
          refine postH_r ⟨?_, ?_, ?_, ?_, ?_, ?_⟩ <;> simp -implicitDefEqProofs [hi, hiA, r1, b1, hd, hdA]
open Go.Proofs
/-- A turn. -/
def tn (g r : List UInt8) (k : Int) : List AV := [.str g, .str r, i6 k]
open Go.Proofs
def Ru.zero : Ru := ⟨[], false, 0, 0, 0, 0, 0⟩
open Go.Proofs
end Go.Ai
namespace Go.Ai
open Go.Proofs
end Go.Ai
