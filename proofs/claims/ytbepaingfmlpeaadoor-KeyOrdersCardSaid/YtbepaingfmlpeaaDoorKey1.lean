/- YtbepaingfmlpeaaDoorKey1: part of the abstract interpreter library (values, rules, soundness against the model) or of what a function of the seat computes. Conditions: as each theorem says. -/
import Derived.Test.YtbepaingfmlpeaaDoorBun1
import Derived.Test.YtbepaingfmlpeaaDoorName5
set_option linter.unusedSimpArgs false
set_option linter.unusedVariables false
namespace Go.Ai
open Go.Proofs
theorem krow (k : Ky) : k.row = [.str k.g, .str k.r, .bool k.p, u k.e, .bool k.f] := rfl
theorem xheavy_spec (k : Ky) : Sp Tryd.prog gl 8 [.agg k.row] (.bool (decide (500 < k.g.length ∨ 500 < k.r.length))) := by
  refine s8 rfl rfl ?_
  obtain ⟨kg, kr, kp, ke, kf⟩ := k
  unfold Ky.row
  simp only
  by_cases h : 500 < kg.length
  · have h' : (500 : Int) < kg.length := by omega
    simp -implicitDefEqProofs [c8, h, h']
  · have h' : ¬ (500 : Int) < kg.length := by omega
    simp -implicitDefEqProofs [c8, h, h']
    omega
def heavyK (k : Ky) : Bool := decide (500 < k.g.length ∨ 500 < k.r.length)
theorem int_beq_nat (a b : Nat) : ((a : Int) == (b : Int)) = (a == b) := by
  rw [Bool.eq_iff_iff]; simp; omega
theorem ky_beq (a b : Ky) : (a.g == b.g && (a.r == b.r && (a.p == b.p && (((a.e : Int) == (b.e : Int)) && a.f == b.f)))) = decide (a = b) := by
  obtain ⟨g, r, p, e, f⟩ := a
  obtain ⟨g', r', p', e', f'⟩ := b
  rw [Bool.eq_iff_iff, int_beq_nat]
  simp
def rightK (k : Ky) : Bool := nameT k.g && nameT k.r && decide (1 ≤ k.e ∧ k.e ≤ 4611686018427387904)
theorem kright_spec (k : Ky) (hg : k.g.length ≤ 900000) (hr : k.r.length ≤ 900000) : Sp Tryd.prog gl 17 [.agg k.row] (.bool (rightK k)) := by
  refine s17 rfl rfl ?_
  obtain ⟨g, r, p, e, f⟩ := k
  have N1 := tname_spec g hg
  have N2 := tname_spec r hr
  unfold rightK Ky.row
  simp only at *
  generalize nameT g = n1 at *
  generalize nameT r = n2 at *
  cases n1
  · simp -implicitDefEqProofs [c17]
    refine onC_mk _ N1 ?_
    simp -implicitDefEqProofs
  · cases n2
    · simp -implicitDefEqProofs [c17]
      refine onC_mk _ N1 ?_
      simp -implicitDefEqProofs
      refine onC_mk _ N2 ?_
      simp -implicitDefEqProofs
    · simp -implicitDefEqProofs [c17]
      refine onC_mk _ N1 ?_
      simp -implicitDefEqProofs
      refine onC_mk _ N2 ?_
      by_cases h1 : 1 ≤ e
      · have h1' : (1 : Int) ≤ e := by omega
        by_cases h2 : e ≤ 4611686018427387904
        · have h2' : (e : Int) ≤ 4611686018427387904 := by omega
          simp -implicitDefEqProofs [h1, h1', h2, h2']
        · have h2' : ¬ (e : Int) ≤ 4611686018427387904 := by omega
          simp -implicitDefEqProofs [h1, h1', h2, h2']
      · have h1' : ¬ (1 : Int) ≤ e := by omega
        simp -implicitDefEqProofs [h1, h1']
theorem rkright_spec (k : Ky) (hg : k.g.length ≤ 900000) (hr : k.r.length ≤ 900000) : Sp Tryd.prog gl 9 [.agg k.row] (.bool (rightK k)) := by
  refine s9 rfl rfl ?_
  obtain ⟨g, r, p, e, f⟩ := k
  have N1 := rname_spec g hg
  have N2 := rname_spec r hr
  unfold rightK Ky.row
  simp only at *
  generalize nameT g = n1 at *
  generalize nameT r = n2 at *
  cases n1
  · simp -implicitDefEqProofs [c9]
    refine onC_mk _ N1 ?_
    simp -implicitDefEqProofs
  · cases n2
    · simp -implicitDefEqProofs [c9]
      refine onC_mk _ N1 ?_
      simp -implicitDefEqProofs
      refine onC_mk _ N2 ?_
      simp -implicitDefEqProofs
    · simp -implicitDefEqProofs [c9]
      refine onC_mk _ N1 ?_
      simp -implicitDefEqProofs
      refine onC_mk _ N2 ?_
      by_cases h1 : 0 < e
      · have h1' : (0 : Int) < e := by omega
        have h1n : 1 ≤ e := h1
        by_cases h2 : e ≤ 4611686018427387904
        · have h2' : (e : Int) ≤ 4611686018427387904 := by omega
          simp -implicitDefEqProofs [h1, h1', h2, h2', h1n]
        · have h2' : ¬ (e : Int) ≤ 4611686018427387904 := by omega
          simp -implicitDefEqProofs [h1, h1', h2, h2', h1n]
      · have h1' : ¬ (0 : Int) < e := by omega
        have h1n : ¬ 1 ≤ e := by omega
        simp -implicitDefEqProofs [h1, h1', h1n]
end Go.Ai
