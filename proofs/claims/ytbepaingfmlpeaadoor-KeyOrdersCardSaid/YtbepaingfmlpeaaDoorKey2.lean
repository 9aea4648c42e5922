/- YtbepaingfmlpeaaDoorKey2: part of the abstract interpreter library (values, rules, soundness against the model) or of what a function of the seat computes. Conditions: as each theorem says. -/
import Derived.Test.YtbepaingfmlpeaaDoorOrd
import Derived.Test.YtbepaingfmlpeaaDoorLayJoinD
set_option linter.unusedSimpArgs false
set_option linter.unusedVariables false
namespace Go.Ai
open Go.Proofs Go.RowKit
theorem cmpstring_spec (a b : List UInt8) : Sp Tryd.prog gl 79 [.str a, .str b] (i6 (cmpB a b)) := by
  refine ext_spec (fn := Tryd.f79) (e := Extern.BytealgCompare.compare) Tryd.func79 (by kernel_rfl) (by kernel_rfl) (by kernel_rfl) (by kernel_rfl) ?_
  intro S gb w vs h
  simp only [PRlist, PR] at h
  obtain ⟨_, _, rfl, rfl, _, _, rfl, rfl, rfl⟩ := h
  refine ⟨_, Lib.run_compareString _ _ w, ?_⟩
  simp only [PR]
theorem compareString_spec (a b : List UInt8) : Sp Tryd.prog gl 57 [.str a, .str b] (i6 (cmpB a b)) := by
  refine s57 rfl rfl ?_
  have C := cmpstring_spec a b
  generalize cmpB a b = c at *
  simp -implicitDefEqProofs [c57]
  refine onC_mk _ C ?_
  simp -implicitDefEqProofs
theorem scompare_spec (a b : List UInt8) : Sp Tryd.prog gl 34 [.str a, .str b] (i6 (cmpB a b)) := by
  refine s34 rfl rfl ?_
  have C := compareString_spec a b
  generalize cmpB a b = c at *
  simp -implicitDefEqProofs [c34]
  refine onC_mk _ C ?_
  simp -implicitDefEqProofs
theorem flag_spec (b : Bool) : Sp Tryd.prog gl 35 [.bool b] (i6 (fl b)) := by
  refine s35 rfl rfl ?_
  cases b
  · simp -implicitDefEqProofs [c35, fl]
  · simp -implicitDefEqProofs [c35, fl]
theorem isNaN_spec (a : Nat) : Sp Tryd.prog gl 58 [u a] (.bool false) := by
  refine s58 rfl rfl ?_
  simp -implicitDefEqProofs [c58]
theorem ccmp_spec (a b : Nat) : Sp Tryd.prog gl 36 [u a, u b] (i6 (cmpN a b)) := by
  refine s36 rfl rfl ?_
  have A := isNaN_spec a
  have B := isNaN_spec b
  unfold cmpN
  by_cases h1 : a < b
  · have h1' : (a : Int) < b := by omega
    simp -implicitDefEqProofs [c36]
    refine onC_mk _ A ?_
    simp -implicitDefEqProofs
    refine onC_mk _ B ?_
    simp -implicitDefEqProofs [h1, h1']
  · have h1' : ¬ (a : Int) < b := by omega
    by_cases h2 : b < a
    · have h2' : (b : Int) < a := by omega
      simp -implicitDefEqProofs [c36]
      refine onC_mk _ A ?_
      simp -implicitDefEqProofs
      refine onC_mk _ B ?_
      simp -implicitDefEqProofs [h1, h1', h2, h2']
    · have h2' : ¬ (b : Int) < a := by omega
      simp -implicitDefEqProofs [c36]
      refine onC_mk _ A ?_
      simp -implicitDefEqProofs
      refine onC_mk _ B ?_
      simp -implicitDefEqProofs [h1, h1', h2, h2']
def intRows (l : List Int) : List (List AV) := l.map fun x => [i6 x]
set_option maxRecDepth 20000 in
theorem or_spec (l : List Int) (hl : l.length ≤ 1000000) : Sp Tryd.prog gl 33 [.sl (intRows l)] (i6 (orI l)) := by
  refine s33 rfl rfl ?_
  obtain ⟨R, hR⟩ : ∃ R, R = orI l := ⟨_, rfl⟩
  rw [← hR]
  unfold intRows
  simp -implicitDefEqProofs [c33]
  refine wp_lpk (α := Nat) (fun i => ⟨[(3, i6 0), (6, .sl (l.map fun x => [i6 x])), (7, i6 l.length), (8, i6 i)], [], []⟩) (fun i => i ≤ l.length ∧ orI (l.drop i) = R) (fun i => l.length - i) ?_ 0 ?_ ?_
  · rintro K i hK ⟨h1, h2⟩
    by_cases g : i < l.length
    · have t1 : IntKind.i64.wrap ((i : Int) + 1) = (i + 1 : Nat) := by rw [wrap_i64] <;> omega
      rw [List.drop_eq_getElem_cons g] at h2
      simp only [orI] at h2
      obtain ⟨x, hx⟩ : ∃ x, l[i] = x := ⟨_, rfl⟩
      rw [hx] at h2
      by_cases h0 : x = 0
      · rw [if_neg (fun h => h h0)] at h2
        have fin : ∀ σ', Weak σ' ⟨[(3, i6 0), (6, .sl (l.map fun x => [i6 x])), (7, i6 l.length), (8, i6 (i + 1 : Nat))], [], []⟩ → K σ' := fun σ' hσ => hK (i + 1) σ' ⟨by omega, h2⟩ (by omega) hσ
        have h0' : (x != 0) = false := by simp [h0]
        clear hK hR
        simp -implicitDefEqProofs [g, hx, h0']
        refine fin _ (weak_mk ?_ ?_ ?_ ?_ ?_ ?_) <;> simp -implicitDefEqProofs [t1]
      · rw [if_pos h0] at h2
        have h0' : (x != 0) = true := by simp [h0]
        subst h2
        clear hK hR
        simp -implicitDefEqProofs [g, hx, h0']
    · obtain rfl : i = l.length := by omega
      rw [List.drop_length] at h2
      simp only [orI] at h2
      subst h2
      clear hK
      simp -implicitDefEqProofs
  · exact ⟨Nat.zero_le _, hR.symm⟩
  · refine weak_mk ?_ ?_ ?_ ?_ ?_ ?_ <;> simp -implicitDefEqProofs
theorem fl_i6 (a b : Bool) : IntKind.i64.wrap (fl a - fl b) = fl a - fl b := by
  have : -1 ≤ fl a - fl b ∧ fl a - fl b ≤ 1 := by cases a <;> cases b <;> decide
  rw [wrap_i64] <;> omega
set_option maxRecDepth 20000 in
theorem less_spec (a b : Ky) : Sp Tryd.prog gl 12 [.agg a.row, .agg b.row] (.bool (lessK a b)) := by
  refine s12 rfl rfl ?_
  have C1 := scompare_spec a.g b.g
  have C2 := scompare_spec a.r b.r
  have F1 := flag_spec b.p
  have F2 := flag_spec a.p
  have C3 := ccmp_spec a.e b.e
  have F3 := flag_spec a.f
  have F4 := flag_spec b.f
  have O := or_spec (cmpsK a b) (by simp [cmpsK])
  have w1 := fl_i6 b.p a.p
  have w2 := fl_i6 a.f b.f
  have el : lessK a b = decide (orI (cmpsK a b) < 0) := rfl
  rw [el]
  generalize orI (cmpsK a b) = R at *
  unfold cmpsK intRows at O
  simp only [List.map_cons, List.map_nil] at O
  rw [krow, krow]
  generalize cmpB a.g b.g = x1 at *
  generalize cmpB a.r b.r = x2 at *
  generalize cmpN a.e b.e = x4 at *
  generalize fl b.p = y1 at *
  generalize fl a.p = y2 at *
  generalize fl a.f = y3 at *
  generalize fl b.f = y4 at *
  simp -implicitDefEqProofs [c12]
  refine onC_mk _ C1 ?_
  simp -implicitDefEqProofs
  refine onC_mk _ C2 ?_
  simp -implicitDefEqProofs
  refine onC_mk _ F1 ?_
  simp -implicitDefEqProofs
  refine onC_mk _ F2 ?_
  simp -implicitDefEqProofs
  refine onC_mk _ C3 ?_
  simp -implicitDefEqProofs
  refine onC_mk _ F3 ?_
  simp -implicitDefEqProofs
  refine onC_mk _ F4 ?_
  simp -implicitDefEqProofs
  rw [w1, w2]
  refine onC_mk _ O ?_
  simp -implicitDefEqProofs
theorem rless_spec (a b : Ky) : Sp Tryd.prog gl 13 [.agg a.row, .agg b.row] (.bool (lessK a b)) := by
  refine s13 rfl rfl ?_
  rw [lessR_eq]
  obtain ⟨g, r, p, e, f⟩ := a
  obtain ⟨g', r', p', e', f'⟩ := b
  rw [krow, krow]
  simp only
  by_cases h1 : g = g'
  · have b1 : (g == g') = true := by simp [h1]
    by_cases h2 : r = r'
    · have b2 : (r == r') = true := by simp [h2]
      by_cases h3 : p = p'
      · have b3 : (p != p') = false := by simp [h3]
        by_cases h4 : e = e'
        · have b4 : ((e : Int) != e') = false := by simp [h4]
          rw [if_neg (fun h => h h1), if_neg (fun h => h h2), if_neg (fun h => h h3), if_neg (fun h => h h4)]
          cases f
          · simp -implicitDefEqProofs [c13, b1, b2, b3, b4]
          · simp -implicitDefEqProofs [c13, b1, b2, b3, b4]
        · have b4 : ((e : Int) != e') = true := by simp; omega
          rw [if_neg (fun h => h h1), if_neg (fun h => h h2), if_neg (fun h => h h3), if_pos h4]
          have b5 : decide ((e : Int) < e') = decide (e < e') := by rw [Bool.eq_iff_iff]; simp
          simp -implicitDefEqProofs [c13, b1, b2, b3, b4, b5]
      · have b3 : (p != p') = true := by simp [h3]
        rw [if_neg (fun h => h h1), if_neg (fun h => h h2), if_pos h3]
        simp -implicitDefEqProofs [c13, b1, b2, b3]
    · have b2 : (r == r') = false := by simp [h2]
      rw [if_neg (fun h => h h1), if_pos h2]
      simp -implicitDefEqProofs [c13, b1, b2]
  · have b1 : (g == g') = false := by simp [h1]
    rw [if_pos h1]
    simp -implicitDefEqProofs [c13, b1]
def otherK (k : Ky) : Ky := { k with f := !k.f }
theorem other_spec (k : Ky) : Sp Tryd.prog gl 14 [.agg k.row] (.agg (otherK k).row) := by
  refine s14 rfl rfl ?_
  obtain ⟨g, r, p, e, f⟩ := k
  unfold otherK
  rw [krow, krow]
  simp -implicitDefEqProofs [c14]
theorem either_spec (b : Bool) (x y : List UInt8) : Sp Tryd.prog gl 28 [.bool b, .str x, .str y] (.str (if b = true then x else y)) := by
  refine s28 rfl rfl ?_
  cases b
  · simp -implicitDefEqProofs [c28]
  · simp -implicitDefEqProofs [c28]
end Go.Ai
