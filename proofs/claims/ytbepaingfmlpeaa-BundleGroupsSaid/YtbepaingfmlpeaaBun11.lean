/- YtbepaingfmlpeaaBun11: part of the abstract interpreter library (values, rules, soundness against the model) or of what a function of the seat computes. Conditions: as each theorem says. -/
import Derived.Test.YtbepaingfmlpeaaBun10
set_option linter.unusedSimpArgs false
set_option linter.unusedVariables false
namespace Go.Ai
open Go.Proofs
def rightK (k : Ky) : Bool := nameT k.g && nameT k.r && decide (1 ≤ k.e ∧ k.e ≤ 4611686018427387904)
theorem kright_spec (k : Ky) (hg : k.g.length ≤ 900000) (hr : k.r.length ≤ 900000) : Sp Try.prog gl 48 [.agg k.row] (.bool (rightK k)) := by
  refine s48 rfl rfl ?_
  obtain ⟨g, r, p, e, f⟩ := k
  have N1 := tname_spec g hg
  have N2 := tname_spec r hr
  unfold rightK Ky.row
  simp only at *
  generalize nameT g = n1 at *
  generalize nameT r = n2 at *
  cases n1
  · simp -implicitDefEqProofs [c48]
    refine onC_mk _ N1 ?_
    simp -implicitDefEqProofs
  · cases n2
    · simp -implicitDefEqProofs [c48]
      refine onC_mk _ N1 ?_
      simp -implicitDefEqProofs
      refine onC_mk _ N2 ?_
      simp -implicitDefEqProofs
    · simp -implicitDefEqProofs [c48]
      refine onC_mk _ N1 ?_
      simp -implicitDefEqProofs
      refine onC_mk _ N2 ?_
      by_cases h1 : 1 ≤ e
      · have h1' : (1 : Int) ≤ e := by omega
        by_cases h2 : e ≤ 4611686018427387904
        · have h2' : (e : Int) ≤ 4611686018427387904 := by omega
          simp -implicitDefEqProofs [h1, h1', h2, h2']
        · have h2' : ¬ (e : Int) ≤ 4611686018427387904 := by omega
          simp -implicitDefEqProofs [h1, h1', h2, h2']
      · have h1' : ¬ (1 : Int) ≤ e := by omega
        simp -implicitDefEqProofs [h1, h1']
theorem rkright_spec (k : Ky) (hg : k.g.length ≤ 900000) (hr : k.r.length ≤ 900000) : Sp Try.prog gl 18 [.agg k.row] (.bool (rightK k)) := by
  refine s18 rfl rfl ?_
  obtain ⟨g, r, p, e, f⟩ := k
  have N1 := rname_spec g hg
  have N2 := rname_spec r hr
  unfold rightK Ky.row
  simp only at *
  generalize nameT g = n1 at *
  generalize nameT r = n2 at *
  cases n1
  · simp -implicitDefEqProofs [c18]
    refine onC_mk _ N1 ?_
    simp -implicitDefEqProofs
  · cases n2
    · simp -implicitDefEqProofs [c18]
      refine onC_mk _ N1 ?_
      simp -implicitDefEqProofs
      refine onC_mk _ N2 ?_
      simp -implicitDefEqProofs
    · simp -implicitDefEqProofs [c18]
      refine onC_mk _ N1 ?_
      simp -implicitDefEqProofs
      refine onC_mk _ N2 ?_
      by_cases h1 : 0 < e
      · have h1' : (0 : Int) < e := by omega
        have h1n : 1 ≤ e := h1
        by_cases h2 : e ≤ 4611686018427387904
        · have h2' : (e : Int) ≤ 4611686018427387904 := by omega
          simp -implicitDefEqProofs [h1, h1', h2, h2', h1n]
        · have h2' : ¬ (e : Int) ≤ 4611686018427387904 := by omega
          simp -implicitDefEqProofs [h1, h1', h2, h2', h1n]
      · have h1' : ¬ (0 : Int) < e := by omega
        have h1n : ¬ 1 ≤ e := by omega
        simp -implicitDefEqProofs [h1, h1', h1n]
def idxK : List Ky → Ky → Nat → Int
  | [], _, _ => -1
  | x :: r, k, i => if k = x then i else idxK r k (i + 1)
set_option maxRecDepth 20000 in
theorem index_spec (l : List Ky) (k : Ky) (hl : l.length ≤ 1000000) : Sp Try.prog gl 49 [.sl (l.map Ky.row), .agg k.row] (i6 (idxK l k 0)) := by
  refine s49 rfl rfl ?_
  obtain ⟨R, hR⟩ : ∃ R, R = idxK l k 0 := ⟨_, rfl⟩
  rw [← hR]
  have kk : k.row = [.str k.g, .str k.r, .bool k.p, u k.e, .bool k.f] := rfl
  rw [kk]
  simp -implicitDefEqProofs [c49]
  refine wp_lpk (α := Nat) (fun i => ⟨[(0, .sl (l.map Ky.row)), (3, .ptr (.n 3) 0), (6, .sl (l.map Ky.row)), (7, i6 l.length), (8, i6 i)], [(.n 3, [.str k.g, .str k.r, .bool k.p, u k.e, .bool k.f])], []⟩)
    (fun i => i ≤ l.length ∧ idxK (l.drop i) k i = R) (fun i => l.length - i) ?_ 0 ?_ ?_
  · rintro K i hK ⟨h1, h2⟩
    by_cases g : i < l.length
    · have t1 : IntKind.i64.wrap ((i : Int) + 1) = (i + 1 : Nat) := by rw [wrap_i64] <;> omega
      rw [List.drop_eq_getElem_cons g] at h2
      simp only [idxK] at h2
      have kb := ky_beq k l[i]
      by_cases e : k = l[i]
      · rw [if_pos e] at h2
        subst h2
        rw [decide_eq_true e] at kb
        clear hK hR e
        simp -implicitDefEqProofs [g, krow, kb]
      · rw [if_neg e] at h2
        rw [decide_eq_false e] at kb
        have fin : ∀ σ', Weak σ' ⟨[(0, .sl (l.map Ky.row)), (3, .ptr (.n 3) 0), (6, .sl (l.map Ky.row)), (7, i6 l.length), (8, i6 (i + 1 : Nat))], [(.n 3, [.str k.g, .str k.r, .bool k.p, u k.e, .bool k.f])], []⟩ → K σ' :=
          fun σ' hσ => hK (i + 1) σ' ⟨by omega, h2⟩ (by omega) hσ
        clear hK hR e
        simp -implicitDefEqProofs [g, krow, kb]
        refine fin _ (weak_mk ?_ ?_ ?_ ?_ ?_ ?_) <;> simp -implicitDefEqProofs [t1]
    · obtain rfl : i = l.length := by omega
      rw [List.drop_length] at h2
      simp only [idxK] at h2
      subst h2
      clear hK
      simp -implicitDefEqProofs
  · exact ⟨Nat.zero_le _, hR.symm⟩
  · refine weak_mk ?_ ?_ ?_ ?_ ?_ ?_ <;> simp -implicitDefEqProofs
def okAt (m : Ms) (i : Nat) (k : Ky) : Bool := rightK k && (k.g == m.g && (k.p == m.p && (idxK m.ks k 0 == (i : Int))))
def rightGo (m : Ms) : Nat → List Ky → Bool
  | _, [] => true
  | i, k :: r => okAt m i k && rightGo m (i + 1) r
def rightM (m : Ms) : Bool := decide (1 ≤ m.ks.length ∧ m.ks.length ≤ 8) && rightGo m 0 m.ks
set_option maxRecDepth 20000 in
theorem bright_spec (m : Ms) (hk : ∀ k ∈ m.ks, k.g.length ≤ 900000 ∧ k.r.length ≤ 900000) : Sp Try.prog gl 19 [.agg m.row] (.bool (rightM m)) := by
  refine s19 rfl rfl ?_
  obtain ⟨R, hR⟩ : ∃ R, R = rightM m := ⟨_, rfl⟩
  rw [← hR]
  unfold rightM at hR
  have hm : m.row = [.str m.g, .bool m.p, .sl (m.ks.map Ky.row)] := rfl
  rw [hm]
  by_cases c1 : 1 ≤ m.ks.length
  · have c1' : ¬ (m.ks.length : Int) < 1 := by omega
    by_cases c8 : m.ks.length ≤ 8
    · have c8' : ¬ (8 : Int) < m.ks.length := by omega
      rw [decide_eq_true ⟨c1, c8⟩, Bool.true_and] at hR
      have I := fun k => index_spec m.ks k (by omega)
      simp -implicitDefEqProofs [c19, c1', c8']
      refine wp_lpk (α := Nat) (fun i => ⟨[(1, .ptr (.n 1) 0), (16, .sl (m.ks.map Ky.row)), (17, i6 m.ks.length), (18, i6 i)], [(.n 1, [.str m.g, .bool m.p, .sl (m.ks.map Ky.row)])], []⟩)
        (fun i => i ≤ m.ks.length ∧ rightGo m i (m.ks.drop i) = R) (fun i => m.ks.length - i) ?_ 0 ?_ ?_
      · rintro K i hK ⟨h1, h2⟩
        by_cases g : i < m.ks.length
        · have t1 : IntKind.i64.wrap ((i : Int) + 1) = (i + 1 : Nat) := by rw [wrap_i64] <;> omega
          rw [List.drop_eq_getElem_cons g] at h2
          simp only [rightGo, okAt] at h2
          obtain ⟨w1, w2⟩ := hk _ (List.getElem_mem g)
          have KR := kright_spec m.ks[i] w1 w2
          have IX := I m.ks[i]
          rw [krow] at KR IX
          have fin : rightGo m (i + 1) (m.ks.drop (i + 1)) = R → ∀ σ', Weak σ' ⟨[(1, .ptr (.n 1) 0), (16, .sl (m.ks.map Ky.row)), (17, i6 m.ks.length), (18, i6 (i + 1 : Nat))], [(.n 1, [.str m.g, .bool m.p, .sl (m.ks.map Ky.row)])], []⟩ → K σ' :=
            fun hh σ' hσ => hK (i + 1) σ' ⟨by omega, hh⟩ (by omega) hσ
          clear hK hR I hk w1 w2
          generalize rightGo m (i + 1) (m.ks.drop (i + 1)) = R2 at *
          cases b1 : rightK m.ks[i]
          · rw [b1] at h2 KR
            have : R = false := by rw [← h2]; rfl
            subst this
            simp -implicitDefEqProofs [g, krow]
            refine onC_mk _ KR ?_
            simp -implicitDefEqProofs
          · rw [b1] at h2 KR
            cases b2 : (m.ks[i].g == m.g)
            · rw [b2] at h2
              have : R = false := by rw [← h2]; rfl
              subst this
              have b2' : (m.ks[i].g != m.g) = true := by simp only [bne, b2]; rfl
              simp -implicitDefEqProofs [g, krow]
              refine onC_mk _ KR ?_
              simp -implicitDefEqProofs [g, krow, b2, b2']
            · rw [b2] at h2
              cases b3 : (m.ks[i].p == m.p)
              · rw [b3] at h2
                have : R = false := by rw [← h2]; rfl
                subst this
                have b3' : (m.ks[i].p != m.p) = true := by simp only [bne, b3]; rfl
                simp -implicitDefEqProofs [g, krow]
                refine onC_mk _ KR ?_
                simp -implicitDefEqProofs [g, krow, b2, b3, b3']
              · rw [b3] at h2
                have b3' : (m.ks[i].p != m.p) = false := by simp only [bne, b3]; rfl
                cases b4 : (idxK m.ks m.ks[i] 0 == (i : Int))
                · rw [b4] at h2
                  have : R = false := by rw [← h2]; rfl
                  subst this
                  have b4' : (idxK m.ks m.ks[i] 0 != (i : Int)) = true := by simp only [bne, b4]; rfl
                  simp -implicitDefEqProofs [g, krow]
                  refine onC_mk _ KR ?_
                  simp -implicitDefEqProofs [g, krow, b2, b3, b3']
                  refine onC_mk _ IX ?_
                  simp -implicitDefEqProofs [b4']
                · rw [b4] at h2
                  have b4' : (idxK m.ks m.ks[i] 0 != (i : Int)) = false := by simp only [bne, b4]; rfl
                  have fin := fin (by rw [← h2]; rfl)
                  simp -implicitDefEqProofs [g, krow]
                  refine onC_mk _ KR ?_
                  simp -implicitDefEqProofs [g, krow, b2, b3, b3']
                  refine onC_mk _ IX ?_
                  simp -implicitDefEqProofs [b4']
                  refine fin _ (weak_mk ?_ ?_ ?_ ?_ ?_ ?_) <;> simp -implicitDefEqProofs [t1]
        · obtain rfl : i = m.ks.length := by omega
          rw [List.drop_length] at h2
          simp only [rightGo] at h2
          subst h2
          clear hK
          simp -implicitDefEqProofs
      · exact ⟨Nat.zero_le _, hR.symm⟩
      · refine weak_mk ?_ ?_ ?_ ?_ ?_ ?_ <;> simp -implicitDefEqProofs
    · have c8' : (8 : Int) < m.ks.length := by omega
      rw [decide_eq_false (by omega)] at hR
      subst hR
      simp -implicitDefEqProofs [c19, c1', c8']
  · have c1' : (m.ks.length : Int) < 1 := by omega
    rw [decide_eq_false (by omega)] at hR
    subst hR
    simp -implicitDefEqProofs [c19, c1']
end Go.Ai
