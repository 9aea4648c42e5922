/- YtbepaingfmlpeaaBun5: part of the abstract interpreter library (values, rules, soundness against the model) or of what a function of the seat computes. Conditions: as each theorem says. -/
import Derived.Test.YtbepaingfmlpeaaBun4
set_option linter.unusedSimpArgs false
set_option linter.unusedVariables false
namespace Go.Ai
open Go.Proofs
theorem mrows_len (l : List Ms) : ∀ r ∈ l.map Ms.row, r.length = 3 := by
  intro r hr
  obtain ⟨m, _, rfl⟩ := List.mem_map.1 hr
  rfl
theorem krows_len (l : List Ky) : ∀ r ∈ l.map Ky.row, r.length = 5 := by
  intro r hr
  obtain ⟨m, _, rfl⟩ := List.mem_map.1 hr
  rfl
theorem Group_spec (l : List Ky) (hn : l.length ≤ 100000) : Sp Try.prog gl 14 [.sl (l.map Ky.row)] (.sl ((grpAll l).map Ms.row)) := by
  refine s14 rfl rfl ?_
  have hlim : lim = 140737488355328 := rfl
  have A := group_spec l true hn 4
  have B := Sp.of_h (fun d => (group_spec l false hn d).noPm)
  have la := grp_len l true
  have lb := grp_len l false
  have ra := mrows_len (grp l true)
  have rb := mrows_len (grp l false)
  have e : (grpAll l).map Ms.row = (grp l true).map Ms.row ++ (grp l false).map Ms.row := by unfold grpAll; rw [List.map_append]
  rw [e]
  have ha : ((grp l true).map Ms.row).length = (grp l true).length := List.length_map ..
  have hb : ((grp l false).map Ms.row).length = (grp l false).length := List.length_map ..
  generalize (grp l true).map Ms.row = RA at *
  generalize (grp l false).map Ms.row = RB at *
  generalize l.map Ky.row = L at *
  have hw : (RA.length + RB.length) * 48 ≤ 140737488355328 := by omega
  simp -implicitDefEqProofs [c14]
  refine onH_mk _ _ A ⟨?_, ?_, ?_, ?_, ?_, ?_, ?_⟩ ?_
  iterate 7 (· simp -implicitDefEqProofs)
  · simp -implicitDefEqProofs
    refine onC_mk _ B ?_
    simp -implicitDefEqProofs [hlim]
    exact ⟨hw, ra, rb⟩
theorem keysOf_take (l : List Ms) (i : Nat) (h : i < l.length) : keysOf (l.take (i + 1)) = keysOf (l.take i) ++ l[i].ks := by
  unfold keysOf
  rw [List.take_succ_eq_append_getElem h, List.map_append, List.flatten_append]; simp
theorem krow (k : Ky) : k.row = [.str k.g, .str k.r, .bool k.p, u k.e, .bool k.f] := rfl
theorem mrow (m : Ms) : m.row = [.str m.g, .bool m.p, .sl (m.ks.map Ky.row)] := rfl
theorem mrows_at (l : List Ms) (i : Nat) (h : i < l.length) : (l.map Ms.row)[i]? = some l[i].row := by
  rw [List.getElem?_map, List.getElem?_eq_getElem h]; rfl
theorem keysOf_le (l : List Ms) (i : Nat) : (keysOf (l.take i)).length ≤ (keysOf l).length := by
  have : keysOf l = keysOf (l.take i) ++ keysOf (l.drop i) := by
    unfold keysOf
    rw [← List.flatten_append, ← List.map_append, List.take_append_drop]
  rw [this, List.length_append]; omega
set_option maxRecDepth 20000 in
theorem Keys_spec (l : List Ms) (hn : l.length ≤ 100000) (hk : (keysOf l).length ≤ 1000000) : Sp Try.prog gl 15 [.sl (l.map Ms.row)] (.sl ((keysOf l).map Ky.row)) := by
  refine s15 rfl rfl ?_
  have hlim : lim = 140737488355328 := rfl
  have rows := mrows_at l
  have hL : (l.map Ms.row).length = l.length := List.length_map ..
  generalize l.map Ms.row = L at *
  simp -implicitDefEqProofs [c15]
  refine wp_lpk (α := Nat) (fun i => ⟨[(3, .sl ((keysOf (l.take i)).map Ky.row)), (6, .sl L), (7, i6 l.length), (8, i6 i)], [], [(.s 3, 5)]⟩) (fun i => i ≤ l.length) (fun i => l.length - i) ?_ 0 ?_ ?_
  · rintro K i hK h1
    by_cases g : i < l.length
    · have t1 : IntKind.i64.wrap ((i : Int) + 1) = (i + 1 : Nat) := by rw [wrap_i64] <;> omega
      have hr := rows i g
      have kt := keysOf_take l i g
      have kl := keysOf_le l (i + 1)
      have fin : ∀ σ', Weak σ' ⟨[(3, .sl ((keysOf (l.take (i + 1))).map Ky.row)), (6, .sl L), (7, i6 l.length), (8, i6 (i + 1 : Nat))], [], [(.s 3, 5)]⟩ → K σ' := fun σ' hσ => hK (i + 1) σ' (by omega) (by omega) hσ
      rw [kt, List.length_append] at kl
      rw [kt, List.map_append] at fin
      have r1 := krows_len (keysOf (l.take i))
      have r2 := krows_len l[i].ks
      have l1 : ((keysOf (l.take i)).map Ky.row).length = (keysOf (l.take i)).length := List.length_map ..
      have l2 : (l[i].ks.map Ky.row).length = l[i].ks.length := List.length_map ..
      have em : l[i].row = [.str l[i].g, .bool l[i].p, .sl (l[i].ks.map Ky.row)] := rfl
      rw [em] at hr
      have hw : (((keysOf (l.take i)).map Ky.row).length + (l[i].ks.map Ky.row).length) * 56 ≤ 140737488355328 := by omega
      clear rows hK kt kl em
      generalize (keysOf (l.take i)).map Ky.row = KA at *
      generalize l[i].ks.map Ky.row = KB at *
      generalize l[i].g = mg at *
      generalize l[i].p = mp at *
      simp -implicitDefEqProofs [g, hr, hlim]
      refine ⟨hw, r1, r2, ?_⟩
      refine fin _ (weak_mk ?_ ?_ ?_ ?_ ?_ ?_) <;> simp -implicitDefEqProofs [t1]
    · obtain rfl : i = l.length := by omega
      rw [List.take_length]
      clear hK
      simp -implicitDefEqProofs
  · simp
  · refine weak_mk ?_ ?_ ?_ ?_ ?_ ?_ <;> simp -implicitDefEqProofs [hL, keysOf]
theorem xheavy_spec (k : Ky) : Sp Try.prog gl 43 [.agg k.row] (.bool (decide (500 < k.g.length ∨ 500 < k.r.length))) := by
  refine s43 rfl rfl ?_
  obtain ⟨kg, kr, kp, ke, kf⟩ := k
  unfold Ky.row
  simp only
  by_cases h : 500 < kg.length
  · have h' : (500 : Int) < kg.length := by omega
    simp -implicitDefEqProofs [c43, h, h']
  · have h' : ¬ (500 : Int) < kg.length := by omega
    simp -implicitDefEqProofs [c43, h, h']
    omega
def heavyK (k : Ky) : Bool := decide (500 < k.g.length ∨ 500 < k.r.length)
def heavyKs (l : List Ky) : Bool := decide (100 < l.length) || l.any heavyK
set_option maxRecDepth 20000 in
theorem heavyKs_spec (l : List Ky) : Sp Try.prog gl 13 [.sl (l.map Ky.row)] (.bool (heavyKs l)) := by
  refine s13 rfl rfl ?_
  have hany := fun i (h : i < l.length) => (show heavyK l[i] = true → heavyKs l = true from fun hh => by
    unfold heavyKs
    rw [Bool.or_eq_true]; right
    exact List.any_eq_true.2 ⟨_, List.getElem_mem h, hh⟩)
  have hnone : l.length ≤ 100 → (∀ k ∈ l, heavyK k = false) → heavyKs l = false := by
    intro h1 h2
    unfold heavyKs
    rw [Bool.or_eq_false_iff]
    exact ⟨by simp; omega, by rw [List.any_eq_false]; intro x hx; rw [h2 x hx]; simp⟩
  have hbig : 100 < l.length → heavyKs l = true := fun h => by unfold heavyKs; simp [h]
  generalize heavyKs l = R at *
  by_cases h : 100 < l.length
  · have := hbig h
    subst this
    have h' : (100 : Int) < l.length := by omega
    simp -implicitDefEqProofs [c13, h', h]
  · have h' : ¬ (100 : Int) < l.length := by omega
    simp -implicitDefEqProofs [c13, h', h]
    refine wp_lpk (α := Nat) (fun i => ⟨[(0, .sl (l.map Ky.row)), (3, i6 i)], [], []⟩) (fun i => i ≤ l.length ∧ ∀ k ∈ l.take i, heavyK k = false) (fun i => l.length - i) ?_ 0 ?_ ?_
    · rintro K i hK ⟨h1, h2⟩
      by_cases g : i < l.length
      · have t1 : IntKind.i64.wrap ((i : Int) + 1) = (i + 1 : Nat) := by rw [wrap_i64] <;> omega
        have H := xheavy_spec l[i]
        have hany := hany i g
        have fin : heavyK l[i] = false → ∀ σ', Weak σ' ⟨[(0, .sl (l.map Ky.row)), (3, i6 (i + 1 : Nat))], [], []⟩ → K σ' := fun hh σ' hσ => hK (i + 1) σ' ⟨by omega, by
          intro k hk
          rw [List.take_succ_eq_append_getElem g, List.mem_append] at hk
          rcases hk with hk | hk
          · exact h2 k hk
          · simp only [List.mem_singleton] at hk; rw [hk]; exact hh⟩ (by omega) hσ
        change Sp _ _ _ _ (.bool (heavyK l[i])) at H
        generalize heavyK l[i] = hv at *
        rw [krow] at H
        clear hK hnone hbig
        cases hv
        · simp -implicitDefEqProofs [g, krow]
          refine onC_mk _ H ?_
          simp -implicitDefEqProofs [t1]
          refine fin rfl _ (weak_mk ?_ ?_ ?_ ?_ ?_ ?_) <;> simp -implicitDefEqProofs
        · have := hany rfl
          subst this
          simp -implicitDefEqProofs [g, krow]
          refine onC_mk _ H ?_
          simp -implicitDefEqProofs
      · obtain rfl : i = l.length := by omega
        rw [List.take_length] at h2
        have := hnone (by omega) h2
        subst this
        simp -implicitDefEqProofs
    · simp
    · refine weak_mk ?_ ?_ ?_ ?_ ?_ ?_ <;> simp -implicitDefEqProofs
end Go.Ai
