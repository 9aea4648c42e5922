/- YtbepaingfmlpeaaBun10: part of the abstract interpreter library (values, rules, soundness against the model) or of what a function of the seat computes. Conditions: as each theorem says. -/
import Derived.Test.YtbepaingfmlpeaaBun9
set_option linter.unusedSimpArgs false
set_option linter.unusedVariables false
namespace Go.Ai
open Go.Proofs
def rgY : AC := AC.part [1, 1, 0, 1, 2, 2, 1, 0, 2] c17
def refTo (l : List Ky) (pg : Bool) (i : Nat) : List Ms := refFrom l pg 0 (l.take i)
theorem refTo_succ (l : List Ky) (pg : Bool) (i : Nat) (h : i < l.length) : refTo l pg (i + 1) = refTo l pg i ++ refOne l pg i l[i] := by
  unfold refTo
  rw [List.take_succ_eq_append_getElem h, refFrom_app]
  simp only [refFrom, List.length_take, Nat.zero_add, List.append_nil]
  rw [Nat.min_eq_left (by omega)]
theorem refTo_len (l : List Ky) (pg : Bool) : ∀ i, i ≤ l.length → (refTo l pg i).length ≤ i
  | 0, _ => by simp [refTo, refFrom]
  | i + 1, h => by
    rw [refTo_succ l pg i (by omega), List.length_append]
    have := refTo_len l pg i (by omega)
    unfold refOne
    split <;> simp <;> omega
theorem wk_to_int {v : AV} {k : IntKind} {n : Int} (h : wk v (.int k n)) : v = .int k n := by
  rcases h with h | ⟨_, h⟩
  · exact h
  · cases h
set_option maxRecDepth 20000 in
theorem rgY_spec (l : List Ky) (sv : Int) (pg : Bool) (hpg : (sv == 0) = pg) (hl : l.length ≤ 1000000) (base : List Ms) (hb : base.length ≤ 1000000) (Q : AE → St → Prop)
    (hQ : ∀ σ', Weak σ' ⟨[(0, .sl (l.map Ky.row)), (3, .sl ((base ++ refGrp l pg).map Ms.row)), (4, i6 sv)], [], [(.s 3, 3)]⟩ → Q .n σ')
    (e : List (Nat × AV)) (h0 : lk e 0 = .sl (l.map Ky.row)) (h3 : lk e 3 = .sl (base.map Ms.row)) (h4 : lk e 4 = i6 sv) :
    wpA (SpH Try.prog gl) rgY Q ⟨e, [], [(.s 3, 3)]⟩ := by
  have ec : rgY = AC.cutIn [1, 2, 2, 1, 0, 2, 1, 1] rgT rgY := rfl
  rw [ec]
  have T := fun i hi out ho => rgT_spec l i sv hi hl out ho
  generalize rgT = t at T ⊢
  have eT : rgY = AC.part [1, 1, 0, 1, 2, 2, 1, 0, 2] c17 := rfl
  rw [eT]
  simp only [c17, AC.part, AC.cutIn]
  simp -implicitDefEqProofs
  refine wp_lpk (α := Nat) (fun i => ⟨[(0, .sl (l.map Ky.row)), (3, .sl ((base ++ refTo l pg i).map Ms.row)), (4, i6 sv), (5, i6 i)], [], [(.s 3, 3)]⟩) (fun i => i ≤ l.length) (fun i => l.length - i) ?_ 0 ?_ ?_
  · rintro K i hK h1
    by_cases g : i < l.length
    · have t1 : IntKind.i64.wrap ((i : Int) + 1) = (i + 1 : Nat) := by rw [wrap_i64] <;> omega
      have rs := refTo_succ l pg i g
      have rlen := refTo_len l pg i h1
      have fin : ∀ σ', Weak σ' ⟨[(0, .sl (l.map Ky.row)), (3, .sl ((base ++ refTo l pg (i + 1)).map Ms.row)), (4, i6 sv), (5, i6 (i + 1 : Nat))], [], [(.s 3, 3)]⟩ → K σ' := fun σ' hσ => hK (i + 1) σ' (by omega) (by omega) hσ
      rw [rs] at fin
      have A := ahead_spec l i g hl
      have T' := T i g (base ++ refTo l pg i) (by rw [List.length_append]; omega)
      rw [← List.append_assoc] at fin
      clear T hK rs hQ ec
      unfold refOne at fin
      by_cases hp : l[i].p = pg
      · have hp' : (l[i].p != pg) = false := by simp [hp]
        by_cases hm : aheadN l i l[i] % 8 = 0
        · rw [if_pos ⟨hp, hm⟩] at fin
          have hm' : (Int.tmod (aheadN l i l[i] : Int) 8 != 0) = false := by
            rw [bne_eq_false_iff_eq]; rw [Int.tmod_eq_emod_of_nonneg (by omega)]; omega
          generalize aheadN l i l[i] = an at *
          generalize refTo l pg i = RT at *
          simp -implicitDefEqProofs [g, krow, hpg, hp']
          refine onC_mk _ A ?_
          simp -implicitDefEqProofs [g, krow, hm']
          refine T' _ ?_ _ ?_ ?_ ?_ ?_ ?_
          · intro σ' hσ
            have we := hσ.e
            have fp := hσ.p
            simp only [List.forall_mem_cons] at we fp
            obtain ⟨f0, f3, f4, f5, _⟩ := we
            replace f5 := wk_to_int f5
            replace fp := fp.1
            simp -implicitDefEqProofs [f5]
            refine fin _ (weak_mk ?_ ?_ ?_ ?_ ?_ ?_)
            · simp -implicitDefEqProofs [t1]
              exact ⟨f0, by simpa using f3, f4⟩
            · simp -implicitDefEqProofs
            · simp -implicitDefEqProofs [lkP_dlS, Pl.at]
              simpa using fp
            all_goals simp -implicitDefEqProofs
          all_goals simp -implicitDefEqProofs
        · rw [if_neg (fun h => hm h.2), List.append_nil] at fin
          have hm' : (Int.tmod (aheadN l i l[i] : Int) 8 != 0) = true := by
            rw [bne_iff_ne]; rw [Int.tmod_eq_emod_of_nonneg (by omega)]; omega
          generalize aheadN l i l[i] = an at *
          generalize refTo l pg i = RT at *
          simp -implicitDefEqProofs [g, krow, hpg, hp']
          refine onC_mk _ A ?_
          simp -implicitDefEqProofs [g, krow, hm']
          refine fin _ (weak_mk ?_ ?_ ?_ ?_ ?_ ?_) <;> simp -implicitDefEqProofs [t1]
      · have hp' : (l[i].p != pg) = true := by simpa using hp
        rw [if_neg (fun h => hp h.1), List.append_nil] at fin
        generalize refTo l pg i = RT at *
        clear A T'
        simp -implicitDefEqProofs [g, krow, hpg, hp']
        refine fin _ (weak_mk ?_ ?_ ?_ ?_ ?_ ?_) <;> simp -implicitDefEqProofs [t1]
    · obtain rfl : i = l.length := by omega
      have e0 : refTo l pg l.length = refGrp l pg := by unfold refTo refGrp; rw [List.take_length]
      rw [e0]
      clear hK T
      simp -implicitDefEqProofs
      refine hQ _ (weak_mk ?_ ?_ ?_ ?_ ?_ ?_) <;> simp -implicitDefEqProofs
  · simp
  · have e0 : refTo l pg 0 = [] := rfl
    rw [e0, List.append_nil]
    refine weak_mk ?_ ?_ ?_ ?_ ?_ ?_ <;> simp -implicitDefEqProofs [h0, h3, h4]
set_option maxRecDepth 20000 in
theorem rgroup_spec (l : List Ky) (hl : l.length ≤ 100000) : Sp Try.prog gl 17 [.sl (l.map Ky.row)] (.sl ((grpAll l).map Ms.row)) := by
  refine s17 rfl rfl ?_
  have ec : c17 = AC.cutIn [1, 1, 0, 1, 2, 2, 1, 0, 2] rgY c17 := rfl
  rw [ec]
  have Y := fun sv pg hpg base hb => rgY_spec l sv pg hpg (by omega) base hb
  have e1 := refGrp_eq true l.length l rfl
  have e2 := refGrp_eq false l.length l rfl
  have l1 := grp_len l true
  generalize rgY = t at Y ⊢
  simp only [c17, AC.cutIn]
  simp -implicitDefEqProofs
  refine wp_lpk (α := Nat) (fun s => ⟨[(0, .sl (l.map Ky.row)), (3, .sl ((if s = 0 then [] else if s = 1 then grp l true else grpAll l).map Ms.row)), (4, i6 s)], [], [(.s 3, 3)]⟩) (fun s => s ≤ 2) (fun s => 2 - s) ?_ 0 ?_ ?_
  · rintro K s hK h1
    rcases (by omega : s = 0 ∨ s = 1 ∨ s = 2) with rfl | rfl | rfl
    · have fin : ∀ σ', Weak σ' ⟨[(0, .sl (l.map Ky.row)), (3, .sl ((grp l true).map Ms.row)), (4, i6 1)], [], [(.s 3, 3)]⟩ → K σ' := fun σ' hσ => hK 1 σ' (by omega) (by omega) hσ
      have Y' := Y 0 true rfl [] (by simp)
      rw [e1, List.nil_append] at Y'
      clear hK Y
      simp -implicitDefEqProofs
      refine Y' _ ?_ _ ?_ ?_ ?_
      · intro σ' hσ
        have we := hσ.e
        have fp := hσ.p
        simp only [List.forall_mem_cons] at we fp
        obtain ⟨f0, f3, f4, _⟩ := we
        replace f4 := wk_to_int f4
        replace fp := fp.1
        have t1 : IntKind.i64.wrap 1 = 1 := by rw [wrap_i64] <;> omega
        simp -implicitDefEqProofs [f4]
        refine fin _ (weak_mk ?_ ?_ ?_ ?_ ?_ ?_)
        · simp -implicitDefEqProofs [t1]
          exact ⟨f0, f3⟩
        · simp -implicitDefEqProofs
        · simp -implicitDefEqProofs [lkP_dlS, Pl.at]
          simpa using fp
        all_goals simp -implicitDefEqProofs
      all_goals simp -implicitDefEqProofs
    · have fin : ∀ σ', Weak σ' ⟨[(0, .sl (l.map Ky.row)), (3, .sl ((grpAll l).map Ms.row)), (4, i6 2)], [], [(.s 3, 3)]⟩ → K σ' := fun σ' hσ => hK 2 σ' (by omega) (by omega) hσ
      have Y' := Y 1 false rfl (grp l true) (by omega)
      rw [e2] at Y'
      have ea : grp l true ++ grp l false = grpAll l := rfl
      rw [ea] at Y'
      clear hK Y
      simp -implicitDefEqProofs
      refine Y' _ ?_ _ ?_ ?_ ?_
      · intro σ' hσ
        have we := hσ.e
        have fp := hσ.p
        simp only [List.forall_mem_cons] at we fp
        obtain ⟨f0, f3, f4, _⟩ := we
        replace f4 := wk_to_int f4
        replace fp := fp.1
        have t1 : IntKind.i64.wrap 2 = 2 := by rw [wrap_i64] <;> omega
        simp -implicitDefEqProofs [f4]
        refine fin _ (weak_mk ?_ ?_ ?_ ?_ ?_ ?_)
        · simp -implicitDefEqProofs [t1]
          exact ⟨f0, f3⟩
        · simp -implicitDefEqProofs
        · simp -implicitDefEqProofs [lkP_dlS, Pl.at]
          simpa using fp
        all_goals simp -implicitDefEqProofs
      all_goals simp -implicitDefEqProofs
    · clear hK Y
      simp -implicitDefEqProofs
  · simp
  · refine weak_mk ?_ ?_ ?_ ?_ ?_ ?_ <;> simp -implicitDefEqProofs
end Go.Ai
