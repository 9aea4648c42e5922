/- YtbepaingfmlpeaaBun9: part of the abstract interpreter library (values, rules, soundness against the model) or of what a function of the seat computes. Conditions: as each theorem says. -/
import Derived.Test.YtbepaingfmlpeaaBun8
set_option linter.unusedSimpArgs false
set_option linter.unusedVariables false
namespace Go.Ai
open Go.Proofs
theorem aheadN_succ (l : List Ky) (i : Nat) (h : i < l.length) (x : Ky) : aheadN l (i + 1) x = aheadN l i x + (if sameK l[i] x = true then 1 else 0) := by
  unfold aheadN
  rw [List.take_succ_eq_append_getElem h, List.countP_append, List.countP_cons]
  simp
theorem aheadN_le (l : List Ky) (i : Nat) (x : Ky) : aheadN l i x ≤ i := by
  unfold aheadN
  have := List.countP_le_length (p := fun y => sameK y x) (l := l.take i)
  rw [List.length_take] at this; omega
set_option maxRecDepth 20000 in
theorem ahead_spec (l : List Ky) (i : Nat) (hi : i < l.length) (hl : l.length ≤ 1000000) : Sp Try.prog gl 46 [.sl (l.map Ky.row), i6 i] (i6 (aheadN l i l[i])) := by
  refine s46 rfl rfl ?_
  have hri := rows_at l i hi
  have rows := rows_at l
  obtain ⟨x, hx⟩ : ∃ x, l[i] = x := ⟨_, rfl⟩
  rw [hx, krow] at hri
  rw [hx]
  have init : aheadN l 0 x = 0 := rfl
  generalize l.map Ky.row = L at *
  simp -implicitDefEqProofs [c46]
  refine wp_lpk (α := Nat) (fun k => ⟨[(0, .sl L), (1, i6 i), (5, i6 (aheadN l k x)), (6, i6 k)], [], []⟩) (fun k => k ≤ i) (fun k => i - k) ?_ 0 ?_ ?_
  · rintro K k hK h1
    by_cases g : k < i
    · have g2 : k < l.length := by omega
      have hrk := rows k g2
      rw [krow] at hrk
      have t1 : IntKind.i64.wrap ((k : Int) + 1) = (k + 1 : Nat) := by rw [wrap_i64] <;> omega
      have ha := aheadN_le l k x
      have t2 : IntKind.i64.wrap ((aheadN l k x : Int) + 1) = (aheadN l k x + 1 : Nat) := by rw [wrap_i64] <;> omega
      have fin : ∀ σ', Weak σ' ⟨[(0, .sl L), (1, i6 i), (5, i6 (aheadN l (k + 1) x)), (6, i6 (k + 1 : Nat))], [], []⟩ → K σ' := fun σ' hσ => hK (k + 1) σ' (by omega) (by omega) hσ
      rw [aheadN_succ l k g2] at fin
      generalize aheadN l k x = n at *
      clear hK rows init
      unfold sameK at fin
      generalize l[k] = y at *
      simp -implicitDefEqProofs [g, hri, hrk]
      refine onB_mk (fun e1 => ?_) (fun e1 => ?_)
      · rw [e1] at fin
        simp -implicitDefEqProofs [e1]
        simp -implicitDefEqProofs [g, hri, hrk, e1]
        refine onB_mk (fun e2 => ?_) (fun e2 => ?_)
        · rw [e2] at fin
          simp only [Bool.and_self, if_true] at fin
          simp -implicitDefEqProofs
          refine fin _ (weak_mk ?_ ?_ ?_ ?_ ?_ ?_) <;> simp -implicitDefEqProofs [t1, t2]
        · rw [e2] at fin
          simp only [Bool.true_and, Bool.false_eq_true, if_false, Nat.add_zero] at fin
          simp -implicitDefEqProofs
          refine fin _ (weak_mk ?_ ?_ ?_ ?_ ?_ ?_) <;> simp -implicitDefEqProofs [t1]
      · rw [e1] at fin
        simp only [Bool.false_and, Bool.false_eq_true, if_false, Nat.add_zero] at fin
        simp -implicitDefEqProofs [e1]
        refine fin _ (weak_mk ?_ ?_ ?_ ?_ ?_ ?_) <;> simp -implicitDefEqProofs [t1]
    · obtain rfl : k = i := by omega
      clear hK
      simp -implicitDefEqProofs
  · simp
  · refine weak_mk ?_ ?_ ?_ ?_ ?_ ?_ <;> simp -implicitDefEqProofs [init]
def rgT : AC := AC.part [1, 1, 0, 1, 2, 2, 1, 0, 2, 1, 2, 2, 1, 0, 2, 1, 1] c17
def keysTo (l : List Ky) (i k : Nat) (x : Ky) : List Ky := ((l.drop i).take (k - i)).filter fun y => sameK y x
theorem keysTo_succ (l : List Ky) (i k : Nat) (x : Ky) (h1 : i ≤ k) (h2 : k < l.length) : keysTo l i (k + 1) x = keysTo l i k x ++ (if sameK l[k] x = true then [l[k]] else []) := by
  unfold keysTo
  rw [show k + 1 - i = (k - i) + 1 by omega, List.take_succ_eq_append_getElem (by rw [List.length_drop]; omega), List.filter_append]
  have : (l.drop i)[k - i]'(by rw [List.length_drop]; omega) = l[k] := by rw [List.getElem_drop]; congr 1; omega
  rw [this]
  congr 1
  simp only [List.filter_cons, List.filter_nil]
theorem keysTo_end (l : List Ky) (i k : Nat) (x : Ky) (h1 : i ≤ k) (h8 : (keysTo l i k x).length ≤ 8) (h2 : k = l.length ∨ (keysTo l i k x).length = 8) : keysTo l i k x = (refMsg l i x).ks := by
  unfold refMsg
  simp only
  rcases h2 with rfl | h2
  · have e : keysTo l i l.length x = (l.drop i).filter fun y => sameK y x := by
      unfold keysTo
      rw [List.take_of_length_le (by rw [List.length_drop]; omega)]
    rw [e] at h8 ⊢
    rw [List.take_of_length_le h8]
  · have e : (l.drop i).filter (fun y => sameK y x) = keysTo l i k x ++ ((l.drop i).drop (k - i)).filter fun y => sameK y x := by
      unfold keysTo
      rw [← List.filter_append, List.take_append_drop]
    rw [e, List.take_append_of_le_length (by omega), List.take_of_length_le (by omega)]
set_option maxRecDepth 20000 in
theorem rgT_spec (l : List Ky) (i : Nat) (sv : Int) (hi : i < l.length) (hl : l.length ≤ 1000000) (out : List Ms) (ho : out.length ≤ 2000000) (Q : AE → St → Prop)
    (hQ : ∀ σ', Weak σ' ⟨[(0, .sl (l.map Ky.row)), (3, .sl ((out ++ [refMsg l i l[i]]).map Ms.row)), (4, i6 sv), (5, i6 i)], [], [(.s 3, 3)]⟩ → Q .n σ')
    (e : List (Nat × AV)) (h0 : lk e 0 = .sl (l.map Ky.row)) (h3 : lk e 3 = .sl (out.map Ms.row)) (h4 : lk e 4 = i6 sv) (h5 : lk e 5 = i6 i) (h6 : lk e 6 = .ptr (.n 6) 0) :
    wpA (SpH Try.prog gl) rgT Q ⟨e, [(.n 6, [.str l[i].g, .bool l[i].p, .nils])], [(.s 3, 3)]⟩ := by
  have hlim : lim = 140737488355328 := rfl
  have eT : rgT = AC.part [1, 1, 0, 1, 2, 2, 1, 0, 2, 1, 2, 2, 1, 0, 2, 1, 1] c17 := rfl
  rw [eT]
  simp only [c17, AC.part]
  have em : (out ++ [refMsg l i l[i]]).map Ms.row = out.map Ms.row ++ [[.str l[i].g, .bool l[i].p, .sl ((refMsg l i l[i]).ks.map Ky.row)]] := by
    rw [List.map_append]; rfl
  rw [em] at hQ
  have om := mrows_len out
  have ol : (out.map Ms.row).length = out.length := List.length_map ..
  clear em
  generalize out.map Ms.row = O at *
  obtain ⟨x, hx⟩ : ∃ x, l[i] = x := ⟨_, rfl⟩
  rw [hx] at hQ ⊢
  have k0 : keysTo l i i x = [] := by unfold keysTo; simp
  have ks := fun k (h1 : i ≤ k) (h2 : k < l.length) => keysTo_succ l i k x h1 h2
  have ke := fun k (h1 : i ≤ k) (h8 : (keysTo l i k x).length ≤ 8) (h2 : k = l.length ∨ (keysTo l i k x).length = 8) => keysTo_end l i k x h1 h8 h2
  have hw : (out.length + 1) * 48 ≤ 140737488355328 := by omega
  simp -implicitDefEqProofs [h5]
  refine wp_lpk (α := Nat) (fun k => ⟨[(0, .sl (l.map Ky.row)), (3, .sl O), (4, i6 sv), (5, i6 i), (6, .ptr (.n 6) 0), (7, i6 k)], [(.n 6, [.str x.g, .bool x.p, .sl ((keysTo l i k x).map Ky.row)])], [(.s 3, 3), (.b (.n 6) 2, 5)]⟩)
    (fun k => i ≤ k ∧ k ≤ l.length ∧ (keysTo l i k x).length ≤ 8) (fun k => l.length - k) ?_ i ?_ ?_
  · rintro K k hK ⟨h1, h2, h8⟩
    have kr := krows_len (keysTo l i k x)
    have kl : ((keysTo l i k x).map Ky.row).length = (keysTo l i k x).length := List.length_map ..
    by_cases g : k < l.length
    · by_cases g8 : (keysTo l i k x).length < 8
      · have g8I : ((keysTo l i k x).length : Int) < 8 := by omega
        have t1 : IntKind.i64.wrap ((k : Int) + 1) = (k + 1 : Nat) := by rw [wrap_i64] <;> omega
        have ksk := ks k h1 g
        have fin : ∀ σ', Weak σ' ⟨[(0, .sl (l.map Ky.row)), (3, .sl O), (4, i6 sv), (5, i6 i), (6, .ptr (.n 6) 0), (7, i6 (k + 1 : Nat))], [(.n 6, [.str x.g, .bool x.p, .sl ((keysTo l i (k + 1) x).map Ky.row)])], [(.s 3, 3), (.b (.n 6) 2, 5)]⟩ → K σ' :=
          fun σ' hσ => hK (k + 1) σ' ⟨by omega, by omega, by rw [ksk, List.length_append]; split <;> simp <;> omega⟩ (by omega) hσ
        rw [ksk, List.map_append] at fin
        have hw2 : ((keysTo l i k x).length + 1) * 56 ≤ 140737488355328 := by omega
        clear hK ks ke ksk k0 hQ
        generalize (keysTo l i k x).length = kn at *
        generalize (keysTo l i k x).map Ky.row = KR at *
        unfold sameK at fin
        cases e1 : (l[k].g == x.g)
        · rw [e1] at fin
          simp only [Bool.false_and, Bool.false_eq_true, if_false, List.map_nil, List.append_nil] at fin
          simp -implicitDefEqProofs [g, g8, g8I, kl, krow, e1]
          refine fin _ (weak_mk ?_ ?_ ?_ ?_ ?_ ?_) <;> simp -implicitDefEqProofs [t1]
        · cases e2 : (l[k].p == x.p)
          · rw [e1, e2] at fin
            simp only [Bool.true_and, Bool.false_eq_true, if_false, List.map_nil, List.append_nil] at fin
            simp -implicitDefEqProofs [g, g8, g8I, kl, krow, e1, e2]
            refine fin _ (weak_mk ?_ ?_ ?_ ?_ ?_ ?_) <;> simp -implicitDefEqProofs [t1]
          · rw [e1, e2] at fin
            simp only [Bool.and_self, if_true, List.map_cons, List.map_nil] at fin
            simp -implicitDefEqProofs [g, g8, g8I, kl, krow, e1, e2, hlim]
            refine ⟨hw2, kr, fin _ (weak_mk ?_ ?_ ?_ ?_ ?_ ?_)⟩ <;> simp -implicitDefEqProofs [t1, krow]
      · have g8I : ¬ ((keysTo l i k x).length : Int) < 8 := by omega
        have e := ke k h1 h8 (.inr (by omega))
        rw [← e] at hQ
        clear hK ks ke k0 e
        generalize (keysTo l i k x).length = kn at *
        generalize (keysTo l i k x).map Ky.row = KR at *
        simp -implicitDefEqProofs [g, g8, g8I, kl, hlim, ol]
        refine ⟨hw, om, hQ _ (weak_mk ?_ ?_ ?_ ?_ ?_ ?_)⟩ <;> simp -implicitDefEqProofs
    · have hk : k = l.length := by omega
      have e := ke k h1 h8 (.inl hk)
      rw [← e] at hQ
      have gI : ¬ (k : Int) < l.length := by omega
      clear hK ks ke k0 e
      generalize (keysTo l i k x).length = kn at *
      generalize (keysTo l i k x).map Ky.row = KR at *
      simp -implicitDefEqProofs [g, gI, hlim, ol]
      refine ⟨hw, om, hQ _ (weak_mk ?_ ?_ ?_ ?_ ?_ ?_)⟩ <;> simp -implicitDefEqProofs
  · exact ⟨Nat.le_refl _, by omega, by rw [k0]; simp⟩
  · refine weak_mk ?_ ?_ ?_ ?_ ?_ ?_ <;> simp -implicitDefEqProofs [h0, h3, h4, h5, h6, k0]
end Go.Ai
