/- YtbepaingfmlpeaaBun12: part of the abstract interpreter library (values, rules, soundness against the model) or of what a function of the seat computes. Conditions: as each theorem says. -/
import Derived.Test.YtbepaingfmlpeaaBun11
set_option linter.unusedSimpArgs false
set_option linter.unusedVariables false
namespace Go.Ai
open Go.Proofs
theorem good_mem {m : Ms} : ∀ {a : List Ms}, GoodM a → m ∈ a → m.ks ≠ [] ∧ m.ks.length ≤ 8 ∧ ∀ k ∈ m.ks, k.g = m.g ∧ k.p = m.p
  | m0 :: a, ⟨q1, _, q5⟩, hm => by
    simp only [List.mem_cons] at hm
    rcases hm with rfl | hm
    · exact q1
    · exact good_mem q5 hm
theorem idxK_nodup : ∀ (l : List Ky) (i j : Nat) (h : i < l.length), l.Nodup → idxK l l[i] j = ((j + i : Nat) : Int)
  | x :: r, 0, j, _, _ => by simp [idxK]
  | x :: r, i + 1, j, h, hn => by
    have hn2 := List.nodup_cons.1 hn
    simp only [List.getElem_cons_succ, idxK]
    have hi : i < r.length := by simpa using h
    rw [if_neg (fun e => hn2.1 (by rw [← e]; exact List.getElem_mem hi)), idxK_nodup r i (j + 1) hi hn2.2]
    congr 1; omega
theorem rightGo_all (m : Ms) (h : ∀ i (hi : i < m.ks.length), okAt m i m.ks[i] = true) : ∀ (n i : Nat), m.ks.length - i ≤ n → rightGo m i (m.ks.drop i) = true
  | 0, i, hn => by rw [List.drop_eq_nil_of_le (by omega)]; rfl
  | n + 1, i, hn => by
    by_cases hi : i < m.ks.length
    · rw [List.drop_eq_getElem_cons hi]
      simp only [rightGo, h i hi, Bool.true_and]
      exact rightGo_all m h n (i + 1) (by omega)
    · rw [List.drop_eq_nil_of_le (by omega)]; rfl
def rightL (l : List Ky) (i : Nat) : Bool := (l.take i).all fun x => (l.count x == 1) && rightK x
theorem rightL_succ (l : List Ky) (i : Nat) (h : i < l.length) : rightL l (i + 1) = (rightL l i && ((l.count l[i] == 1) && rightK l[i])) := by
  unfold rightL
  rw [List.take_succ_eq_append_getElem h, List.all_append]
  simp
theorem right_msgs {l : List Ky} (h : rightL l l.length = true) : ∀ m ∈ grpAll l, rightM m = true := by
  intro m hm
  unfold rightL at h
  rw [List.take_length, List.all_eq_true] at h
  have hg : m.ks ≠ [] ∧ m.ks.length ≤ 8 ∧ ∀ k ∈ m.ks, k.g = m.g ∧ k.p = m.p := by
    unfold grpAll at hm
    rcases List.mem_append.1 hm with hm | hm
    · exact good_mem (grp_good l true) hm
    · exact good_mem (grp_good l false) hm
  obtain ⟨h1, h2, h3⟩ := hg
  have hcount : ∀ k ∈ m.ks, l.count k = 1 ∧ rightK k = true ∧ m.ks.count k ≤ 1 := by
    intro k hk
    have hle : m.ks.count k ≤ (keysOf (grpAll l)).count k := by
      obtain ⟨a, b, hab⟩ := List.append_of_mem hm
      rw [hab, keysOf_app, keysOf_cons]
      simp only [List.count_append]; omega
    rw [grpAll_count] at hle
    have hpos : 0 < m.ks.count k := List.count_pos_iff.2 hk
    have hmem : k ∈ l := List.count_pos_iff.1 (by omega)
    have := h k hmem
    simp only [Bool.and_eq_true, beq_iff_eq] at this
    exact ⟨this.1, this.2, by omega⟩
  have hnd : m.ks.Nodup := by
    rw [List.nodup_iff_count]
    intro k
    by_cases hk : k ∈ m.ks
    · exact (hcount k hk).2.2
    · rw [List.count_eq_zero_of_not_mem hk]; omega
  unfold rightM
  rw [decide_eq_true ⟨List.length_pos_iff.2 h1, h2⟩, Bool.true_and]
  refine rightGo_all m (fun i hi => ?_) m.ks.length 0 (by omega)
  have hmem := List.getElem_mem hi
  obtain ⟨_, hr, _⟩ := hcount _ hmem
  obtain ⟨g1, g2⟩ := h3 _ hmem
  unfold okAt
  rw [hr, g1, g2, idxK_nodup m.ks i 0 hi hnd]
  simp
theorem count_take_succ (l : List Ky) (x : Ky) (i : Nat) (h : i < l.length) : (l.take (i + 1)).count x = (l.take i).count x + (if l[i] = x then 1 else 0) := by
  rw [List.take_succ_eq_append_getElem h, List.count_append]
  congr 1
  by_cases e : l[i] = x
  · rw [if_pos e, e]; simp
  · rw [if_neg e]; exact List.count_eq_zero_of_not_mem (by simpa using fun h => e h.symm)
theorem count_take_le (l : List Ky) (x : Ky) (i : Nat) : (l.take i).count x ≤ i := by
  have := List.count_le_length (a := x) (l := l.take i)
  rw [List.length_take] at this; omega
set_option maxRecDepth 20000 in
theorem bundleGroups_spec (l : List Ky) : Sp Try.prog gl 4 [.sl (l.map Ky.row)] (.bool true) := by
  refine s4 rfl rfl ?_
  have H := heavyKs_spec l
  cases hh : heavyKs l with
  | true =>
    rw [hh] at H
    simp -implicitDefEqProofs [c4]
    refine onC_mk _ awake30_spec ?_
    simp -implicitDefEqProofs
    refine onC_mk _ H ?_
    simp -implicitDefEqProofs
  | false =>
    rw [hh] at H
    have hh2 := hh
    unfold heavyKs at hh2
    rw [Bool.or_eq_false_iff, decide_eq_false_iff_not, List.any_eq_false] at hh2
    obtain ⟨hl, hkeys⟩ := hh2
    have hkey : ∀ k ∈ l, k.g.length ≤ 900000 ∧ k.r.length ≤ 900000 := by
      intro k hk
      have := hkeys k hk
      unfold heavyK at this
      rw [decide_eq_true_eq] at this
      omega
    have kl := grpAll_keys l
    have gll := grpAll_len l
    have G := Group_spec l (by omega)
    have RG := rgroup_spec l (by omega)
    have Kk := Keys_spec (grpAll l) (by omega) (by omega)
    have S := same30_spec (grpAll l) (grpAll l) (by omega) (fun m hm => by have := ks_le _ m hm; omega)
    rw [decide_eq_true rfl] at S
    have RK := fun k hk => rkright_spec k (hkey k hk).1 (hkey k hk).2
    have hcnt := grpAll_count l
    have hrm := @right_msgs l
    have BR := fun m (hm : m ∈ grpAll l) => bright_spec m (fun k hk => by
      apply hkey
      have : k ∈ keysOf (grpAll l) := by
        unfold keysOf
        rw [List.mem_flatten]
        exact ⟨m.ks, List.mem_map.2 ⟨m, hm, rfl⟩, hk⟩
      have h1 : 0 < (keysOf (grpAll l)).count k := List.count_pos_iff.2 this
      rw [hcnt] at h1
      exact List.count_pos_iff.1 h1)
    have klb : ((l.length : Int) != (l.length : Int)) = false := by simp
    generalize keysOf (grpAll l) = al at *
    generalize grpAll l = g at *
    have hal : al.length = l.length := kl
    simp -implicitDefEqProofs [c4]
    refine onC_mk _ awake30_spec ?_
    simp -implicitDefEqProofs
    refine onC_mk _ H ?_
    simp -implicitDefEqProofs
    refine onC_mk _ G ?_
    simp -implicitDefEqProofs
    refine onC_mk _ RG ?_
    simp -implicitDefEqProofs
    refine onC_mk _ S ?_
    simp -implicitDefEqProofs
    refine onC_mk _ Kk ?_
    simp -implicitDefEqProofs [hal]
    refine wp_lpk (α := Nat) (fun i => ⟨[(0, .sl (l.map Ky.row)), (3, .sl (g.map Ms.row)), (4, .sl (al.map Ky.row)), (5, .bool (rightL l i)), (6, i6 i)], [], []⟩) (fun i => i ≤ l.length) (fun i => l.length - i) ?_ 0 ?_ ?_
    · rintro K i hK h1
      by_cases gi : i < l.length
      · have t1 : IntKind.i64.wrap ((i : Int) + 1) = (i + 1 : Nat) := by rw [wrap_i64] <;> omega
        have fin : ∀ σ', Weak σ' ⟨[(0, .sl (l.map Ky.row)), (3, .sl (g.map Ms.row)), (4, .sl (al.map Ky.row)), (5, .bool (rightL l (i + 1))), (6, i6 (i + 1 : Nat))], [], []⟩ → K σ' := fun σ' hσ => hK (i + 1) σ' (by omega) (by omega) hσ
        rw [rightL_succ l i gi] at fin
        have RKi := RK l[i] (List.getElem_mem gi)
        clear hK RK BR hrm G RG Kk S H hh hkeys hkey
        obtain ⟨x, hx⟩ : ∃ x, l[i] = x := ⟨_, rfl⟩
        rw [hx] at fin RKi
        generalize rightL l i = ri at *
        simp -implicitDefEqProofs [gi]
        refine wp_lpk (α := Nat) (fun k => ⟨[(0, .sl (l.map Ky.row)), (3, .sl (g.map Ms.row)), (4, .sl (al.map Ky.row)), (5, .bool ri), (6, i6 i), (7, i6 ((l.take k).count x : Nat)), (8, i6 ((al.take k).count x : Nat)), (9, i6 k)], [], []⟩) (fun k => k ≤ l.length) (fun k => l.length - k) ?_ 0 ?_ ?_
        · rintro K2 k hK2 h2
          by_cases gk : k < l.length
          · have gk2 : k < al.length := by omega
            have t2 : IntKind.i64.wrap ((k : Int) + 1) = (k + 1 : Nat) := by rw [wrap_i64] <;> omega
            have fin2 : ∀ σ', Weak σ' ⟨[(0, .sl (l.map Ky.row)), (3, .sl (g.map Ms.row)), (4, .sl (al.map Ky.row)), (5, .bool ri), (6, i6 i), (7, i6 ((l.take (k + 1)).count x : Nat)), (8, i6 ((al.take (k + 1)).count x : Nat)), (9, i6 (k + 1 : Nat))], [], []⟩ → K2 σ' := fun σ' hσ => hK2 (k + 1) σ' (by omega) (by omega) hσ
            rw [count_take_succ l x k gk, count_take_succ al x k gk2] at fin2
            have q1 := count_take_le l x k
            have q2 := count_take_le al x k
            have kb1 := ky_beq l[k] x
            have kb2 := ky_beq al[k] x
            generalize (l.take k).count x = n1 at *
            generalize (al.take k).count x = n2 at *
            have w1 : IntKind.i64.wrap ((n1 : Int) + 1) = (n1 + 1 : Nat) := by rw [wrap_i64] <;> omega
            have w2 : IntKind.i64.wrap ((n2 : Int) + 1) = (n2 + 1 : Nat) := by rw [wrap_i64] <;> omega
            clear hK2 fin RKi
            have gi' : i < l.length := gi
            simp -implicitDefEqProofs [gk, gk2, gi, hx, krow]
            refine onB_mk (fun e1 => ?_) (fun e1 => ?_)
            · rw [kb1, decide_eq_true_eq] at e1
              rw [if_pos e1] at fin2
              clear e1 kb1
              simp -implicitDefEqProofs [gk, gk2, gi, hx, krow]
              refine onB_mk (fun e2 => ?_) (fun e2 => ?_)
              · rw [kb2, decide_eq_true_eq] at e2
                rw [if_pos e2] at fin2
                clear e2 kb2
                simp -implicitDefEqProofs
                refine fin2 _ (weak_mk ?_ ?_ ?_ ?_ ?_ ?_) <;> simp -implicitDefEqProofs [t2, w1, w2]
              · rw [kb2, decide_eq_false_iff_not] at e2
                rw [if_neg e2, Nat.add_zero] at fin2
                clear e2 kb2
                simp -implicitDefEqProofs
                refine fin2 _ (weak_mk ?_ ?_ ?_ ?_ ?_ ?_) <;> simp -implicitDefEqProofs [t2, w1, w2]
            · rw [kb1, decide_eq_false_iff_not] at e1
              rw [if_neg e1, Nat.add_zero] at fin2
              clear e1 kb1
              simp -implicitDefEqProofs [gk, gk2, gi, hx, krow]
              refine onB_mk (fun e2 => ?_) (fun e2 => ?_)
              · rw [kb2, decide_eq_true_eq] at e2
                rw [if_pos e2] at fin2
                clear e2 kb2
                simp -implicitDefEqProofs
                refine fin2 _ (weak_mk ?_ ?_ ?_ ?_ ?_ ?_) <;> simp -implicitDefEqProofs [t2, w1, w2]
              · rw [kb2, decide_eq_false_iff_not] at e2
                rw [if_neg e2, Nat.add_zero] at fin2
                clear e2 kb2
                simp -implicitDefEqProofs
                refine fin2 _ (weak_mk ?_ ?_ ?_ ?_ ?_ ?_) <;> simp -implicitDefEqProofs [t2, w1, w2]
          · obtain rfl : k = l.length := by omega
            rw [List.take_length, List.take_of_length_le (show al.length ≤ l.length by omega), hcnt]
            have RKi' := RKi
            rw [krow] at RKi'
            clear hK2 RKi
            generalize l.count x = n at *
            have e1 : ((n : Int) == 1) = (n == 1) := by rw [Bool.eq_iff_iff]; simp; omega
            cases ri
            · simp only [Bool.false_and] at fin
              simp -implicitDefEqProofs
              refine fin _ (weak_mk ?_ ?_ ?_ ?_ ?_ ?_) <;> simp -implicitDefEqProofs [t1]
            · cases hn : (n == 1)
              · rw [hn] at fin e1
                simp only [Bool.false_and, Bool.and_false] at fin
                simp -implicitDefEqProofs [e1]
                refine fin _ (weak_mk ?_ ?_ ?_ ?_ ?_ ?_) <;> simp -implicitDefEqProofs [t1]
              · rw [hn] at fin e1
                simp only [Bool.true_and] at fin
                simp -implicitDefEqProofs [e1, gi, hx, krow]
                refine onC_mk _ RKi' ?_
                simp -implicitDefEqProofs
                refine fin _ (weak_mk ?_ ?_ ?_ ?_ ?_ ?_) <;> simp -implicitDefEqProofs [t1]
        · simp
        · refine weak_mk ?_ ?_ ?_ ?_ ?_ ?_ <;> simp -implicitDefEqProofs
      · obtain rfl : i = l.length := by omega
        clear hK
        have hrm2 := hrm
        generalize rightL l l.length = ri at *
        simp -implicitDefEqProofs
        refine wp_lpk (α := Nat) (fun j => ⟨[(3, .sl (g.map Ms.row)), (5, .bool ri), (10, i6 j)], [], []⟩) (fun j => j ≤ g.length) (fun j => g.length - j) ?_ 0 ?_ ?_
        · rintro K2 j hK2 h2
          by_cases gj : j < g.length
          · have t2 : IntKind.i64.wrap ((j : Int) + 1) = (j + 1 : Nat) := by rw [wrap_i64] <;> omega
            have fin2 : ∀ σ', Weak σ' ⟨[(3, .sl (g.map Ms.row)), (5, .bool ri), (10, i6 (j + 1 : Nat))], [], []⟩ → K2 σ' := fun σ' hσ => hK2 (j + 1) σ' (by omega) (by omega) hσ
            have BRj := BR _ (List.getElem_mem gj)
            rw [mrow] at BRj
            clear hK2 BR
            cases ri
            · simp -implicitDefEqProofs [gj]
              refine fin2 _ (weak_mk ?_ ?_ ?_ ?_ ?_ ?_) <;> simp -implicitDefEqProofs [t2]
            · rw [hrm rfl _ (List.getElem_mem gj)] at BRj
              simp -implicitDefEqProofs [gj, mrow]
              refine onC_mk _ BRj ?_
              simp -implicitDefEqProofs
              refine fin2 _ (weak_mk ?_ ?_ ?_ ?_ ?_ ?_) <;> simp -implicitDefEqProofs [t2]
          · obtain rfl : j = g.length := by omega
            clear hK2 BR
            simp -implicitDefEqProofs
        · simp
        · refine weak_mk ?_ ?_ ?_ ?_ ?_ ?_ <;> simp -implicitDefEqProofs
    · simp
    · refine weak_mk ?_ ?_ ?_ ?_ ?_ ?_ <;> simp -implicitDefEqProofs [rightL]
end Go.Ai
