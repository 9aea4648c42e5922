/- YtbepaingfmlpeaaBun8: part of the abstract interpreter library (values, rules, soundness against the model) or of what a function of the seat computes. Conditions: as each theorem says. -/
import Derived.Test.YtbepaingfmlpeaaBun7
import Derived.Test.YtbepaingfmlpeaaName5
set_option linter.unusedSimpArgs false
set_option linter.unusedVariables false
namespace Go.Ai
open Go.Proofs
/-! ### The document's grouping, no program in sight -/
def sameK (a b : Ky) : Bool := a.g == b.g && a.p == b.p
theorem sameK_iff {a b : Ky} : sameK a b = true ↔ a.g = b.g ∧ a.p = b.p := by simp [sameK]
def aheadN (l : List Ky) (i : Nat) (k : Ky) : Nat := (l.take i).countP fun x => sameK x k
def refMsg (l : List Ky) (i : Nat) (k : Ky) : Ms := ⟨k.g, k.p, ((l.drop i).filter fun x => sameK x k).take 8⟩
def refOne (l : List Ky) (pg : Bool) (i : Nat) (k : Ky) : List Ms := if k.p = pg ∧ aheadN l i k % 8 = 0 then [refMsg l i k] else []
/-- From a place on. -/
def refFrom (l : List Ky) (pg : Bool) : Nat → List Ky → List Ms
  | _, [] => []
  | i, k :: r => refOne l pg i k ++ refFrom l pg (i + 1) r
def refGrp (l : List Ky) (pg : Bool) : List Ms := refFrom l pg 0 l
def upd (k : Ky) (m : Ms) : Ms := if goes m k = true then { m with ks := m.ks ++ [k] } else m
theorem refMsg_snoc (l : List Ky) (k x : Ky) (i : Nat) (h : i ≤ l.length) : refMsg (l ++ [k]) i x = upd k (refMsg l i x) := by
  unfold refMsg upd
  rw [List.drop_append_of_le_length h, List.filter_append]
  generalize (l.drop i).filter (fun y => sameK y x) = A
  by_cases hs : sameK k x = true
  · have e1 : List.filter (fun y => sameK y x) [k] = [k] := by simp [hs]
    rw [e1]
    obtain ⟨g1, g2⟩ := sameK_iff.1 hs
    by_cases hA : A.length < 8
    · rw [if_pos (goes_iff.2 ⟨g1.symm, g2.symm, by simp only [List.length_take]; omega⟩)]
      simp only
      rw [List.take_of_length_le (by simp; omega), List.take_of_length_le (by omega)]
    · rw [if_neg (fun h => by have := (goes_iff.1 h).2.2; simp only [List.length_take] at this; omega)]
      rw [List.take_append_of_le_length (by omega)]
  · have e1 : List.filter (fun y => sameK y x) [k] = [] := by simp [hs]
    rw [e1, List.append_nil]
    rw [if_neg]
    intro h
    obtain ⟨g1, g2, _⟩ := goes_iff.1 h
    exact hs (sameK_iff.2 ⟨g1.symm, g2.symm⟩)
theorem aheadN_snoc (l : List Ky) (k x : Ky) (i : Nat) (h : i ≤ l.length) : aheadN (l ++ [k]) i x = aheadN l i x := by
  unfold aheadN
  rw [List.take_append_of_le_length h]
theorem refFrom_snoc (l : List Ky) (k : Ky) (pg : Bool) : ∀ (r : List Ky) (i : Nat), i + r.length ≤ l.length → refFrom (l ++ [k]) pg i r = (refFrom l pg i r).map (upd k)
  | [], i, _ => rfl
  | x :: r, i, h => by
    simp only [List.length_cons] at h
    simp only [refFrom, List.map_append]
    rw [refFrom_snoc l k pg r (i + 1) (by omega)]
    congr 1
    unfold refOne
    rw [aheadN_snoc l k x i (by omega), refMsg_snoc l k x i (by omega)]
    split <;> rfl
theorem refFrom_app (l : List Ky) (pg : Bool) : ∀ (a b : List Ky) (i : Nat), refFrom l pg i (a ++ b) = refFrom l pg i a ++ refFrom l pg (i + a.length) b
  | [], b, i => by simp [refFrom]
  | x :: a, b, i => by
    simp only [List.cons_append, refFrom, List.length_cons]
    rw [refFrom_app l pg a b (i + 1), List.append_assoc, show i + 1 + a.length = i + (a.length + 1) by omega]
/-- Keys of a goal and a severity in messages. -/
def cntM : List Ms → Ky → Nat
  | [], _ => 0
  | m :: r, k => (if m.g = k.g ∧ m.p = k.p then m.ks.length else 0) + cntM r k
theorem cntM_add (k x : Ky) : ∀ (l : List Ms), cntM (addK l x) k = cntM l k + (if sameK x k = true then 1 else 0)
  | [] => by
    simp only [addK, cntM, List.length_cons, List.length_nil]
    by_cases h : sameK x k = true
    · rw [if_pos (sameK_iff.1 h), if_pos h]
    · rw [if_neg (fun e => h (sameK_iff.2 e)), if_neg h]
  | m :: r => by
    simp only [addK]
    split
    · rename_i hg
      obtain ⟨g1, g2, g3⟩ := goes_iff.1 hg
      simp only [cntM, List.length_append, List.length_cons, List.length_nil]
      by_cases h : sameK x k = true
      · obtain ⟨s1, s2⟩ := sameK_iff.1 h
        rw [if_pos ⟨g1.trans s1, g2.trans s2⟩, if_pos ⟨g1.trans s1, g2.trans s2⟩, if_pos h]; omega
      · have hn : ¬ (m.g = k.g ∧ m.p = k.p) := fun e => h (sameK_iff.2 ⟨g1.symm.trans e.1, g2.symm.trans e.2⟩)
        rw [if_neg hn, if_neg hn, if_neg h]; omega
    · simp only [cntM, cntM_add k x r]; omega
theorem cntM_fold (k : Ky) : ∀ (r : List Ky) (a : List Ms), cntM (r.foldl addK a) k = cntM a k + r.countP fun x => sameK x k
  | [], a => by simp
  | x :: r, a => by
    simp only [List.foldl_cons]
    rw [cntM_fold k r, cntM_add, List.countP_cons]; omega
theorem cntM_grp (l : List Ky) (pg : Bool) (k : Ky) (hk : k.p = pg) : cntM (grp l pg) k = l.countP fun x => sameK x k := by
  unfold grp
  rw [cntM_fold]
  simp only [cntM, Nat.zero_add]
  rw [List.countP_filter]
  apply List.countP_congr
  intro x _
  simp only [Bool.and_eq_true, beq_iff_eq]
  constructor
  · exact fun h => h.1
  · intro h; exact ⟨h, (sameK_iff.1 h).2.trans hk⟩
theorem none_mod {k : Ky} : ∀ {l : List Ms}, GoodM l → (∀ m ∈ l, goes m k = false) → cntM l k % 8 = 0
  | [], _, _ => rfl
  | m :: r, ⟨⟨_, h2, _⟩, _, h5⟩, hn => by
    have ih := none_mod h5 (fun m' hm => hn m' (by simp [hm]))
    simp only [cntM]
    split
    · rename_i hs
      have : ¬ m.ks.length < 8 := fun h => by
        have := hn m (by simp)
        rw [goes_iff.2 ⟨hs.1, hs.2, h⟩] at this; cases this
      omega
    · omega
theorem later_none {k : Ky} {r : List Ms} (h : ∀ m' ∈ r, ¬ (m'.g = k.g ∧ m'.p = k.p)) : cntM r k = 0 ∧ (∀ m' ∈ r, goes m' k = false) := by
  constructor
  · induction r with
    | nil => rfl
    | cons m r ih =>
      simp only [cntM]
      rw [if_neg (h m (by simp)), ih (fun m' hm => h m' (by simp [hm]))]
  · intro m' hm
    rw [Bool.eq_false_iff]; intro hg
    obtain ⟨g1, g2, _⟩ := goes_iff.1 hg
    exact h m' hm ⟨g1, g2⟩
/-- One more key: all messages told again, or a new one. -/
theorem add_map {k : Ky} : ∀ {l : List Ms}, GoodM l → addK l k = l.map (upd k) ++ (if cntM l k % 8 = 0 then [⟨k.g, k.p, [k]⟩] else [])
  | [], _ => rfl
  | m :: r, ⟨⟨h1, h2, h3⟩, h4, h5⟩ => by
    have ec : cntM (m :: r) k = (if m.g = k.g ∧ m.p = k.p then m.ks.length else 0) + cntM r k := rfl
    simp only [addK, List.map_cons]
    by_cases hg : goes m k = true
    · obtain ⟨g1, g2, g3⟩ := goes_iff.1 hg
      have hl := h4 g3
      obtain ⟨c0, n0⟩ := later_none (k := k) (r := r) (fun m' hm e => hl m' hm ⟨g1.trans e.1.symm, g2.trans e.2.symm⟩)
      have hr : r.map (upd k) = r := by
        conv => rhs; rw [← List.map_id r]
        apply List.map_congr_left
        intro m' hm
        unfold upd
        rw [n0 m' hm]; rfl
      have hpos := List.length_pos_iff.2 h1
      rw [c0, if_pos ⟨g1, g2⟩] at ec
      rw [if_pos hg, if_neg (show ¬ cntM (m :: r) k % 8 = 0 by omega), hr]
      unfold upd
      rw [if_pos hg]; simp
    · have hu : upd k m = m := by unfold upd; rw [if_neg hg]
      have hc : cntM (m :: r) k % 8 = cntM r k % 8 := by
        by_cases hs : m.g = k.g ∧ m.p = k.p
        · rw [if_pos hs] at ec
          have : ¬ m.ks.length < 8 := fun h => hg (goes_iff.2 ⟨hs.1, hs.2, h⟩)
          omega
        · rw [if_neg hs] at ec
          omega
      rw [if_neg hg, add_map h5, hu]
      simp only [List.cons_append]
      by_cases hz : cntM r k % 8 = 0
      · rw [if_pos hz, if_pos (by omega)]
      · rw [if_neg hz, if_neg (by omega)]
theorem refGrp_eq (pg : Bool) : ∀ (n : Nat) (l : List Ky), l.length = n → refGrp l pg = grp l pg
  | 0, l, h => by
    have : l = [] := List.length_eq_zero_iff.1 h
    subst this; rfl
  | n + 1, l, h => by
    have hne : l ≠ [] := by intro e; rw [e] at h; simp at h
    obtain ⟨l', k, rfl⟩ : ∃ l' k, l = l' ++ [k] := ⟨l.dropLast, l.getLast hne, (List.dropLast_concat_getLast hne).symm⟩
    have hl : l'.length = n := by simp at h; omega
    have ih := refGrp_eq pg n l' hl
    unfold refGrp at ih ⊢
    rw [refFrom_app, refFrom_snoc l' k pg l' 0 (by omega), ih, Nat.zero_add]
    have e2 : grp (l' ++ [k]) pg = if k.p = pg then addK (grp l' pg) k else grp l' pg := by
      have := grp_snoc (l' ++ [k]) l'.length (by simp) pg
      rw [List.take_of_length_le (by simp)] at this
      simpa using this
    rw [e2]
    simp only [refFrom, List.append_nil]
    have ha : aheadN (l' ++ [k]) l'.length k = l'.countP fun x => sameK x k := by
      unfold aheadN
      rw [List.take_append_of_le_length (by omega), List.take_length]
    have hm : refMsg (l' ++ [k]) l'.length k = ⟨k.g, k.p, [k]⟩ := by
      unfold refMsg
      rw [List.drop_append_of_le_length (by omega), List.drop_length]
      have : sameK k k = true := sameK_iff.2 ⟨rfl, rfl⟩
      simp [this]
    unfold refOne
    rw [ha, hm]
    by_cases hp : k.p = pg
    · rw [if_pos hp, add_map (grp_good l' pg), cntM_grp l' pg k hp]
      congr 1
      by_cases hz : (l'.countP fun x => sameK x k) % 8 = 0
      · rw [if_pos ⟨hp, hz⟩, if_pos hz]
      · rw [if_neg (fun e => hz e.2), if_neg hz]
    · rw [if_neg hp, if_neg (fun e => hp e.1), List.append_nil]
      conv => rhs; rw [← List.map_id (grp l' pg)]
      apply List.map_congr_left
      intro m hm
      unfold upd
      rw [if_neg]
      · rfl
      · intro hg
        obtain ⟨g1, g2, _⟩ := goes_iff.1 hg
        have hgm := grp_good l' pg
        have : m.p = pg := by
          have hne : m.ks ≠ [] ∧ ∀ k ∈ m.ks, k.g = m.g ∧ k.p = m.p := by
            have : ∀ (a : List Ms), GoodM a → m ∈ a → m.ks ≠ [] ∧ ∀ k ∈ m.ks, k.g = m.g ∧ k.p = m.p := by
              intro a
              induction a with
              | nil => intro _ h; simp at h
              | cons m0 a ih =>
                intro h hm
                obtain ⟨⟨q1, _, q3⟩, _, q5⟩ := h
                simp only [List.mem_cons] at hm
                rcases hm with rfl | hm
                · exact ⟨q1, q3⟩
                · exact ih q5 hm
            exact this _ hgm hm
          obtain ⟨h1, h2⟩ := hne
          obtain ⟨k0, r0, hk0⟩ := List.exists_cons_of_ne_nil h1
          have hmem : k0 ∈ keysOf (grp l' pg) := by
            unfold keysOf
            rw [List.mem_flatten]
            exact ⟨m.ks, List.mem_map.2 ⟨m, hm, rfl⟩, by rw [hk0]; simp⟩
          have := grp_p l' pg k0 hmem
          rw [← (h2 k0 (by rw [hk0]; simp)).2]; exact this
        exact hp (g2.symm.trans this)
/-- No key is lost, none is told twice. -/
theorem addK_count (x k : Ky) : ∀ (l : List Ms), (keysOf (addK l k)).count x = (keysOf l).count x + [k].count x
  | [] => by simp [addK, keysOf]
  | m :: r => by
    simp only [addK]
    split
    · simp only [keysOf_cons, List.count_append]; omega
    · simp only [keysOf_cons, List.count_append, addK_count x k r]; omega
theorem fold_count (x : Ky) : ∀ (r : List Ky) (a : List Ms), (keysOf (r.foldl addK a)).count x = (keysOf a).count x + r.count x
  | [], a => by simp
  | k :: r, a => by
    simp only [List.foldl_cons]
    rw [fold_count x r, addK_count]
    have : (k :: r).count x = [k].count x + r.count x := by rw [← List.count_append]; rfl
    omega
theorem grpAll_count (l : List Ky) (x : Ky) : (keysOf (grpAll l)).count x = l.count x := by
  unfold grpAll grp
  rw [keysOf_app, List.count_append, fold_count, fold_count]
  simp only [keysOf, List.map_nil, List.flatten_nil, List.count_nil, Nat.zero_add]
  induction l with
  | nil => rfl
  | cons k r ih =>
    have e : (k :: r).count x = [k].count x + r.count x := by rw [← List.count_append]; rfl
    rw [e, ← ih]
    have e2 : ∀ (s : List Ky), (k :: s).count x = [k].count x + s.count x := fun s => by rw [← List.count_append]; rfl
    cases hp : k.p
    · rw [List.filter_cons_of_neg (by simp [hp]), List.filter_cons_of_pos (by simp [hp]), e2]; omega
    · rw [List.filter_cons_of_pos (by simp [hp]), List.filter_cons_of_neg (by simp [hp]), e2]; omega
end Go.Ai
