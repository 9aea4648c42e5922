/- YtbepaingfmlpeaaBun7: part of the abstract interpreter library (values, rules, soundness against the model) or of what a function of the seat computes. Conditions: as each theorem says. -/
import Derived.Test.YtbepaingfmlpeaaBun6
set_option linter.unusedSimpArgs false
set_option linter.unusedVariables false
namespace Go.Ai
open Go.Proofs
/-! ### What grouping keeps, no program in sight -/
theorem keysOf_app (a b : List Ms) : keysOf (a ++ b) = keysOf a ++ keysOf b := by simp [keysOf]
theorem keysOf_cons (m : Ms) (r : List Ms) : keysOf (m :: r) = m.ks ++ keysOf r := by simp [keysOf]
theorem addK_keys (k : Ky) : ∀ (l : List Ms), (keysOf (addK l k)).length = (keysOf l).length + 1
  | [] => rfl
  | m :: r => by
    simp only [addK]
    split
    · simp only [keysOf_cons, List.length_append, List.length_cons, List.length_nil]; omega
    · simp only [keysOf_cons, List.length_append, addK_keys k r]; omega
theorem fold_keys : ∀ (r : List Ky) (a : List Ms), (keysOf (r.foldl addK a)).length = (keysOf a).length + r.length
  | [], a => by simp
  | k :: r, a => by simp only [List.foldl_cons, List.length_cons, fold_keys r, addK_keys]; omega
theorem grp_keys (l : List Ky) (pg : Bool) : (keysOf (grp l pg)).length = (l.filter fun k => k.p == pg).length := by
  unfold grp
  rw [fold_keys]; simp [keysOf]
theorem two_filters : ∀ (l : List Ky), (l.filter fun k => k.p == true).length + (l.filter fun k => k.p == false).length = l.length
  | [] => rfl
  | k :: r => by
    have := two_filters r
    cases h : k.p <;> simp [h] at this ⊢ <;> omega
theorem grpAll_keys (l : List Ky) : (keysOf (grpAll l)).length = l.length := by
  unfold grpAll
  rw [keysOf_app, List.length_append, grp_keys, grp_keys, two_filters]
/-- Only the last message of a goal and a severity may have room; each has a key, all are its own. -/
def GoodM : List Ms → Prop
  | [] => True
  | m :: r => (m.ks ≠ [] ∧ m.ks.length ≤ 8 ∧ ∀ k ∈ m.ks, k.g = m.g ∧ k.p = m.p) ∧ (m.ks.length < 8 → ∀ m' ∈ r, ¬ (m.g = m'.g ∧ m.p = m'.p)) ∧ GoodM r
theorem goes_iff {m : Ms} {k : Ky} : goes m k = true ↔ m.g = k.g ∧ m.p = k.p ∧ m.ks.length < 8 := by simp [goes, and_assoc]
theorem addK_mem {k : Ky} : ∀ {l : List Ms} {m' : Ms}, m' ∈ addK l k → (∃ m ∈ l, m.g = m'.g ∧ m.p = m'.p) ∨ (m'.g = k.g ∧ m'.p = k.p)
  | [], m', h => by simp only [addK, List.mem_singleton] at h; subst h; exact .inr ⟨rfl, rfl⟩
  | m :: r, m', h => by
    simp only [addK] at h
    split at h
    · simp only [List.mem_cons] at h
      rcases h with rfl | h
      · exact .inl ⟨m, by simp, rfl, rfl⟩
      · exact .inl ⟨m', by simp [h], rfl, rfl⟩
    · simp only [List.mem_cons] at h
      rcases h with rfl | h
      · exact .inl ⟨m', by simp, rfl, rfl⟩
      · rcases addK_mem h with ⟨m0, h0, h1⟩ | h0
        · exact .inl ⟨m0, by simp [h0], h1⟩
        · exact .inr h0
theorem addK_good (k : Ky) : ∀ {l : List Ms}, GoodM l → GoodM (addK l k)
  | [], _ => by
    refine ⟨⟨by simp, by simp, ?_⟩, by simp, trivial⟩
    intro k' hk; simp only [List.mem_singleton] at hk; subst hk; exact ⟨rfl, rfl⟩
  | m :: r, h => by
    obtain ⟨⟨h1, h2, h3⟩, h4, h5⟩ := h
    simp only [addK]
    split
    · rename_i hg
      obtain ⟨g1, g2, g3⟩ := goes_iff.1 hg
      refine ⟨⟨by simp, by simp; omega, ?_⟩, fun _ => h4 g3, h5⟩
      intro k' hk
      simp only [List.mem_append, List.mem_singleton] at hk
      rcases hk with hk | rfl
      · exact h3 k' hk
      · exact ⟨g1.symm, g2.symm⟩
    · rename_i hg
      refine ⟨⟨h1, h2, h3⟩, ?_, addK_good k h5⟩
      intro hlt m' hm ⟨e1, e2⟩
      rcases addK_mem hm with ⟨m0, h0, e3, e4⟩ | ⟨e3, e4⟩
      · exact h4 hlt m0 h0 ⟨e1.trans e3.symm, e2.trans e4.symm⟩
      · exact hg (goes_iff.2 ⟨e1.trans e3, e2.trans e4, hlt⟩)
theorem grp_good (l : List Ky) (pg : Bool) : GoodM (grp l pg) := by
  have : ∀ (r : List Ky) (a : List Ms), GoodM a → GoodM (r.foldl addK a) := by
    intro r
    induction r with
    | nil => intro a h; exact h
    | cons k r ih => intro a h; exact ih _ (addK_good k h)
  exact this _ _ trivial
theorem addK_app {k : Ky} {m : Ms} : ∀ {acc : List Ms}, (∀ m0 ∈ acc, goes m0 k = false) → goes m k = true → addK (acc ++ [m]) k = acc ++ [{ m with ks := m.ks ++ [k] }]
  | [], _, h => by simp only [List.nil_append, addK, if_pos h]
  | m0 :: r, h0, h => by
    simp only [List.cons_append, addK]
    rw [if_neg (by rw [h0 m0 (by simp)]; simp), addK_app (fun m1 h1 => h0 m1 (by simp [h1])) h]
/-- Some of a message's keys are in, the others come. -/
theorem fold_msg {acc : List Ms} {g : List UInt8} {p : Bool} : ∀ (r pre : List Ky), pre ≠ [] → (pre ++ r).length ≤ 8 → (∀ k ∈ r, k.g = g ∧ k.p = p) → (∀ m0 ∈ acc, ∀ k ∈ r, goes m0 k = false) →
    r.foldl addK (acc ++ [⟨g, p, pre⟩]) = acc ++ [⟨g, p, pre ++ r⟩]
  | [], pre, _, _, _, _ => by simp
  | k :: r, pre, h1, h2, h3, h4 => by
    simp only [List.foldl_cons]
    have hk := h3 k (by simp)
    rw [addK_app (fun m0 h0 => h4 m0 h0 k (by simp)) (goes_iff.2 ⟨hk.1.symm, hk.2.symm, by simp at h2 ⊢; omega⟩)]
    rw [fold_msg r (pre ++ [k]) (by simp) (by simpa using h2) (fun k' hk' => h3 k' (by simp [hk'])) (fun m0 h0 k' hk' => h4 m0 h0 k' (by simp [hk']))]
    simp
theorem good_app : ∀ {a b : List Ms}, GoodM (a ++ b) → (∀ m ∈ a, m.ks.length < 8 → ∀ m' ∈ b, ¬ (m.g = m'.g ∧ m.p = m'.p)) ∧ GoodM b
  | [], b, h => ⟨by simp, h⟩
  | m :: a, b, h => by
    obtain ⟨_, h4, h5⟩ := h
    obtain ⟨h6, h7⟩ := good_app h5
    refine ⟨?_, h7⟩
    intro m0 h0 hlt m' hm
    simp only [List.mem_cons] at h0
    rcases h0 with rfl | h0
    · exact h4 hlt m' (by simp [hm])
    · exact h6 m0 h0 hlt m' hm
theorem fold_good : ∀ (b acc : List Ms), GoodM (acc ++ b) → (keysOf b).foldl addK acc = acc ++ b
  | [], acc, _ => by simp [keysOf]
  | m :: b, acc, h => by
    obtain ⟨h1, ⟨h2, h3, h4⟩, h5, h6⟩ := good_app h
    rw [keysOf_cons, List.foldl_append]
    have hno : ∀ m0 ∈ acc, ∀ k ∈ m.ks, goes m0 k = false := by
      intro m0 h0 k hk
      rw [Bool.eq_false_iff]
      intro hg
      obtain ⟨g1, g2, g3⟩ := goes_iff.1 hg
      obtain ⟨k1, k2⟩ := h4 k hk
      exact h1 m0 h0 g3 m (by simp) ⟨g1.trans k1, g2.trans k2⟩
    have hm : m.ks.foldl addK acc = acc ++ [m] := by
      obtain ⟨g, p, ks⟩ := m
      cases ks with
      | nil => exact absurd rfl h2
      | cons k r =>
        obtain ⟨k1, k2⟩ := h4 k (by simp)
        simp only at k1 k2
        simp only [List.foldl_cons]
        rw [addK_none (fun m0 h0 => hno m0 h0 k (by simp)), k1, k2]
        exact fold_msg r [k] (by simp) (by simpa using h3) (fun k' hk' => h4 k' (by simp [hk'])) (fun m0 h0 k' hk' => hno m0 h0 k' (by simp [hk']))
    rw [hm, fold_good b (acc ++ [m]) (by simpa using h)]
    simp
theorem addK_p {k : Ky} {pg : Bool} (hk : k.p = pg) : ∀ {l : List Ms}, (∀ k' ∈ keysOf l, k'.p = pg) → ∀ k' ∈ keysOf (addK l k), k'.p = pg
  | [], _, k', h => by simp [addK, keysOf] at h; subst h; exact hk
  | m :: r, h0, k', h => by
    simp only [keysOf_cons, List.mem_append] at h0
    simp only [addK] at h
    split at h
    · simp only [keysOf_cons, List.mem_append, List.mem_singleton] at h
      rcases h with (h | rfl) | h
      · exact h0 k' (.inl h)
      · exact hk
      · exact h0 k' (.inr h)
    · simp only [keysOf_cons, List.mem_append] at h
      rcases h with h | h
      · exact h0 k' (.inl h)
      · exact addK_p hk (fun k1 h1 => h0 k1 (.inr h1)) k' h
theorem grp_p (l : List Ky) (pg : Bool) : ∀ k ∈ keysOf (grp l pg), k.p = pg := by
  have : ∀ (r : List Ky) (a : List Ms), (∀ k ∈ r, k.p = pg) → (∀ k ∈ keysOf a, k.p = pg) → ∀ k ∈ keysOf (r.foldl addK a), k.p = pg := by
    intro r
    induction r with
    | nil => intro a _ h; exact h
    | cons k r ih => intro a h1 h2; exact ih _ (fun k' hk' => h1 k' (by simp [hk'])) (addK_p (h1 k (by simp)) h2)
  refine this _ _ ?_ (by simp [keysOf])
  intro k hk
  simpa using (List.mem_filter.1 hk).2
theorem filter_all {l : List Ky} {pg : Bool} (h : ∀ k ∈ l, k.p = pg) : (l.filter fun k => k.p == pg) = l := List.filter_eq_self.2 (fun k hk => by simp [h k hk])
theorem filter_none {l : List Ky} {pg : Bool} (h : ∀ k ∈ l, k.p = !pg) : (l.filter fun k => k.p == pg) = [] := List.filter_eq_nil_iff.2 (fun k hk => by rw [h k hk]; cases pg <;> simp)
/-- Grouped again they are the same. -/
theorem grp_again (l : List Ky) : grpAll (keysOf (grpAll l)) = grpAll l := by
  have h1 : grp (keysOf (grpAll l)) true = grp l true := by
    have e : grp (keysOf (grpAll l)) true = ((keysOf (grpAll l)).filter fun k => k.p == true).foldl addK [] := rfl
    rw [e]
    unfold grpAll
    rw [keysOf_app, List.filter_append, filter_all (grp_p l true), filter_none (pg := true) (by simpa using grp_p l false), List.append_nil]
    simpa using fold_good (grp l true) [] (by simpa using grp_good l true)
  have h2 : grp (keysOf (grpAll l)) false = grp l false := by
    have e : grp (keysOf (grpAll l)) false = ((keysOf (grpAll l)).filter fun k => k.p == false).foldl addK [] := rfl
    rw [e]
    unfold grpAll
    rw [keysOf_app, List.filter_append, filter_all (grp_p l false), filter_none (pg := false) (by simpa using grp_p l true), List.nil_append]
    simpa using fold_good (grp l false) [] (by simpa using grp_good l false)
  have e : ∀ x, grpAll x = grp x true ++ grp x false := fun _ => rfl
  rw [e (keysOf (grpAll l)), h1, h2]; rfl
theorem ks_le (l : List Ms) : ∀ m ∈ l, m.ks.length ≤ (keysOf l).length := by
  intro m hm
  obtain ⟨a, b, rfl⟩ := List.append_of_mem hm
  rw [keysOf_app, keysOf_cons]
  simp only [List.length_append]; omega
theorem grpAll_len (l : List Ky) : (grpAll l).length ≤ 2 * l.length := by
  unfold grpAll
  have := grp_len l true
  have := grp_len l false
  rw [List.length_append]; omega
set_option maxRecDepth 20000 in
theorem bundleAgain_spec (l : List Ky) : Sp Try.prog gl 3 [.sl (l.map Ky.row)] (.bool true) := by
  refine s3 rfl rfl ?_
  have H := heavyKs_spec l
  cases hh : heavyKs l with
  | true =>
    rw [hh] at H
    simp -implicitDefEqProofs [c3]
    refine onC_mk _ awake30_spec ?_
    simp -implicitDefEqProofs
    refine onC_mk _ H ?_
    simp -implicitDefEqProofs
  | false =>
    rw [hh] at H
    have hl : l.length ≤ 100 := by
      unfold heavyKs at hh
      simp only [Bool.or_eq_false_iff, decide_eq_false_iff_not] at hh
      omega
    have kl := grpAll_keys l
    have gl' := grpAll_len l
    have G := Group_spec l (by omega)
    have Kk := Keys_spec (grpAll l) (by omega) (by omega)
    have G2 := Group_spec (keysOf (grpAll l)) (by omega)
    rw [grp_again] at G2
    have S := same30_spec (grpAll l) (grpAll l) (by omega) (fun m hm => by have := ks_le _ m hm; omega)
    rw [decide_eq_true rfl] at S
    have hk : ((keysOf (grpAll l)).map Ky.row).length = l.length := by rw [List.length_map, kl]
    have hlm : (l.map Ky.row).length = l.length := List.length_map ..
    generalize l.map Ky.row = L at *
    generalize (keysOf (grpAll l)).map Ky.row = L2 at *
    generalize (grpAll l).map Ms.row = M at *
    clear kl gl'
    simp -implicitDefEqProofs [c3]
    refine onC_mk _ awake30_spec ?_
    simp -implicitDefEqProofs
    refine onC_mk _ H ?_
    simp -implicitDefEqProofs
    refine onC_mk _ G ?_
    simp -implicitDefEqProofs
    refine onC_mk _ Kk ?_
    simp -implicitDefEqProofs
    refine onC_mk _ G2 ?_
    simp -implicitDefEqProofs
    refine onC_mk _ S ?_
    simp -implicitDefEqProofs
    refine onC_mk _ Kk ?_
    simp -implicitDefEqProofs [hk, hlm]
end Go.Ai
