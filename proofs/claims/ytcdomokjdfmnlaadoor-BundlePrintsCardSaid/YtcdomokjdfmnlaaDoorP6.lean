/- YtcdomokjdfmnlaaDoorP6: part of the abstract interpreter library (values, rules, soundness against the model) or of what a function of the seat computes. Conditions: as each theorem says. -/
import Derived.Test.YtcdomokjdfmnlaaDoorP5
import Derived.Test.YtcdomokjdfmnlaaDoorP4
set_option linter.unusedSimpArgs false
set_option linter.unusedVariables false
namespace Go.Ai
open Go.Proofs
theorem mrows_len (l : List Ms) : ∀ r ∈ l.map Ms.row, r.length = 3 := by
  intro r hr
  obtain ⟨m, _, rfl⟩ := List.mem_map.1 hr
  rfl
theorem krows_len (l : List Ky) : ∀ r ∈ l.map Ky.row, r.length = 5 := by
  intro r hr
  obtain ⟨m, _, rfl⟩ := List.mem_map.1 hr
  rfl
theorem Group_spec (l : List Ky) (hn : l.length ≤ 100000) : Sp Tryd.prog gl 68 [.sl (l.map Ky.row)] (.sl ((grpAll l).map Ms.row)) := by
  refine s68 rfl rfl ?_
  have hlim : lim = 140737488355328 := rfl
  have A := fun d => group_spec l true hn d
  have B := Sp.of_h (fun d => (group_spec l false hn d).noPm)
  have la := grp_len l true
  have lb := grp_len l false
  have ra := mrows_len (grp l true)
  have rb := mrows_len (grp l false)
  have e : (grpAll l).map Ms.row = (grp l true).map Ms.row ++ (grp l false).map Ms.row := by unfold grpAll; rw [List.map_append]
  rw [e]
  have ha : ((grp l true).map Ms.row).length = (grp l true).length := List.length_map ..
  have hb : ((grp l false).map Ms.row).length = (grp l false).length := List.length_map ..
  generalize (grp l true).map Ms.row = RA at *
  generalize (grp l false).map Ms.row = RB at *
  generalize l.map Ky.row = L at *
  have hw : (RA.length + RB.length) * 48 ≤ 140737488355328 := by omega
  simp -implicitDefEqProofs [c68]
  refine Exists.intro 3 (Exists.intro RA ⟨?_, ?_⟩)
  · simp -implicitDefEqProofs [caS]
    exact A
  · simp -implicitDefEqProofs [caSt]
    refine onC_mk _ B ?_
    simp -implicitDefEqProofs [hlim]
    exact ⟨hw, ra, rb⟩
theorem keysOf_take (l : List Ms) (i : Nat) (h : i < l.length) : keysOf (l.take (i + 1)) = keysOf (l.take i) ++ l[i].ks := by
  unfold keysOf
  rw [List.take_succ_eq_append_getElem h, List.map_append, List.flatten_append]; simp
theorem mrow (m : Ms) : m.row = [.str m.g, .bool m.p, .sl (m.ks.map Ky.row)] := rfl
theorem mrows_at (l : List Ms) (i : Nat) (h : i < l.length) : (l.map Ms.row)[i]? = some l[i].row := by
  rw [List.getElem?_map, List.getElem?_eq_getElem h]; rfl
theorem keysOf_le (l : List Ms) (i : Nat) : (keysOf (l.take i)).length ≤ (keysOf l).length := by
  have : keysOf l = keysOf (l.take i) ++ keysOf (l.drop i) := by
    unfold keysOf
    rw [← List.flatten_append, ← List.map_append, List.take_append_drop]
  rw [this, List.length_append]; omega
def heavyKs (l : List Ky) : Bool := decide (100 < l.length) || l.any heavyK
set_option maxRecDepth 20000 in
theorem heavyKs_spec (l : List Ky) : Sp Tryd.prog gl 32 [.sl (l.map Ky.row)] (.bool (heavyKs l)) := by
  refine s32 rfl rfl ?_
  have hany := fun i (h : i < l.length) => (show heavyK l[i] = true → heavyKs l = true from fun hh => by
    unfold heavyKs
    rw [Bool.or_eq_true]; right
    exact List.any_eq_true.2 ⟨_, List.getElem_mem h, hh⟩)
  have hnone : l.length ≤ 100 → (∀ k ∈ l, heavyK k = false) → heavyKs l = false := by
    intro h1 h2
    unfold heavyKs
    rw [Bool.or_eq_false_iff]
    exact ⟨by simp; omega, by rw [List.any_eq_false]; intro x hx; rw [h2 x hx]; simp⟩
  have hbig : 100 < l.length → heavyKs l = true := fun h => by unfold heavyKs; simp [h]
  generalize heavyKs l = R at *
  by_cases h : 100 < l.length
  · have := hbig h
    subst this
    have h' : (100 : Int) < l.length := by omega
    simp -implicitDefEqProofs [c32, h', h]
  · have h' : ¬ (100 : Int) < l.length := by omega
    simp -implicitDefEqProofs [c32, h', h]
    refine wp_lpk (α := Nat) (fun i => ⟨[(0, .sl (l.map Ky.row)), (3, i6 i)], [], []⟩) (fun i => i ≤ l.length ∧ ∀ k ∈ l.take i, heavyK k = false) (fun i => l.length - i) ?_ 0 ?_ ?_
    · rintro K i hK ⟨h1, h2⟩
      by_cases g : i < l.length
      · have t1 : IntKind.i64.wrap ((i : Int) + 1) = (i + 1 : Nat) := by rw [wrap_i64] <;> omega
        have H := xheavy_spec l[i]
        have hany := hany i g
        have fin : heavyK l[i] = false → ∀ σ', Weak σ' ⟨[(0, .sl (l.map Ky.row)), (3, i6 (i + 1 : Nat))], [], []⟩ → K σ' := fun hh σ' hσ => hK (i + 1) σ' ⟨by omega, by
          intro k hk
          rw [List.take_succ_eq_append_getElem g, List.mem_append] at hk
          rcases hk with hk | hk
          · exact h2 k hk
          · simp only [List.mem_singleton] at hk; rw [hk]; exact hh⟩ (by omega) hσ
        change Sp _ _ _ _ (.bool (heavyK l[i])) at H
        generalize heavyK l[i] = hv at *
        rw [krow] at H
        clear hK hnone hbig
        cases hv
        · simp -implicitDefEqProofs [g, krow]
          refine onC_mk _ H ?_
          simp -implicitDefEqProofs [t1]
          refine fin rfl _ (weak_mk ?_ ?_ ?_ ?_ ?_ ?_) <;> simp -implicitDefEqProofs
        · have := hany rfl
          subst this
          simp -implicitDefEqProofs [g, krow]
          refine onC_mk _ H ?_
          simp -implicitDefEqProofs
      · obtain rfl : i = l.length := by omega
        rw [List.take_length] at h2
        have := hnone (by omega) h2
        subst this
        simp -implicitDefEqProofs
    · simp
    · refine weak_mk ?_ ?_ ?_ ?_ ?_ ?_ <;> simp -implicitDefEqProofs
end Go.Ai
set_option linter.unusedSimpArgs false
set_option linter.unusedVariables false
namespace Go.Ai
open Go.Proofs
theorem take_eq {α : Type} {a b : List α} {i : Nat} (ha : i < a.length) (hb : i < b.length) (h : a.take i = b.take i) (e : a[i] = b[i]) : a.take (i + 1) = b.take (i + 1) := by
  rw [List.take_succ_eq_append_getElem ha, List.take_succ_eq_append_getElem hb, h, e]
set_option maxRecDepth 20000 in
theorem same25_spec (a b : List Ky) (hn : a.length < 9223372036854775807) : Sp Tryd.prog gl 79 [.sl (a.map Ky.row), .sl (b.map Ky.row)] (.bool (decide (a = b))) := by
  refine s79 rfl rfl ?_
  by_cases hl : a.length = b.length
  · have hlI : ((a.length : Int) != b.length) = false := by simp [hl]
    simp -implicitDefEqProofs [c79, hlI]
    refine wp_lpk (α := Nat) (fun i => ⟨[(0, .sl (a.map Ky.row)), (1, .sl (b.map Ky.row)), (5, i6 i)], [], []⟩) (fun i => i ≤ a.length ∧ a.take i = b.take i) (fun i => a.length - i) ?_ 0 ?_ ?_
    · rintro K i hK ⟨h1, h2⟩
      by_cases g : i < a.length
      · have t1 : IntKind.i64.wrap ((i : Int) + 1) = (i + 1 : Nat) := by rw [wrap_i64] <;> omega
        have g2 : i < b.length := by omega
        have hlg : (i : Int) < b.length := by omega
        have fin : a[i] = b[i] → ∀ σ', Weak σ' ⟨[(0, .sl (a.map Ky.row)), (1, .sl (b.map Ky.row)), (5, i6 (i + 1 : Nat))], [], []⟩ → K σ' := fun hh σ' hσ => hK (i + 1) σ' ⟨by omega, take_eq g g2 h2 hh⟩ (by omega) hσ
        have hne : a[i] ≠ b[i] → decide (a = b) = false := fun h => by
          rw [decide_eq_false_iff_not]; rintro rfl; exact h rfl
        have kb := ky_beq a[i] b[i]
        generalize decide (a = b) = R at *
        clear hK
        by_cases e : a[i] = b[i]
        · have fin := fin e
          simp -implicitDefEqProofs [g, g2, krow, e]
          refine fin _ (weak_mk ?_ ?_ ?_ ?_ ?_ ?_) <;> simp -implicitDefEqProofs [t1]
        · have := hne e
          subst this
          rw [decide_eq_false e] at kb
          simp -implicitDefEqProofs [g, g2, krow, kb]
      · have h3 : ¬ i < b.length := by omega
        have : decide (a = b) = true := by
          rw [decide_eq_true_eq]
          rw [List.take_of_length_le (by omega), List.take_of_length_le (by omega)] at h2
          exact h2
        rw [this]
        clear hK
        simp -implicitDefEqProofs [g, h3]
    · simp
    · refine weak_mk ?_ ?_ ?_ ?_ ?_ ?_ <;> simp -implicitDefEqProofs
  · have hlI : ((a.length : Int) != b.length) = true := by simp; omega
    have : decide (a = b) = false := by rw [decide_eq_false_iff_not]; rintro rfl; exact hl rfl
    rw [this]
    simp -implicitDefEqProofs [c79, hlI]
theorem sameOne_spec (a b : Ms) (hn : a.ks.length < 9223372036854775807) : Sp Tryd.prog gl 38 [.agg a.row, .agg b.row] (.bool (decide (a = b))) := by
  refine s38 rfl rfl ?_
  have S := same25_spec a.ks b.ks hn
  obtain ⟨g, p, ks⟩ := a
  obtain ⟨g', p', ks'⟩ := b
  simp only [Ms.row] at S ⊢
  have e : decide ((⟨g, p, ks⟩ : Ms) = ⟨g', p', ks'⟩) = ((g == g') && ((p == p') && decide (ks = ks'))) := by rw [Bool.eq_iff_iff]; simp
  rw [e]
  generalize ks.map Ky.row = L at *
  generalize ks'.map Ky.row = L' at *
  generalize decide (ks = ks') = R at *
  cases h1 : (g == g')
  · simp -implicitDefEqProofs [c38, h1]
  · cases h2 : (p == p')
    · simp -implicitDefEqProofs [c38, h1, h2]
    · simp -implicitDefEqProofs [c38, h1, h2]
      refine onC_mk _ S ?_
      simp -implicitDefEqProofs
def awk : List Ky := [⟨[97], [114], false, 1, false⟩, ⟨[98], [114], true, 2, false⟩, ⟨[97], [115], false, 3, false⟩]
theorem awake30_spec : Sp Tryd.prog gl 31 [] (.bool true) := by
  refine s31 rfl rfl ?_
  have G := Group_spec awk (by decide)
  have e : grpAll awk = [⟨[98], true, [⟨[98], [114], true, 2, false⟩]⟩, ⟨[97], false, [⟨[97], [114], false, 1, false⟩, ⟨[97], [115], false, 3, false⟩]⟩] := by decide
  rw [e] at G
  simp only [awk, List.map_cons, List.map_nil, krow, mrow] at G
  simp -implicitDefEqProofs [c31]
  refine onC_mk _ G ?_
  simp -implicitDefEqProofs
end Go.Ai
set_option linter.unusedSimpArgs false
set_option linter.unusedVariables false
namespace Go.Ai
open Go.Proofs
/-! ### What grouping keeps, no program in sight -/
theorem keysOf_app (a b : List Ms) : keysOf (a ++ b) = keysOf a ++ keysOf b := by simp [keysOf]
theorem keysOf_cons (m : Ms) (r : List Ms) : keysOf (m :: r) = m.ks ++ keysOf r := by simp [keysOf]
theorem addK_keys (k : Ky) : ∀ (l : List Ms), (keysOf (addK l k)).length = (keysOf l).length + 1
  | [] => rfl
  | m :: r => by
    simp only [addK]
    split
    · simp only [keysOf_cons, List.length_append, List.length_cons, List.length_nil]; omega
    · simp only [keysOf_cons, List.length_append, addK_keys k r]; omega
theorem fold_keys : ∀ (r : List Ky) (a : List Ms), (keysOf (r.foldl addK a)).length = (keysOf a).length + r.length
  | [], a => by simp
  | k :: r, a => by simp only [List.foldl_cons, List.length_cons, fold_keys r, addK_keys]; omega
theorem grp_keys (l : List Ky) (pg : Bool) : (keysOf (grp l pg)).length = (l.filter fun k => k.p == pg).length := by
  unfold grp
  rw [fold_keys]; simp [keysOf]
theorem two_filters : ∀ (l : List Ky), (l.filter fun k => k.p == true).length + (l.filter fun k => k.p == false).length = l.length
  | [] => rfl
  | k :: r => by
    have := two_filters r
    cases h : k.p <;> simp [h] at this ⊢ <;> omega
theorem grpAll_keys (l : List Ky) : (keysOf (grpAll l)).length = l.length := by
  unfold grpAll
  rw [keysOf_app, List.length_append, grp_keys, grp_keys, two_filters]
/-- Only the last message of a goal and a severity may have room; each has a key, all are its own. -/
def GoodM : List Ms → Prop
  | [] => True
  | m :: r => (m.ks ≠ [] ∧ m.ks.length ≤ 8 ∧ ∀ k ∈ m.ks, k.g = m.g ∧ k.p = m.p) ∧ (m.ks.length < 8 → ∀ m' ∈ r, ¬ (m.g = m'.g ∧ m.p = m'.p)) ∧ GoodM r
theorem goes_iff {m : Ms} {k : Ky} : goes m k = true ↔ m.g = k.g ∧ m.p = k.p ∧ m.ks.length < 8 := by simp [goes, and_assoc]
theorem addK_mem {k : Ky} : ∀ {l : List Ms} {m' : Ms}, m' ∈ addK l k → (∃ m ∈ l, m.g = m'.g ∧ m.p = m'.p) ∨ (m'.g = k.g ∧ m'.p = k.p)
  | [], m', h => by simp only [addK, List.mem_singleton] at h; subst h; exact .inr ⟨rfl, rfl⟩
  | m :: r, m', h => by
    simp only [addK] at h
    split at h
    · simp only [List.mem_cons] at h
      rcases h with rfl | h
      · exact .inl ⟨m, by simp, rfl, rfl⟩
      · exact .inl ⟨m', by simp [h], rfl, rfl⟩
    · simp only [List.mem_cons] at h
      rcases h with rfl | h
      · exact .inl ⟨m', by simp, rfl, rfl⟩
      · rcases addK_mem h with ⟨m0, h0, h1⟩ | h0
        · exact .inl ⟨m0, by simp [h0], h1⟩
        · exact .inr h0
theorem addK_good (k : Ky) : ∀ {l : List Ms}, GoodM l → GoodM (addK l k)
  | [], _ => by
    refine ⟨⟨by simp, by simp, ?_⟩, by simp, trivial⟩
    intro k' hk; simp only [List.mem_singleton] at hk; subst hk; exact ⟨rfl, rfl⟩
  | m :: r, h => by
    obtain ⟨⟨h1, h2, h3⟩, h4, h5⟩ := h
    simp only [addK]
    split
    · rename_i hg
      obtain ⟨g1, g2, g3⟩ := goes_iff.1 hg
      refine ⟨⟨by simp, by simp; omega, ?_⟩, fun _ => h4 g3, h5⟩
      intro k' hk
      simp only [List.mem_append, List.mem_singleton] at hk
      rcases hk with hk | rfl
      · exact h3 k' hk
      · exact ⟨g1.symm, g2.symm⟩
    · rename_i hg
      refine ⟨⟨h1, h2, h3⟩, ?_, addK_good k h5⟩
      intro hlt m' hm ⟨e1, e2⟩
      rcases addK_mem hm with ⟨m0, h0, e3, e4⟩ | ⟨e3, e4⟩
      · exact h4 hlt m0 h0 ⟨e1.trans e3.symm, e2.trans e4.symm⟩
      · exact hg (goes_iff.2 ⟨e1.trans e3, e2.trans e4, hlt⟩)
theorem grp_good (l : List Ky) (pg : Bool) : GoodM (grp l pg) := by
  have : ∀ (r : List Ky) (a : List Ms), GoodM a → GoodM (r.foldl addK a) := by
    intro r
    induction r with
    | nil => intro a h; exact h
    | cons k r ih => intro a h; exact ih _ (addK_good k h)
  exact this _ _ trivial
theorem addK_app {k : Ky} {m : Ms} : ∀ {acc : List Ms}, (∀ m0 ∈ acc, goes m0 k = false) → goes m k = true → addK (acc ++ [m]) k = acc ++ [{ m with ks := m.ks ++ [k] }]
  | [], _, h => by simp only [List.nil_append, addK, if_pos h]
  | m0 :: r, h0, h => by
    simp only [List.cons_append, addK]
    rw [if_neg (by rw [h0 m0 (by simp)]; simp), addK_app (fun m1 h1 => h0 m1 (by simp [h1])) h]
/-- Some of a message's keys are in, the others come. -/
theorem fold_msg {acc : List Ms} {g : List UInt8} {p : Bool} : ∀ (r pre : List Ky), pre ≠ [] → (pre ++ r).length ≤ 8 → (∀ k ∈ r, k.g = g ∧ k.p = p) → (∀ m0 ∈ acc, ∀ k ∈ r, goes m0 k = false) →
    r.foldl addK (acc ++ [⟨g, p, pre⟩]) = acc ++ [⟨g, p, pre ++ r⟩]
  | [], pre, _, _, _, _ => by simp
  | k :: r, pre, h1, h2, h3, h4 => by
    simp only [List.foldl_cons]
    have hk := h3 k (by simp)
    rw [addK_app (fun m0 h0 => h4 m0 h0 k (by simp)) (goes_iff.2 ⟨hk.1.symm, hk.2.symm, by simp at h2 ⊢; omega⟩)]
    rw [fold_msg r (pre ++ [k]) (by simp) (by simpa using h2) (fun k' hk' => h3 k' (by simp [hk'])) (fun m0 h0 k' hk' => h4 m0 h0 k' (by simp [hk']))]
    simp
theorem good_app : ∀ {a b : List Ms}, GoodM (a ++ b) → (∀ m ∈ a, m.ks.length < 8 → ∀ m' ∈ b, ¬ (m.g = m'.g ∧ m.p = m'.p)) ∧ GoodM b
  | [], b, h => ⟨by simp, h⟩
  | m :: a, b, h => by
    obtain ⟨_, h4, h5⟩ := h
    obtain ⟨h6, h7⟩ := good_app h5
    refine ⟨?_, h7⟩
    intro m0 h0 hlt m' hm
    simp only [List.mem_cons] at h0
    rcases h0 with rfl | h0
    · exact h4 hlt m' (by simp [hm])
    · exact h6 m0 h0 hlt m' hm
theorem fold_good : ∀ (b acc : List Ms), GoodM (acc ++ b) → (keysOf b).foldl addK acc = acc ++ b
  | [], acc, _ => by simp [keysOf]
  | m :: b, acc, h => by
    obtain ⟨h1, ⟨h2, h3, h4⟩, h5, h6⟩ := good_app h
    rw [keysOf_cons, List.foldl_append]
    have hno : ∀ m0 ∈ acc, ∀ k ∈ m.ks, goes m0 k = false := by
      intro m0 h0 k hk
      rw [Bool.eq_false_iff]
      intro hg
      obtain ⟨g1, g2, g3⟩ := goes_iff.1 hg
      obtain ⟨k1, k2⟩ := h4 k hk
      exact h1 m0 h0 g3 m (by simp) ⟨g1.trans k1, g2.trans k2⟩
    have hm : m.ks.foldl addK acc = acc ++ [m] := by
      obtain ⟨g, p, ks⟩ := m
      cases ks with
      | nil => exact absurd rfl h2
      | cons k r =>
        obtain ⟨k1, k2⟩ := h4 k (by simp)
        simp only at k1 k2
        simp only [List.foldl_cons]
        rw [addK_none (fun m0 h0 => hno m0 h0 k (by simp)), k1, k2]
        exact fold_msg r [k] (by simp) (by simpa using h3) (fun k' hk' => h4 k' (by simp [hk'])) (fun m0 h0 k' hk' => hno m0 h0 k' (by simp [hk']))
    rw [hm, fold_good b (acc ++ [m]) (by simpa using h)]
    simp
theorem addK_p {k : Ky} {pg : Bool} (hk : k.p = pg) : ∀ {l : List Ms}, (∀ k' ∈ keysOf l, k'.p = pg) → ∀ k' ∈ keysOf (addK l k), k'.p = pg
  | [], _, k', h => by simp [addK, keysOf] at h; subst h; exact hk
  | m :: r, h0, k', h => by
    simp only [keysOf_cons, List.mem_append] at h0
    simp only [addK] at h
    split at h
    · simp only [keysOf_cons, List.mem_append, List.mem_singleton] at h
      rcases h with (h | rfl) | h
      · exact h0 k' (.inl h)
      · exact hk
      · exact h0 k' (.inr h)
    · simp only [keysOf_cons, List.mem_append] at h
      rcases h with h | h
      · exact h0 k' (.inl h)
      · exact addK_p hk (fun k1 h1 => h0 k1 (.inr h1)) k' h
theorem grp_p (l : List Ky) (pg : Bool) : ∀ k ∈ keysOf (grp l pg), k.p = pg := by
  have : ∀ (r : List Ky) (a : List Ms), (∀ k ∈ r, k.p = pg) → (∀ k ∈ keysOf a, k.p = pg) → ∀ k ∈ keysOf (r.foldl addK a), k.p = pg := by
    intro r
    induction r with
    | nil => intro a _ h; exact h
    | cons k r ih => intro a h1 h2; exact ih _ (fun k' hk' => h1 k' (by simp [hk'])) (addK_p (h1 k (by simp)) h2)
  refine this _ _ ?_ (by simp [keysOf])
  intro k hk
  simpa using (List.mem_filter.1 hk).2
theorem filter_all {l : List Ky} {pg : Bool} (h : ∀ k ∈ l, k.p = pg) : (l.filter fun k => k.p == pg) = l := List.filter_eq_self.2 (fun k hk => by simp [h k hk])
theorem filter_none {l : List Ky} {pg : Bool} (h : ∀ k ∈ l, k.p = !pg) : (l.filter fun k => k.p == pg) = [] := List.filter_eq_nil_iff.2 (fun k hk => by rw [h k hk]; cases pg <;> simp)
/-- Grouped again they are the same. -/
theorem grp_again (l : List Ky) : grpAll (keysOf (grpAll l)) = grpAll l := by
  have h1 : grp (keysOf (grpAll l)) true = grp l true := by
    have e : grp (keysOf (grpAll l)) true = ((keysOf (grpAll l)).filter fun k => k.p == true).foldl addK [] := rfl
    rw [e]
    unfold grpAll
    rw [keysOf_app, List.filter_append, filter_all (grp_p l true), filter_none (pg := true) (by simpa using grp_p l false), List.append_nil]
    simpa using fold_good (grp l true) [] (by simpa using grp_good l true)
  have h2 : grp (keysOf (grpAll l)) false = grp l false := by
    have e : grp (keysOf (grpAll l)) false = ((keysOf (grpAll l)).filter fun k => k.p == false).foldl addK [] := rfl
    rw [e]
    unfold grpAll
    rw [keysOf_app, List.filter_append, filter_all (grp_p l false), filter_none (pg := false) (by simpa using grp_p l true), List.nil_append]
    simpa using fold_good (grp l false) [] (by simpa using grp_good l false)
  have e : ∀ x, grpAll x = grp x true ++ grp x false := fun _ => rfl
  rw [e (keysOf (grpAll l)), h1, h2]; rfl
theorem ks_le (l : List Ms) : ∀ m ∈ l, m.ks.length ≤ (keysOf l).length := by
  intro m hm
  obtain ⟨a, b, rfl⟩ := List.append_of_mem hm
  rw [keysOf_app, keysOf_cons]
  simp only [List.length_append]; omega
theorem grpAll_len (l : List Ky) : (grpAll l).length ≤ 2 * l.length := by
  unfold grpAll
  have := grp_len l true
  have := grp_len l false
  rw [List.length_append]; omega
end Go.Ai
set_option linter.unusedSimpArgs false
set_option linter.unusedVariables false
namespace Go.Ai
open Go.Proofs
/-! ### The document's grouping, no program in sight -/
def sameK (a b : Ky) : Bool := a.g == b.g && a.p == b.p
theorem sameK_iff {a b : Ky} : sameK a b = true ↔ a.g = b.g ∧ a.p = b.p := by simp [sameK]
def aheadN (l : List Ky) (i : Nat) (k : Ky) : Nat := (l.take i).countP fun x => sameK x k
def refMsg (l : List Ky) (i : Nat) (k : Ky) : Ms := ⟨k.g, k.p, ((l.drop i).filter fun x => sameK x k).take 8⟩
def refOne (l : List Ky) (pg : Bool) (i : Nat) (k : Ky) : List Ms := if k.p = pg ∧ aheadN l i k % 8 = 0 then [refMsg l i k] else []
/-- From a place on. -/
def refFrom (l : List Ky) (pg : Bool) : Nat → List Ky → List Ms
  | _, [] => []
  | i, k :: r => refOne l pg i k ++ refFrom l pg (i + 1) r
def refGrp (l : List Ky) (pg : Bool) : List Ms := refFrom l pg 0 l
def upd (k : Ky) (m : Ms) : Ms := if goes m k = true then { m with ks := m.ks ++ [k] } else m
theorem refMsg_snoc (l : List Ky) (k x : Ky) (i : Nat) (h : i ≤ l.length) : refMsg (l ++ [k]) i x = upd k (refMsg l i x) := by
  unfold refMsg upd
  rw [List.drop_append_of_le_length h, List.filter_append]
  generalize (l.drop i).filter (fun y => sameK y x) = A
  by_cases hs : sameK k x = true
  · have e1 : List.filter (fun y => sameK y x) [k] = [k] := by simp [hs]
    rw [e1]
    obtain ⟨g1, g2⟩ := sameK_iff.1 hs
    by_cases hA : A.length < 8
    · rw [if_pos (goes_iff.2 ⟨g1.symm, g2.symm, by simp only [List.length_take]; omega⟩)]
      simp only
      rw [List.take_of_length_le (by simp; omega), List.take_of_length_le (by omega)]
    · rw [if_neg (fun h => by have := (goes_iff.1 h).2.2; simp only [List.length_take] at this; omega)]
      rw [List.take_append_of_le_length (by omega)]
  · have e1 : List.filter (fun y => sameK y x) [k] = [] := by simp [hs]
    rw [e1, List.append_nil]
    rw [if_neg]
    intro h
    obtain ⟨g1, g2, _⟩ := goes_iff.1 h
    exact hs (sameK_iff.2 ⟨g1.symm, g2.symm⟩)
theorem aheadN_snoc (l : List Ky) (k x : Ky) (i : Nat) (h : i ≤ l.length) : aheadN (l ++ [k]) i x = aheadN l i x := by
  unfold aheadN
  rw [List.take_append_of_le_length h]
theorem refFrom_snoc (l : List Ky) (k : Ky) (pg : Bool) : ∀ (r : List Ky) (i : Nat), i + r.length ≤ l.length → refFrom (l ++ [k]) pg i r = (refFrom l pg i r).map (upd k)
  | [], i, _ => rfl
  | x :: r, i, h => by
    simp only [List.length_cons] at h
    simp only [refFrom, List.map_append]
    rw [refFrom_snoc l k pg r (i + 1) (by omega)]
    congr 1
    unfold refOne
    rw [aheadN_snoc l k x i (by omega), refMsg_snoc l k x i (by omega)]
    split <;> rfl
theorem refFrom_app (l : List Ky) (pg : Bool) : ∀ (a b : List Ky) (i : Nat), refFrom l pg i (a ++ b) = refFrom l pg i a ++ refFrom l pg (i + a.length) b
  | [], b, i => by simp [refFrom]
  | x :: a, b, i => by
    simp only [List.cons_append, refFrom, List.length_cons]
    rw [refFrom_app l pg a b (i + 1), List.append_assoc, show i + 1 + a.length = i + (a.length + 1) by omega]
/-- Keys of a goal and a severity in messages. -/
def cntM : List Ms → Ky → Nat
  | [], _ => 0
  | m :: r, k => (if m.g = k.g ∧ m.p = k.p then m.ks.length else 0) + cntM r k
theorem cntM_add (k x : Ky) : ∀ (l : List Ms), cntM (addK l x) k = cntM l k + (if sameK x k = true then 1 else 0)
  | [] => by
    simp only [addK, cntM, List.length_cons, List.length_nil]
    by_cases h : sameK x k = true
    · rw [if_pos (sameK_iff.1 h), if_pos h]
    · rw [if_neg (fun e => h (sameK_iff.2 e)), if_neg h]
  | m :: r => by
    simp only [addK]
    split
    · rename_i hg
      obtain ⟨g1, g2, g3⟩ := goes_iff.1 hg
      simp only [cntM, List.length_append, List.length_cons, List.length_nil]
      by_cases h : sameK x k = true
      · obtain ⟨s1, s2⟩ := sameK_iff.1 h
        rw [if_pos ⟨g1.trans s1, g2.trans s2⟩, if_pos ⟨g1.trans s1, g2.trans s2⟩, if_pos h]; omega
      · have hn : ¬ (m.g = k.g ∧ m.p = k.p) := fun e => h (sameK_iff.2 ⟨g1.symm.trans e.1, g2.symm.trans e.2⟩)
        rw [if_neg hn, if_neg hn, if_neg h]; omega
    · simp only [cntM, cntM_add k x r]; omega
theorem cntM_fold (k : Ky) : ∀ (r : List Ky) (a : List Ms), cntM (r.foldl addK a) k = cntM a k + r.countP fun x => sameK x k
  | [], a => by simp
  | x :: r, a => by
    simp only [List.foldl_cons]
    rw [cntM_fold k r, cntM_add, List.countP_cons]; omega
theorem cntM_grp (l : List Ky) (pg : Bool) (k : Ky) (hk : k.p = pg) : cntM (grp l pg) k = l.countP fun x => sameK x k := by
  unfold grp
  rw [cntM_fold]
  simp only [cntM, Nat.zero_add]
  rw [List.countP_filter]
  apply List.countP_congr
  intro x _
  simp only [Bool.and_eq_true, beq_iff_eq]
  constructor
  · exact fun h => h.1
  · intro h; exact ⟨h, (sameK_iff.1 h).2.trans hk⟩
theorem none_mod {k : Ky} : ∀ {l : List Ms}, GoodM l → (∀ m ∈ l, goes m k = false) → cntM l k % 8 = 0
  | [], _, _ => rfl
  | m :: r, ⟨⟨_, h2, _⟩, _, h5⟩, hn => by
    have ih := none_mod h5 (fun m' hm => hn m' (by simp [hm]))
    simp only [cntM]
    split
    · rename_i hs
      have : ¬ m.ks.length < 8 := fun h => by
        have := hn m (by simp)
        rw [goes_iff.2 ⟨hs.1, hs.2, h⟩] at this; cases this
      omega
    · omega
theorem later_none {k : Ky} {r : List Ms} (h : ∀ m' ∈ r, ¬ (m'.g = k.g ∧ m'.p = k.p)) : cntM r k = 0 ∧ (∀ m' ∈ r, goes m' k = false) := by
  constructor
  · induction r with
    | nil => rfl
    | cons m r ih =>
      simp only [cntM]
      rw [if_neg (h m (by simp)), ih (fun m' hm => h m' (by simp [hm]))]
  · intro m' hm
    rw [Bool.eq_false_iff]; intro hg
    obtain ⟨g1, g2, _⟩ := goes_iff.1 hg
    exact h m' hm ⟨g1, g2⟩
/-- One more key: all messages told again, or a new one. -/
theorem add_map {k : Ky} : ∀ {l : List Ms}, GoodM l → addK l k = l.map (upd k) ++ (if cntM l k % 8 = 0 then [⟨k.g, k.p, [k]⟩] else [])
  | [], _ => rfl
  | m :: r, ⟨⟨h1, h2, h3⟩, h4, h5⟩ => by
    have ec : cntM (m :: r) k = (if m.g = k.g ∧ m.p = k.p then m.ks.length else 0) + cntM r k := rfl
    simp only [addK, List.map_cons]
    by_cases hg : goes m k = true
    · obtain ⟨g1, g2, g3⟩ := goes_iff.1 hg
      have hl := h4 g3
      obtain ⟨c0, n0⟩ := later_none (k := k) (r := r) (fun m' hm e => hl m' hm ⟨g1.trans e.1.symm, g2.trans e.2.symm⟩)
      have hr : r.map (upd k) = r := by
        conv => rhs; rw [← List.map_id r]
        apply List.map_congr_left
        intro m' hm
        unfold upd
        rw [n0 m' hm]; rfl
      have hpos := List.length_pos_iff.2 h1
      rw [c0, if_pos ⟨g1, g2⟩] at ec
      rw [if_pos hg, if_neg (show ¬ cntM (m :: r) k % 8 = 0 by omega), hr]
      unfold upd
      rw [if_pos hg]; simp
    · have hu : upd k m = m := by unfold upd; rw [if_neg hg]
      have hc : cntM (m :: r) k % 8 = cntM r k % 8 := by
        by_cases hs : m.g = k.g ∧ m.p = k.p
        · rw [if_pos hs] at ec
          have : ¬ m.ks.length < 8 := fun h => hg (goes_iff.2 ⟨hs.1, hs.2, h⟩)
          omega
        · rw [if_neg hs] at ec
          omega
      rw [if_neg hg, add_map h5, hu]
      simp only [List.cons_append]
      by_cases hz : cntM r k % 8 = 0
      · rw [if_pos hz, if_pos (by omega)]
      · rw [if_neg hz, if_neg (by omega)]
theorem refGrp_eq (pg : Bool) : ∀ (n : Nat) (l : List Ky), l.length = n → refGrp l pg = grp l pg
  | 0, l, h => by
    have : l = [] := List.length_eq_zero_iff.1 h
    subst this; rfl
  | n + 1, l, h => by
    have hne : l ≠ [] := by intro e; rw [e] at h; simp at h
    obtain ⟨l', k, rfl⟩ : ∃ l' k, l = l' ++ [k] := ⟨l.dropLast, l.getLast hne, (List.dropLast_concat_getLast hne).symm⟩
    have hl : l'.length = n := by simp at h; omega
    have ih := refGrp_eq pg n l' hl
    unfold refGrp at ih ⊢
    rw [refFrom_app, refFrom_snoc l' k pg l' 0 (by omega), ih, Nat.zero_add]
    have e2 : grp (l' ++ [k]) pg = if k.p = pg then addK (grp l' pg) k else grp l' pg := by
      have := grp_snoc (l' ++ [k]) l'.length (by simp) pg
      rw [List.take_of_length_le (by simp)] at this
      simpa using this
    rw [e2]
    simp only [refFrom, List.append_nil]
    have ha : aheadN (l' ++ [k]) l'.length k = l'.countP fun x => sameK x k := by
      unfold aheadN
      rw [List.take_append_of_le_length (by omega), List.take_length]
    have hm : refMsg (l' ++ [k]) l'.length k = ⟨k.g, k.p, [k]⟩ := by
      unfold refMsg
      rw [List.drop_append_of_le_length (by omega), List.drop_length]
      have : sameK k k = true := sameK_iff.2 ⟨rfl, rfl⟩
      simp [this]
    unfold refOne
    rw [ha, hm]
    by_cases hp : k.p = pg
    · rw [if_pos hp, add_map (grp_good l' pg), cntM_grp l' pg k hp]
      congr 1
      by_cases hz : (l'.countP fun x => sameK x k) % 8 = 0
      · rw [if_pos ⟨hp, hz⟩, if_pos hz]
      · rw [if_neg (fun e => hz e.2), if_neg hz]
    · rw [if_neg hp, if_neg (fun e => hp e.1), List.append_nil]
      conv => rhs; rw [← List.map_id (grp l' pg)]
      apply List.map_congr_left
      intro m hm
      unfold upd
      rw [if_neg]
      · rfl
      · intro hg
        obtain ⟨g1, g2, _⟩ := goes_iff.1 hg
        have hgm := grp_good l' pg
        have : m.p = pg := by
          have hne : m.ks ≠ [] ∧ ∀ k ∈ m.ks, k.g = m.g ∧ k.p = m.p := by
            have : ∀ (a : List Ms), GoodM a → m ∈ a → m.ks ≠ [] ∧ ∀ k ∈ m.ks, k.g = m.g ∧ k.p = m.p := by
              intro a
              induction a with
              | nil => intro _ h; simp at h
              | cons m0 a ih =>
                intro h hm
                obtain ⟨⟨q1, _, q3⟩, _, q5⟩ := h
                simp only [List.mem_cons] at hm
                rcases hm with rfl | hm
                · exact ⟨q1, q3⟩
                · exact ih q5 hm
            exact this _ hgm hm
          obtain ⟨h1, h2⟩ := hne
          obtain ⟨k0, r0, hk0⟩ := List.exists_cons_of_ne_nil h1
          have hmem : k0 ∈ keysOf (grp l' pg) := by
            unfold keysOf
            rw [List.mem_flatten]
            exact ⟨m.ks, List.mem_map.2 ⟨m, hm, rfl⟩, by rw [hk0]; simp⟩
          have := grp_p l' pg k0 hmem
          rw [← (h2 k0 (by rw [hk0]; simp)).2]; exact this
        exact hp (g2.symm.trans this)
/-- No key is lost, none is told twice. -/
theorem addK_count (x k : Ky) : ∀ (l : List Ms), (keysOf (addK l k)).count x = (keysOf l).count x + [k].count x
  | [] => by simp [addK, keysOf]
  | m :: r => by
    simp only [addK]
    split
    · simp only [keysOf_cons, List.count_append]; omega
    · simp only [keysOf_cons, List.count_append, addK_count x k r]; omega
theorem fold_count (x : Ky) : ∀ (r : List Ky) (a : List Ms), (keysOf (r.foldl addK a)).count x = (keysOf a).count x + r.count x
  | [], a => by simp
  | k :: r, a => by
    simp only [List.foldl_cons]
    rw [fold_count x r, addK_count]
    have : (k :: r).count x = [k].count x + r.count x := by rw [← List.count_append]; rfl
    omega
theorem grpAll_count (l : List Ky) (x : Ky) : (keysOf (grpAll l)).count x = l.count x := by
  unfold grpAll grp
  rw [keysOf_app, List.count_append, fold_count, fold_count]
  simp only [keysOf, List.map_nil, List.flatten_nil, List.count_nil, Nat.zero_add]
  induction l with
  | nil => rfl
  | cons k r ih =>
    have e : (k :: r).count x = [k].count x + r.count x := by rw [← List.count_append]; rfl
    rw [e, ← ih]
    have e2 : ∀ (s : List Ky), (k :: s).count x = [k].count x + s.count x := fun s => by rw [← List.count_append]; rfl
    cases hp : k.p
    · rw [List.filter_cons_of_neg (by simp [hp]), List.filter_cons_of_pos (by simp [hp]), e2]; omega
    · rw [List.filter_cons_of_pos (by simp [hp]), List.filter_cons_of_neg (by simp [hp]), e2]; omega
end Go.Ai
set_option linter.unusedSimpArgs false
set_option linter.unusedVariables false
namespace Go.Ai
open Go.Proofs
theorem aheadN_succ (l : List Ky) (i : Nat) (h : i < l.length) (x : Ky) : aheadN l (i + 1) x = aheadN l i x + (if sameK l[i] x = true then 1 else 0) := by
  unfold aheadN
  rw [List.take_succ_eq_append_getElem h, List.countP_append, List.countP_cons]
  simp
theorem aheadN_le (l : List Ky) (i : Nat) (x : Ky) : aheadN l i x ≤ i := by
  unfold aheadN
  have := List.countP_le_length (p := fun y => sameK y x) (l := l.take i)
  rw [List.length_take] at this; omega
def keysTo (l : List Ky) (i k : Nat) (x : Ky) : List Ky := ((l.drop i).take (k - i)).filter fun y => sameK y x
theorem keysTo_succ (l : List Ky) (i k : Nat) (x : Ky) (h1 : i ≤ k) (h2 : k < l.length) : keysTo l i (k + 1) x = keysTo l i k x ++ (if sameK l[k] x = true then [l[k]] else []) := by
  unfold keysTo
  rw [show k + 1 - i = (k - i) + 1 by omega, List.take_succ_eq_append_getElem (by rw [List.length_drop]; omega), List.filter_append]
  have : (l.drop i)[k - i]'(by rw [List.length_drop]; omega) = l[k] := by rw [List.getElem_drop]; congr 1; omega
  rw [this]
  congr 1
  simp only [List.filter_cons, List.filter_nil]
theorem keysTo_end (l : List Ky) (i k : Nat) (x : Ky) (h1 : i ≤ k) (h8 : (keysTo l i k x).length ≤ 8) (h2 : k = l.length ∨ (keysTo l i k x).length = 8) : keysTo l i k x = (refMsg l i x).ks := by
  unfold refMsg
  simp only
  rcases h2 with rfl | h2
  · have e : keysTo l i l.length x = (l.drop i).filter fun y => sameK y x := by
      unfold keysTo
      rw [List.take_of_length_le (by rw [List.length_drop]; omega)]
    rw [e] at h8 ⊢
    rw [List.take_of_length_le h8]
  · have e : (l.drop i).filter (fun y => sameK y x) = keysTo l i k x ++ ((l.drop i).drop (k - i)).filter fun y => sameK y x := by
      unfold keysTo
      rw [← List.filter_append, List.take_append_drop]
    rw [e, List.take_append_of_le_length (by omega), List.take_of_length_le (by omega)]
end Go.Ai
set_option linter.unusedSimpArgs false
set_option linter.unusedVariables false
namespace Go.Ai
open Go.Proofs
def refTo (l : List Ky) (pg : Bool) (i : Nat) : List Ms := refFrom l pg 0 (l.take i)
theorem refTo_succ (l : List Ky) (pg : Bool) (i : Nat) (h : i < l.length) : refTo l pg (i + 1) = refTo l pg i ++ refOne l pg i l[i] := by
  unfold refTo
  rw [List.take_succ_eq_append_getElem h, refFrom_app]
  simp only [refFrom, List.length_take, Nat.zero_add, List.append_nil]
  rw [Nat.min_eq_left (by omega)]
theorem refTo_len (l : List Ky) (pg : Bool) : ∀ i, i ≤ l.length → (refTo l pg i).length ≤ i
  | 0, _ => by simp [refTo, refFrom]
  | i + 1, h => by
    rw [refTo_succ l pg i (by omega), List.length_append]
    have := refTo_len l pg i (by omega)
    unfold refOne
    split <;> simp <;> omega
theorem wk_to_int {v : AV} {k : IntKind} {n : Int} (h : wk v (.int k n)) : v = .int k n := by
  rcases h with h | ⟨_, h⟩
  · exact h
  · cases h
end Go.Ai
