/- YtbepaingfmlpeaaDoorBun1: part of the abstract interpreter library (values, rules, soundness against the model) or of what a function of the seat computes. Conditions: as each theorem says. -/
import Derived.Test.YtbepaingfmlpeaaDoorNum
set_option linter.unusedSimpArgs false
set_option linter.unusedVariables false
namespace Go.Ai
open Go.Proofs
/-! ### Keys and messages, no program in sight -/
structure Ky where
  g : List UInt8
  r : List UInt8
  p : Bool
  e : Nat
  f : Bool
  deriving DecidableEq
structure Ms where
  g : List UInt8
  p : Bool
  ks : List Ky
  deriving DecidableEq
def Ky.row (k : Ky) : List AV := [.str k.g, .str k.r, .bool k.p, u k.e, .bool k.f]
def Ms.row (m : Ms) : List AV := [.str m.g, .bool m.p, .sl (m.ks.map Ky.row)]
def goes (m : Ms) (k : Ky) : Bool := m.g == k.g && m.p == k.p && decide (m.ks.length < 8)
/-- Where a key goes; below 0: nowhere. -/
def goIx : List Ms → Ky → Nat → Int
  | [], _, _ => -1
  | m :: r, k, i => if goes m k = true then i else goIx r k (i + 1)
def addK : List Ms → Ky → List Ms
  | [], k => [⟨k.g, k.p, [k]⟩]
  | m :: r, k => if goes m k = true then { m with ks := m.ks ++ [k] } :: r else m :: addK r k
def grp (l : List Ky) (pg : Bool) : List Ms := (l.filter fun k => k.p == pg).foldl addK []
def grpAll (l : List Ky) : List Ms := grp l true ++ grp l false
def keysOf (l : List Ms) : List Ky := (l.map Ms.ks).flatten

theorem goIx_none {k : Ky} : ∀ {l : List Ms} {i : Nat}, goIx l k i = -1 ↔ ∀ m ∈ l, goes m k = false
  | [], i => by simp [goIx]
  | m :: r, i => by
    simp only [goIx]
    split
    · rename_i h
      constructor
      · intro h2; omega
      · intro h2; have := h2 m (by simp); rw [h] at this; cases this
    · rename_i h
      rw [goIx_none]
      simp only [List.mem_cons, forall_eq_or_imp]
      constructor
      · intro h2; exact ⟨by simpa using h, h2⟩
      · intro h2; exact h2.2
theorem addK_none {k : Ky} : ∀ {l : List Ms}, (∀ m ∈ l, goes m k = false) → addK l k = l ++ [⟨k.g, k.p, [k]⟩]
  | [], _ => rfl
  | m :: r, h => by
    simp only [addK]
    rw [if_neg (by rw [h m (by simp)]; simp), addK_none (fun m hm => h m (by simp [hm]))]
    rfl
theorem goIx_some {k : Ky} : ∀ {l : List Ms} {i : Nat}, (∀ m ∈ l, goes m k = false) ∨ ∃ j m, l[j]? = some m ∧ goes m k = true ∧ goIx l k i = ((i + j : Nat) : Int) ∧ addK l k = l.set j { m with ks := m.ks ++ [k] }
  | [], i => .inl (by simp)
  | m :: r, i => by
    by_cases h : goes m k = true
    · right
      refine ⟨0, m, rfl, h, ?_, ?_⟩
      · simp only [goIx, if_pos h, Nat.add_zero]
      · simp only [addK, if_pos h, List.set_cons_zero]
    · rcases goIx_some (l := r) (i := i + 1) (k := k) with h2 | ⟨j, m', h2, h3, h4, h5⟩
      · left
        intro m' hm
        simp only [List.mem_cons] at hm
        rcases hm with rfl | hm
        · simpa using h
        · exact h2 m' hm
      · right
        refine ⟨j + 1, m', by simpa using h2, h3, ?_, ?_⟩
        · simp only [goIx, if_neg h, h4]
          congr 1; omega
        · simp only [addK, if_neg h, h5, List.set_cons_succ]
/-- The cells of messages, one behind the other. -/
def cellsM (l : List Ms) : List AV := (l.map Ms.row).flatten
theorem cellsM_len (l : List Ms) : (cellsM l).length = l.length * 3 := by
  unfold cellsM
  rw [flatten_length (k := 3)]
  · simp
  · intro r hr
    obtain ⟨m, _, rfl⟩ := List.mem_map.1 hr
    rfl
theorem flat_drop {k : Nat} : ∀ {l : List (List AV)}, (∀ r ∈ l, r.length = k) → ∀ j, l.flatten.drop (j * k) = (l.drop j).flatten
  | [], _, j => by simp
  | r :: l, h, 0 => by simp
  | r :: l, h, j + 1 => by
    have hr := h r (by simp)
    have : (j + 1) * k = r.length + j * k := by rw [hr, Nat.add_mul]; omega
    rw [List.flatten_cons, this, List.drop_append]
    have e1 : List.drop (r.length + j * k) r = [] := List.drop_eq_nil_of_le (by omega)
    rw [e1, List.nil_append, show r.length + j * k - r.length = j * k by omega, flat_drop (fun r hr => h r (by simp [hr]))]
    rfl
theorem cellsM_drop (l : List Ms) (j : Nat) : (cellsM l).drop (j * 3) = cellsM (l.drop j) := by
  unfold cellsM
  rw [flat_drop, List.map_drop]
  intro r hr
  obtain ⟨m, _, rfl⟩ := List.mem_map.1 hr
  rfl
theorem cellsM_row (l : List Ms) (j : Nat) (h : j < l.length) : ((cellsM l).drop (j * 3)).take 3 = (l[j]).row := by
  rw [cellsM_drop, List.drop_eq_getElem_cons h]
  rfl
theorem cellsM_ks (l : List Ms) (j : Nat) (h : j < l.length) : (cellsM l)[j * 3 + 2]? = some (.sl ((l[j]).ks.map Ky.row)) := by
  have e : (cellsM l)[j * 3 + 2]? = ((cellsM l).drop (j * 3))[2]? := by rw [List.getElem?_drop]
  rw [e, cellsM_drop, List.drop_eq_getElem_cons h]
  rfl
theorem cellsM_cons (m : Ms) (l : List Ms) : cellsM (m :: l) = m.row ++ cellsM l := rfl
theorem cellsM_app (a b : List Ms) : cellsM (a ++ b) = cellsM a ++ cellsM b := by simp [cellsM]
theorem cellsM_set (v : List Ky) : ∀ (l : List Ms) (j : Nat) (h : j < l.length), (cellsM l).set (j * 3 + 2) (.sl (v.map Ky.row)) = cellsM (l.set j { l[j] with ks := v })
  | m :: l, 0, _ => rfl
  | m :: l, j + 1, h => by
    simp only [List.set_cons_succ, cellsM_cons, List.getElem_cons_succ]
    rw [← cellsM_set v l j (by simpa using h), show (j + 1) * 3 + 2 = m.row.length + (j * 3 + 2) by simp [Ms.row]; omega, List.set_append_right _ _ (by omega)]
    congr 2; omega
theorem cellsM_new (l : List Ms) (g : List UInt8) (p : Bool) (v : List Ky) : (cellsM l ++ [AV.str g, AV.bool p, AV.nils]).set (l.length * 3 + 2) (.sl (v.map Ky.row)) = cellsM (l ++ [⟨g, p, v⟩]) := by
  rw [cellsM_app, List.set_append_right _ _ (by rw [cellsM_len]; omega), cellsM_len, show l.length * 3 + 2 - l.length * 3 = 2 by omega]
  rfl
theorem row_ids (k : Ky) : idsL k.row = [] := rfl
theorem mrow_ids (m : Ms) : idsL m.row = [] := rfl
theorem idsL_appB (a b : List AV) : idsL (a ++ b) = idsL a ++ idsL b := by
  induction a with
  | nil => rfl
  | cons x r ih => simp only [List.cons_append, idsL, ih, List.append_assoc]
theorem cellsM_ids : ∀ (l : List Ms), idsL (cellsM l) = []
  | [] => rfl
  | m :: l => by rw [cellsM_cons, idsL_appB, mrow_ids, cellsM_ids l]; rfl
theorem addK_length (l : List Ms) (k : Ky) : (addK l k).length ≤ l.length + 1 := by
  induction l with
  | nil => simp [addK]
  | cons m r ih =>
    simp only [addK]
    split
    · simp
    · simp only [List.length_cons]; omega

/-- The permissions of messages' keys in box 'b'. -/
def kPm (b : Id) (n : Nat) : List (Pl × Nat) := (List.range n).map fun i => (.b b (i * 3 + 2), 5)
theorem kPm_lk (b : Id) (n j : Nat) (h : j < n) : lkP (kPm b n) (.b b (j * 3 + 2)) = some 5 := by
  have : ∀ (l : List Nat), j ∈ l → lkP (l.map fun i => (Pl.b b (i * 3 + 2), 5)) (.b b (j * 3 + 2)) = some 5 := by
    intro l
    induction l with
    | nil => intro h; simp at h
    | cons x r ih =>
      intro h
      simp only [List.map_cons, lkP]
      split
      · rfl
      · rename_i hne
        simp only [List.mem_cons] at h
        rcases h with rfl | h
        · exact absurd rfl hne
        · exact ih h
  exact this _ (List.mem_range.2 h)
theorem kPm_mem {b : Id} {n : Nat} {p : Pl × Nat} (h : p ∈ kPm b n) : ∃ j, j < n ∧ p = (.b b (j * 3 + 2), 5) := by
  unfold kPm at h
  obtain ⟨j, hj, rfl⟩ := List.mem_map.1 h
  exact ⟨j, List.mem_range.1 hj, rfl⟩
theorem kPm_self {b : Id} {n : Nat} : ∀ p ∈ kPm b n, lkP (kPm b n) p.1 = some p.2 := by
  intro p hp
  obtain ⟨j, hj, rfl⟩ := kPm_mem hp
  exact kPm_lk b n j hj
theorem kPm_ids {b : Id} {n : Nat} {p : Pl × Nat} (hp : p ∈ kPm b n) {d : Id} (hd : d ∈ p.1.ids) : d = b := by
  obtain ⟨j, hj, rfl⟩ := kPm_mem hp
  simpa [Pl.ids] using hd
theorem mpP_kPm (f : Id → Id) (b : Id) (n : Nat) : mpP f (kPm b n) = kPm (f b) n := by
  unfold kPm
  induction List.range n with
  | nil => rfl
  | cons x r ih => simp only [List.map_cons, mpP, Pl.mp, ih]
theorem dlS_kPm (b : Id) (n d : Nat) : dlS (kPm b n) d = kPm b n := by
  unfold kPm
  induction List.range n with
  | nil => rfl
  | cons x r ih => simp only [List.map_cons, dlS, ih]
theorem dlB_kPm (b c : Id) (n : Nat) (h : b ≠ c) : dlB (kPm b n) c = kPm b n := by
  unfold kPm
  induction List.range n with
  | nil => rfl
  | cons x r ih => simp only [List.map_cons, dlB, ih, if_neg h]
theorem dlB_kPm_self (b : Id) (n : Nat) : dlB (kPm b n) b = [] := by
  unfold kPm
  induction List.range n with
  | nil => rfl
  | cons x r ih => simp only [List.map_cons, dlB, ih, if_true]
theorem rnP_kPm (b c : Id) (n : Nat) : rnP (kPm b n) b c = kPm c n := by
  unfold kPm
  induction List.range n with
  | nil => rfl
  | cons x r ih => simp only [List.map_cons, rnP, ih, if_true]
theorem dlXs_kPm (xs : List X) (b : Id) (n : Nat) (l : List (Pl × Nat)) : dlXs xs l (kPm b n) = l := by
  unfold kPm
  induction List.range n generalizing l with
  | nil => rfl
  | cons x r ih => simp only [List.map_cons, dlXs, ih]
theorem retP_kPm (d : Nat) (b : Id) (n : Nat) : retP d (kPm b n) = kPm b n := by
  unfold kPm
  induction List.range n with
  | nil => rfl
  | cons x r ih => simp only [List.map_cons, retP, ih]
theorem pmOne_kPm (xs : List X) (b : Id) (n : Nat) : pmOne xs (kPm b n) := by
  unfold kPm
  induction List.range n with
  | nil => trivial
  | cons x r ih => exact ih
theorem dlr_kPm (b c : Id) (n o m : Nat) (h : b ≠ c) : dlr (kPm b n) c o m = kPm b n := by
  unfold kPm
  induction List.range n with
  | nil => rfl
  | cons x r ih =>
    simp only [List.map_cons, dlr, ih]
    rw [if_neg (fun e => h e.1)]
theorem dl_kPm (b : Id) (n t : Nat) : dl (kPm b n) (.s t) = kPm b n := by
  unfold kPm
  induction List.range n with
  | nil => rfl
  | cons x r ih => simp only [List.map_cons, dl, ih]; rfl
theorem lkP_kPm (b : Id) (n t : Nat) : lkP (kPm b n) (.s t) = none := by
  unfold kPm
  induction List.range n with
  | nil => rfl
  | cons x r ih => simp only [List.map_cons, lkP, ih]; rfl
theorem dlS_app (a b : List (Pl × Nat)) (d : Nat) : dlS (a ++ b) d = dlS a d ++ dlS b d := by
  induction a with
  | nil => rfl
  | cons x r ih =>
    obtain ⟨p, k⟩ := x
    cases p with
    | s t => simp only [List.cons_append, dlS, ih]; split <;> rfl
    | t t i => simp only [List.cons_append, dlS, ih]; split <;> rfl
    | b e o => simp only [List.cons_append, dlS, ih]
attribute [simp] dlS_kPm dlB_kPm dlB_kPm_self rnP_kPm dlXs_kPm retP_kPm mpP_kPm dlr_kPm dl_kPm lkP_kPm pmOne_kPm
theorem lkP_app' (A B : List (Pl × Nat)) (p : Pl) (k : Nat) (h : lkP A p = some k) : lkP (A ++ B) p = some k := by
  rw [lkP_app, h]
end Go.Ai
