/- YtbepaingfmlpeaaBun3: part of the abstract interpreter library (values, rules, soundness against the model) or of what a function of the seat computes. Conditions: as each theorem says. -/
import Derived.Test.YtbepaingfmlpeaaBun2
set_option linter.unusedSimpArgs false
set_option linter.unusedVariables false
namespace Go.Ai
open Go.Proofs
theorem idxNil_spec (k : Ky) (d : Nat) (c : Id) (hc : c.isIt = false) (hcd : c.isNw d = false) :
    SpH Try.prog gl 81 d ⟨[.nils, .fn 82 [.ptr c 0]], [(c, k.row)], []⟩ ⟨i6 (-1), [(c, k.row)], []⟩ := by
  refine h81 rfl ?_
  have hic := inn_notNw hcd
  have ids2 := row_ids k
  have m4 : ∀ f, mpL f k.row = k.row := fun f => mpL_noids ids2
  generalize k.row = kr at *
  simp only [inSt, mpB, mpL, AV.mp, mpP, m4]
  simp -implicitDefEqProofs [c81]
  refine wp_lpk (α := Unit) (fun _ => ⟨[(0, .nils), (1, .fn 82 [.ptr (.up c) 0]), (7, i6 0), (8, i6 0)], [(.up c, kr)], []⟩) (fun _ => True) (fun _ => 0) ?_ () trivial ?_
  · rintro K _ hK _
    clear hK
    simp -implicitDefEqProofs
    refine postH_r ⟨?_, ?_, ?_, ?_, ?_, ?_⟩ <;> simp -implicitDefEqProofs [hic, hc, m4, ids2]
  · refine weak_mk ?_ ?_ ?_ ?_ ?_ ?_ <;> simp -implicitDefEqProofs [ids2]
theorem idsL_set {v : AV} (hv : v.ids = []) : ∀ {l : List AV}, idsL l = [] → ∀ {j : Nat}, idsL (l.set j v) = []
  | [], _, j => by simp [idsL]
  | x :: r, h, 0 => by
    simp only [idsL, List.append_eq_nil_iff] at h
    simp only [List.set_cons_zero, idsL, hv, h.2, List.append_nil]
  | x :: r, h, j + 1 => by
    simp only [idsL, List.append_eq_nil_iff] at h
    simp only [List.set_cons_succ, idsL, h.1, List.nil_append]
    exact idsL_set hv h.2
theorem kPm_none (b : Id) (n : Nat) : lkP (kPm b n) (.b b (n * 3 + 2)) = none := by
  have : ∀ (l : List Nat), (∀ x ∈ l, x ≠ n) → lkP (l.map fun i => (Pl.b b (i * 3 + 2), 5)) (.b b (n * 3 + 2)) = none := by
    intro l
    induction l with
    | nil => intro _; rfl
    | cons x r ih =>
      intro h
      simp only [List.map_cons, lkP]
      rw [if_neg (by have := h x (by simp); simp only [Pl.b.injEq, true_and]; omega)]
      exact ih (fun y hy => h y (by simp [hy]))
  exact this _ (fun x hx => by have := List.mem_range.1 hx; omega)
theorem kPm_after {b : Id} {n j : Nat} {l : List (Pl × Nat)} (hl : ∀ i, i < n → i ≠ j → lkP l (.b b (i * 3 + 2)) = some 5) : ∀ p ∈ kPm b n, lkP ((.b b (j * 3 + 2), 5) :: l) p.1 = some p.2 := by
  intro p hp
  obtain ⟨i, hi, rfl⟩ := kPm_mem hp
  simp only [lkP]
  by_cases e : i = j
  · subst e; rw [if_pos rfl]
  · rw [if_neg (by simp only [Pl.b.injEq, true_and]; omega)]
    exact hl i hi e
theorem kPm_lt {b : Id} {n m : Nat} (h : n * 3 ≤ m) : ∀ p ∈ kPm b n, p.1.lt b m := by
  intro p hp
  obtain ⟨i, hi, rfl⟩ := kPm_mem hp
  simp only [Pl.lt]; intro _; omega
theorem grp_snoc (l : List Ky) (i : Nat) (h : i < l.length) (pg : Bool) : grp (l.take (i + 1)) pg = if l[i].p = pg then addK (grp (l.take i) pg) l[i] else grp (l.take i) pg := by
  unfold grp
  rw [List.take_succ_eq_append_getElem h, List.filter_append, List.foldl_append]
  by_cases e : l[i].p = pg
  · rw [if_pos e]; simp [e]
  · rw [if_neg e]; simp [e]
theorem grp_len (l : List Ky) (pg : Bool) : (grp l pg).length ≤ l.length := by
  have : ∀ (r : List Ky) (a : List Ms), (r.foldl addK a).length ≤ a.length + r.length := by
    intro r
    induction r with
    | nil => intro a; simp
    | cons x r ih => intro a; simp only [List.foldl_cons, List.length_cons]; have := ih (addK a x); have := addK_length a x; omega
  have h1 := this (l.filter fun k => k.p == pg) []
  have h2 := List.length_filter_le (fun k : Ky => k.p == pg) l
  unfold grp
  simp at h1; omega
theorem addK_ne (l : List Ms) (k : Ky) : addK l k ≠ [] := by
  cases l with
  | nil => simp [addK]
  | cons m r => simp only [addK]; split <;> simp
def stG (n : Nat) (L : List (List AV)) (pg : Bool) (x : Nat × List Ms) : St :=
  match x.2 with
  | [] => ⟨[(1, .bool pg), (9, .sl L), (10, i6 n), (11, i6 x.1), (5, .nils)], [], []⟩
  | m :: r => ⟨[(1, .bool pg), (9, .sl L), (10, i6 n), (11, i6 x.1), (5, .ms (.n 33) 0 (m :: r).length 3)], [(.n 33, cellsM (m :: r))], kPm (.n 33) (m :: r).length⟩
theorem stG_ne {n : Nat} {L : List (List AV)} {pg : Bool} {i : Nat} {ms : List Ms} (h : ms ≠ []) : stG n L pg (i, ms) = ⟨[(1, .bool pg), (9, .sl L), (10, i6 n), (11, i6 i), (5, .ms (.n 33) 0 ms.length 3)], [(.n 33, cellsM ms)], kPm (.n 33) ms.length⟩ := by
  cases ms with
  | nil => exact absurd rfl h
  | cons m r => rfl
theorem rows_at (l : List Ky) (i : Nat) (h : i < l.length) : (l.map Ky.row)[i]? = some l[i].row := by
  rw [List.getElem?_map, List.getElem?_eq_getElem h]; rfl
end Go.Ai
