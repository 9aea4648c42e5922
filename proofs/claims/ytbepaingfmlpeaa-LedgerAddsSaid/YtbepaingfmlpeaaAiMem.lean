/- YtbepaingfmlpeaaAiMem: part of the abstract interpreter library (values, rules, soundness against the model) or of what a function of the seat computes. Conditions: as each theorem says. -/
import Derived.Test.YtbepaingfmlpeaaAiEv3
set_option linter.unusedSimpArgs false
set_option linter.unusedVariables false
namespace Go.Ai
open Go.RowKit
variable {P : Program} {S0 : Mem} {w0 : World} {N : Nat} {S : Mem} {gb : Gb} {σ : St} {a : Act} {w : World}

theorem Rel.fresh (h : Rel S0 w0 N S gb σ a w) {g o : Nat} (hg : w.heap.size ≤ g) : S g o = none := by
  cases hs : S g o with
  | none => rfl
  | some v =>
    have := h.agree _ _ _ hs
    have := World.block_lt_of_cell? w _ this
    simp only at this
    omega

/-- Stable memory with a new row. -/
def addS (S : Mem) (g : Nat) (l : List Value) : Mem := fun g' o => if g' = g then l[o]? else S g' o

theorem Rel.plvlt (h : Rel S0 w0 N S gb σ a w) {p : Pl} {k b : Nat} (hk : lkP σ.pm p = some k) (hb : (plv gb a w p).ownBlock = some b) : w0.heap.size ≤ b ∧ b < w.heap.size := by
  rcases h.own p k hk with h1 | ⟨g, n, cap, cur, T, h1, h2, h3, _⟩
  · rw [h1] at hb; simp [Value.ownBlock] at hb
  · rw [h1] at hb; simp [Value.ownBlock] at hb; subst hb; exact ⟨h2, (Array.getElem?_eq_some_iff.1 h3).1⟩
theorem Rel.gblt (h : Rel S0 w0 N S gb σ a w) {d g : Nat} (hg : gb d = some g) : w0.heap.size ≤ g ∧ g < w.heap.size := by
  obtain ⟨cs, hcs⟩ := Option.isSome_iff_exists.1 (h.dom d g hg)
  obtain ⟨g', us, T, e1, e2, e3, _⟩ := h.box d cs hcs
  rw [hg] at e1; cases e1
  exact ⟨e2, (Array.getElem?_eq_some_iff.1 e3).1⟩

/-- A new row whose first cells are stable. -/
theorem Rel.newRow (h : Rel S0 w0 N S gb σ a w) (cur : Array Value) (T : TypeId) (l : List Value) (hl : ∀ (j : Nat) (u : Value), l[j]? = some u → cur[j]? = some u) :
    Rel S0 w0 N (addS S w.heap.size l) gb σ a (w.alloc (.cells cur T)) := by
  refine h.step ((Below.refl _ _).alloc (Nat.le_refl _) _) (fun g o hg => by simp [addS, Nat.ne_of_lt hg]) (fun g o v hs => ?_) (fun g o v hs => ?_)
  · have : g ≠ w.heap.size := by intro e; subst e; rw [h.fresh (Nat.le_refl _)] at hs; cases hs
    simp [addS, this, hs]
  · simp only [addS] at hs
    split at hs
    · rename_i e; subst e
      rw [World.cell?_alloc_new]
      exact hl _ _ hs
    · rename_i e
      have hlt : g < w.heap.size := by have := World.block_lt_of_cell? w _ (h.agree _ _ _ hs); simpa using this
      rw [World.cell?_alloc_lt]
      · exact h.agree _ _ _ hs
      · exact hlt

/-- A new row of the function's own, its slice in slot 'd'. -/
theorem Rel.newOwn (h : Rel S0 w0 N S gb σ a w) {d : Nat} (hd : d < N) (cur : Array Value) (T : TypeId) {rows : List (List AV)} {us : List Value} {k cap : Nat} (hr : ∀ r ∈ rows, r.length = k)
    (hu : PRlist S gb0 rows.flatten us) (h1 : ∀ u ∈ us, u.oneCell' = true) (hc : cur.toList.take us.length = us) (hs : cur.size = cap * k) (hcap : rows.length ≤ cap) (hm : cap ≤ maxLen) :
    ∃ S', Rel S0 w0 N S' gb (σ.puto d (.sl rows) k) (a.put (some d) (.slice (some ⟨w.heap.size, 0, none⟩) rows.length cap)) (w.alloc (.cells cur T)) := by
  have hlen : us.length = rows.length * k := by rw [← hu.length, flatten_length hr]
  have hl : ∀ (j : Nat) (u : Value), us[j]? = some u → cur[j]? = some u := by
    intro j u hj
    rw [← hc, List.getElem?_take] at hj
    split at hj
    · simpa using hj
    · cases hj
  have h2 := h.newRow cur T us hl
  have hle : S.le (addS S w.heap.size us) := fun g o v hs => by
    have : g ≠ w.heap.size := by intro e; subst e; rw [h.fresh (Nat.le_refl _)] at hs; cases hs
    simp [addS, this, hs]
  refine ⟨_, h2.puto hd ?_ ?_ ?_ ?_⟩
  · simp only [PR]
    refine .inr ⟨_, cap, k, rfl, hcap, .inr ⟨rfl, ?_⟩⟩
    rw [PRrows.flat]
    exact ⟨hr, PRcells.of_list (PRlist.mono hle (Gb.le.refl _) _ _ hu) h1 (fun j u hj => by simpa [addS] using hj)⟩
  · refine .inr ⟨w.heap.size, rows.length, cap, cur, T, rfl, h.below.size, heap_alloc_new w _, hcap, hm, hs, fun o ho => ?_⟩
    simp only [addS, if_true]
    exact List.getElem?_eq_none (by omega)
  · intro p l b hl' hne hb hb2
    simp only [Value.ownBlock, Option.some.injEq] at hb2
    subst hb2
    have hpl : plv gb a (w.alloc (.cells cur T)) p = plv gb a w p := by
      cases p with
      | s t => rfl
      | b d off =>
        simp only [plv]
        cases hg : gb d with
        | none => rfl
        | some g => simp only []; rw [World.cell?_alloc_lt]; exact (h.gblt hg).2
    rw [hpl] at hb
    have := (h.plvlt hl' hb).2
    omega
  · intro b d' hb hg
    simp only [Value.ownBlock, Option.some.injEq] at hb
    subst hb
    have := (h.gblt hg).2
    omega

def updG (gb : Gb) (d g : Nat) : Gb := fun d' => if d' = d then some g else gb d'

/-- A new box. -/
theorem Rel.newBox (h : Rel S0 w0 N S gb σ a w) {d : Nat} (hd : d < N) (hn : lkB σ.bx d = none) (us : Array Value) (T : TypeId) {cs : List AV} (hu : PRlist S gb cs us.toList) (h1 : ∀ u ∈ us.toList, u.oneCell' = true) :
    Rel S0 w0 N S (updG gb d w.heap.size) ⟨(d, .ptr d 0) :: σ.e, (d, cs) :: σ.bx, dl σ.pm (.s d)⟩ (a.put (some d) (.pointer (some ⟨w.heap.size, 0, none⟩))) (w.alloc (.cells us T)) := by
  have hgd : gb d = none := by
    cases hg : gb d with
    | none => rfl
    | some g => have := h.dom d g hg; rw [hn] at this; cases this
  have hle : gb.le (updG gb d w.heap.size) := fun d' g hg => by
    simp only [updG]
    split
    · rename_i e; subst e; rw [hgd] at hg; cases hg
    · exact hg
  have h2 : Rel S0 w0 N S gb σ a (w.alloc (.cells us T)) := h.step ((Below.refl _ _).alloc (Nat.le_refl _) _) (fun _ _ _ => rfl) (Mem.le.refl _) (fun g o v hs => by
    have h3 := h.agree _ _ _ hs
    rw [World.cell?_alloc_lt]
    · exact h3
    · exact World.block_lt_of_cell? w _ h3)
  have h3 : Rel S0 w0 N S (updG gb d w.heap.size) ⟨σ.e, (d, cs) :: σ.bx, σ.pm⟩ a (w.alloc (.cells us T)) := by
    have hpl : ∀ p k, lkP σ.pm p = some k → plv (updG gb d w.heap.size) a (w.alloc (.cells us T)) p = plv gb a (w.alloc (.cells us T)) p := by
      intro p k hk
      cases p with
      | s t => rfl
      | b d' off =>
        have hne : d' ≠ d := by
          intro e; subst e
          rcases h.own _ k hk with e1 | ⟨_, _, _, _, _, e1, _⟩ <;> simp [plv, hgd, undef] at e1
        simp only [plv, updG, hne, if_false]
    refine ⟨h2.defers, h2.size, h2.below, h2.ext, h2.le, h2.agree, fun t => PR.mono (Mem.le.refl _) hle _ _ (h2.env t), ?_, ?_, ?_, ?_, ?_, ?_⟩
    · intro d' cs' hcs'
      simp only [lkB] at hcs'
      split at hcs'
      · rename_i e; subst e; cases hcs'
        exact ⟨w.heap.size, us, T, by simp [updG], h.below.size, heap_alloc_new w _, PRlist.mono (Mem.le.refl _) hle _ _ hu, h1, fun o => h.fresh (Nat.le_refl _)⟩
      · obtain ⟨g, us', T', e1, e2, e3, e4, e5, e6⟩ := h2.box d' cs' hcs'
        exact ⟨g, us', T', hle _ _ e1, e2, e3, PRlist.mono (Mem.le.refl _) hle _ _ e4, e5, e6⟩
    · intro d' g hg
      simp only [updG] at hg
      simp only [lkB]
      split
      · rfl
      · rename_i e; rw [if_neg (fun e' => e e'.symm)] at hg; exact h.dom d' g hg
    · intro d1 d2 g g1 g2
      simp only [updG] at g1 g2
      split at g1
      · rename_i e1; cases g1
        split at g2
        · rename_i e2; rw [e1, e2]
        · have := (h.gblt g2).2; omega
      · split at g2
        · cases g2; have := (h.gblt g1).2; omega
        · exact h.inj d1 d2 g g1 g2
    · intro p k hk; rw [hpl p k hk]; exact h2.own p k hk
    · intro p q k l b hk hl g1 g2
      rw [hpl p k hk] at g1
      rw [hpl q l hl] at g2
      exact h2.ownd p q k l b hk hl g1 g2
    · intro p k b d' hk g1
      rw [hpl p k hk] at g1
      simp only [updG]
      split
      · intro e; cases e
        have : plv gb a (w.alloc (.cells us T)) p = plv gb a w p := by
          cases p with
          | s t => rfl
          | b d off =>
            simp only [plv]
            cases hg : gb d with
            | none => rfl
            | some g => simp only []; rw [World.cell?_alloc_lt]; exact (h.gblt hg).2
        rw [this] at g1
        have := (h.plvlt hk g1).2
        omega
      · exact h2.ownb p k b d' hk g1
  exact h3.put hd (by simp only [PR]; exact ⟨_, by simp [updG], rfl⟩)

/-- A block that no box and no place names turns. -/
theorem Rel.off (h : Rel S0 w0 N S gb σ a w) {g : Nat} (hg : w0.heap.size ≤ g) (hb : ∀ d, gb d ≠ some g) (hp : ∀ p k, lkP σ.pm p = some k → (plv gb a w p).ownBlock ≠ some g)
    {w' : World} {S' : Mem} (hw : ∀ k, k ≠ g → w'.heap[k]? = w.heap[k]?) (hsz : w'.heap.size = w.heap.size) (hos : w'.os = w.os) (htp : w'.tape = w.tape) (hou : w'.output = w.output)
    (hle : S.le S') (hof : ∀ g' o, g' ≠ g → S' g' o = S g' o) (hag : ∀ g o v, S' g o = some v → w'.cell? ⟨g, o, none⟩ = some v) : Rel S0 w0 N S' gb σ a w' := by
  have hpl : ∀ p k, lkP σ.pm p = some k → plv gb a w' p = plv gb a w p := by
    intro p k hk
    cases p with
    | s t => rfl
    | b d off =>
      simp only [plv]
      cases hq : gb d with
      | none => rfl
      | some q =>
        simp only []
        rw [World.cell?_of_block (w := w) (hw q (fun e => hb d (by rw [hq, e])))]
  refine ⟨h.defers, h.size, ?_, ?_, h.le.trans hle, hag, fun t => PR.mono hle (Gb.le.refl _) _ _ (h.env t), ?_, h.dom, h.inj, ?_, ?_, ?_⟩
  · exact h.below.trans ⟨hos, htp, hou, by omega, fun k hk => hw k (by omega)⟩
  · intro g' o hg'
    rw [hof g' o (by omega)]; exact h.ext g' o hg'
  · intro d cs hcs
    obtain ⟨q, us, T, e1, e2, e3, e4, e5, e6⟩ := h.box d cs hcs
    have hne : q ≠ g := fun e => hb d (by rw [e1, e])
    exact ⟨q, us, T, e1, e2, by rw [hw q hne]; exact e3, PRlist.mono hle (Gb.le.refl _) _ _ e4, e5, fun o => by rw [hof q o hne]; exact e6 o⟩
  · intro p k hk
    rw [hpl p k hk]
    refine (h.own p k hk).mono (fun q hq => hw q (fun e => hp p k hk (by rw [hq, e]))) (fun q o hq hn => ?_)
    rw [hof q o (fun e => hp p k hk (by rw [hq, e]))]; exact hn
  · intro p q k l b hk hl h1 h2
    rw [hpl p k hk] at h1
    rw [hpl q l hl] at h2
    exact h.ownd p q k l b hk hl h1 h2
  · intro p k b d hk h1
    rw [hpl p k hk] at h1
    exact h.ownb p k b d hk h1

theorem lkB_stB {l : List (Nat × List AV)} {d : Nat} {cs : List AV} (d' : Nat) (h : (lkB l d).isSome) : lkB (stB l d cs) d' = if d' = d then some cs else lkB l d' := by
  induction l with
  | nil => simp [lkB] at h
  | cons x r ih =>
    obtain ⟨k, v⟩ := x
    simp only [stB, lkB] at h ⊢
    split
    · rename_i e; subst e
      simp only [lkB]
      split
      · rename_i e; rw [if_pos e.symm]
      · rename_i e; rw [if_neg (fun e' => e e'.symm)]
    · rename_i e
      rw [if_neg e] at h
      simp only [lkB]
      split
      · rename_i e2; subst e2; rw [if_neg e]
      · exact ih h

/-- A box's cells turn: its own cells, and the stable memory knows none of them. -/
theorem Rel.setBox (h : Rel S0 w0 N S gb σ a w) {d g : Nat} {cs : List AV} (hd : lkB σ.bx d = some cs) (hg : gb d = some g) {us us' : Array Value} {T : TypeId} (hh : w.heap[g]? = some (.cells us T (0, 0)))
    {w' : World} (hw' : w'.heap[g]? = some (.cells us' T (0, 0))) (hw : ∀ k, k ≠ g → w'.heap[k]? = w.heap[k]?) (hsz : w'.heap.size = w.heap.size) (hos : w'.os = w.os) (htp : w'.tape = w.tape) (hou : w'.output = w.output)
    {cs' : List AV} (hu : PRlist S gb cs' us'.toList) (h1 : ∀ u ∈ us'.toList, u.oneCell' = true) {pm : List (Pl × Nat)} (hpm : ∀ p k, lkP pm p = some k → lkP σ.pm p = some k)
    (hsame : ∀ off k, lkP pm (.b d off) = some k → us'[off]? = us[off]?) : Rel S0 w0 N S gb ⟨σ.e, stB σ.bx d cs', pm⟩ a w' := by
  have hS : ∀ o, S g o = none := by
    obtain ⟨g', _, _, e1, _, _, _, _, e6⟩ := h.box d cs hd
    rw [hg] at e1; cases e1; exact e6
  have hbase := h.gblt hg
  have hpl : ∀ p k, lkP pm p = some k → plv gb a w' p = plv gb a w p := by
    intro p k hk
    cases p with
    | s t => rfl
    | b d' off =>
      simp only [plv]
      cases hq : gb d' with
      | none => rfl
      | some q =>
        simp only []
        by_cases e : q = g
        · subst e
          have := h.inj d' d q hq hg
          subst this
          rw [cell_of_row w' q off us' T _ hw', cell_of_row w q off us T _ hh, hsame off k hk]
        · rw [World.cell?_of_block (w := w) (hw q e)]
  refine ⟨h.defers, h.size, ?_, h.ext, h.le, ?_, h.env, ?_, ?_, h.inj, ?_, ?_, ?_⟩
  · exact h.below.trans ⟨hos, htp, hou, by omega, fun k hk => hw k (by omega)⟩
  · intro g' o v hs
    have hne : g' ≠ g := fun e => by subst e; rw [hS] at hs; cases hs
    rw [World.cell?_of_block (w := w) (hw g' hne)]
    exact h.agree _ _ _ hs
  · intro d' cs1 hcs1
    rw [lkB_stB d' (by simp [hd])] at hcs1
    split at hcs1
    · rename_i e; subst e; cases hcs1
      exact ⟨g, us', T, hg, hbase.1, hw', hu, h1, hS⟩
    · rename_i e
      obtain ⟨q, vs, T', e1, e2, e3, e4, e5, e6⟩ := h.box d' cs1 hcs1
      have hne : q ≠ g := fun e' => e (h.inj d' d g (by rw [e1, e']) hg)
      exact ⟨q, vs, T', e1, e2, by rw [hw q hne]; exact e3, e4, e5, e6⟩
  · intro d' g' hg'
    simp only []
    rw [lkB_stB d' (by simp [hd])]
    split
    · rfl
    · exact h.dom d' g' hg'
  · intro p k hk
    rw [hpl p k hk]
    refine (h.own p k (hpm p k hk)).mono (fun q hq => hw q (fun e => ?_)) (fun q o hq hn => hn)
    subst e
    exact h.ownb p k q d (hpm p k hk) hq hg
  · intro p q k l b hk hl h1 h2
    rw [hpl p k hk] at h1
    rw [hpl q l hl] at h2
    exact h.ownd p q k l b (hpm p k hk) (hpm q l hl) h1 h2
  · intro p k b d' hk h1
    rw [hpl p k hk] at h1
    exact h.ownb p k b d' (hpm p k hk) h1
end Go.Ai
