/- YtbepaingfmlpeaaAiState: part of the abstract interpreter library (values, rules, soundness against the model) or of what a function of the seat computes. Conditions: as each theorem says. -/
import Derived.Test.YtbepaingfmlpeaaAiRel
namespace Go.Ai
open Go.RowKit

def plv (gb : Gb) (a : Act) (w : World) : Pl → Value
  | .s t => a.tmps.getD t undef
  | .b d off => match gb d with
    | some g => (w.cell? ⟨g, off, none⟩).getD undef
    | none => undef

/-- The slice's array is the running function's own, from the slice's length on unseen. -/
def OwnR (S : Mem) (base : Nat) (w : World) (k : Nat) (v : Value) : Prop :=
  v = .slice none 0 0 ∨ ∃ g n cap cur T, v = .slice (some ⟨g, 0, none⟩) n cap ∧ base ≤ g ∧ w.heap[g]? = some (.cells cur T (0, 0)) ∧ n ≤ cap ∧ cap ≤ maxLen ∧ cur.size = cap * k ∧ (∀ o, n * k ≤ o → S g o = none)

structure Rel (S0 : Mem) (w0 : World) (N : Nat) (S : Mem) (gb : Gb) (σ : St) (a : Act) (w : World) : Prop where
  defers : a.defers = []
  size : a.tmps.size = N
  below : Below w0.heap.size w0 w
  ext : ∀ g o, g < w0.heap.size → S g o = S0 g o
  le : S0.le S
  agree : ∀ g o v, S g o = some v → w.cell? ⟨g, o, none⟩ = some v
  env : ∀ t, PR S gb (lk σ.e t) (a.tmps.getD t undef)
  box : ∀ d cs, lkB σ.bx d = some cs → ∃ g us T, gb d = some g ∧ w0.heap.size ≤ g ∧ w.heap[g]? = some (.cells us T (0, 0)) ∧ PRlist S gb cs us.toList ∧ (∀ u ∈ us.toList, u.oneCell' = true) ∧ (∀ o, S g o = none)
  dom : ∀ d g, gb d = some g → (lkB σ.bx d).isSome
  inj : ∀ d d' g, gb d = some g → gb d' = some g → d = d'
  own : ∀ p k, lkP σ.pm p = some k → OwnR S w0.heap.size w k (plv gb a w p)
  ownd : ∀ p q k l b, lkP σ.pm p = some k → lkP σ.pm q = some l → (plv gb a w p).ownBlock = some b → (plv gb a w q).ownBlock = some b → p = q
  ownb : ∀ p k b d, lkP σ.pm p = some k → (plv gb a w p).ownBlock = some b → gb d ≠ some b

theorem lkP_dl (l : List (Pl × Nat)) (p q : Pl) : lkP (dl l p) q = if q = p then none else lkP l q := by
  induction l with
  | nil => simp [dl, lkP]
  | cons x r ih =>
    obtain ⟨y, k⟩ := x
    simp only [dl]
    split
    · rename_i h; subst h
      rw [ih]; simp only [lkP]
      split
      · rfl
      · rename_i h2; rw [if_neg (fun e => h2 e.symm)]
    · rename_i h
      simp only [lkP, ih]
      split
      · rename_i h2; subst h2; rw [if_neg (fun e => h e)]
      · rfl
theorem lkP_dlr (l : List (Pl × Nat)) (d off n : Nat) (q : Pl) {k : Nat} (h : lkP (dlr l d off n) q = some k) : lkP l q = some k ∧ ∀ o, q = .b d o → ¬ (off ≤ o ∧ o < off + n) := by
  induction l with
  | nil => simp [dlr, lkP] at h
  | cons x r ih =>
    obtain ⟨y, k'⟩ := x
    cases y with
    | s t =>
      simp only [dlr, lkP] at h ⊢
      split
      · rename_i h2; subst h2; rw [if_pos rfl] at h; exact ⟨h, by simp⟩
      · rename_i h2; rw [if_neg h2] at h; exact ih h
    | b e o =>
      simp only [dlr] at h
      split at h
      · rename_i h2
        obtain ⟨h3, h4⟩ := ih h
        simp only [lkP]
        refine ⟨?_, h4⟩
        rw [if_neg]
        · exact h3
        · intro e'; subst e'; obtain ⟨rfl, h5⟩ := h2; exact h4 o rfl h5
      · rename_i h2
        simp only [lkP] at h ⊢
        split
        · rename_i h3; subst h3; rw [if_pos rfl] at h
          refine ⟨h, fun o' e' => ?_⟩
          simp only [Pl.b.injEq] at e'
          obtain ⟨rfl, rfl⟩ := e'
          exact fun h5 => h2 ⟨rfl, h5⟩
        · rename_i h3; rw [if_neg h3] at h; exact ih h

theorem OwnR.mono {S S' : Mem} {base : Nat} {w w' : World} {k : Nat} {v : Value} (h : OwnR S base w k v) (hh : ∀ g, v.ownBlock = some g → w'.heap[g]? = w.heap[g]?) (hs : ∀ g o, v.ownBlock = some g → S g o = none → S' g o = none) : OwnR S' base w' k v := by
  rcases h with h | ⟨g, n, cap, cur, T, rfl, h2, h3, h4, h5, h6, h7⟩
  · exact .inl h
  · refine .inr ⟨g, n, cap, cur, T, rfl, h2, ?_, h4, h5, h6, fun o ho => hs g o rfl (h7 o ho)⟩
    rw [hh g rfl]; exact h3

theorem getD_set {xs : Array Value} {d t : Nat} {v : Value} (hd : d < xs.size) : (xs.setIfInBounds d v).getD t undef = if d = t then v else xs.getD t undef := by
  simp only [Array.getD_eq_getD_getElem?, Array.getElem?_setIfInBounds]
  split
  · rename_i h; subst h; simp
  · rfl

variable {S0 : Mem} {w0 : World} {N : Nat} {S : Mem} {gb : Gb} {σ : St} {a : Act} {w : World}

theorem plv_put {d : Nat} {u : Value} (hd : d < a.tmps.size) (p : Pl) : plv gb (a.put (some d) u) w p = if p = .s d then u else plv gb a w p := by
  cases p with
  | s t =>
    simp only [plv, Act.put, getD_set hd, Pl.s.injEq]
    by_cases h : d = t
    · subst h; simp
    · rw [if_neg h, if_neg (fun e => h e.symm)]
  | b d off => simp [plv]

/-- A value into a slot. -/
theorem Rel.put (h : Rel S0 w0 N S gb σ a w) {d : Nat} (hd : d < N) {v : AV} {u : Value} (hp : PR S gb v u) : Rel S0 w0 N S gb (σ.put d v) (a.put (some d) u) w := by
  have hd' : d < a.tmps.size := by rw [h.size]; exact hd
  refine ⟨h.defers, by simp [Act.put, h.size], h.below, h.ext, h.le, h.agree, ?_, h.box, h.dom, h.inj, ?_, ?_, ?_⟩
  · intro t
    simp only [Act.put, getD_set hd', St.put, lk]
    split
    · exact hp
    · exact h.env t
  · intro p k hk
    simp only [St.put, lkP_dl] at hk
    split at hk
    · cases hk
    · rename_i hne
      rw [plv_put hd', if_neg hne]; exact h.own p k hk
  · intro p q k l b hk hl h1 h2
    simp only [St.put, lkP_dl] at hk hl
    split at hk
    · cases hk
    · rename_i hne
      split at hl
      · cases hl
      · rename_i hne2
        rw [plv_put hd', if_neg hne] at h1
        rw [plv_put hd', if_neg hne2] at h2
        exact h.ownd p q k l b hk hl h1 h2
  · intro p k b d' hk h1
    simp only [St.put, lkP_dl] at hk
    split at hk
    · cases hk
    · rename_i hne
      rw [plv_put hd', if_neg hne] at h1
      exact h.ownb p k b d' hk h1

/-- A slice of the function's own into a slot. 'hq': no other place's array is this one. -/
theorem Rel.puto (h : Rel S0 w0 N S gb σ a w) {d : Nat} (hd : d < N) {v : AV} {u : Value} (hp : PR S gb v u) {k : Nat} (ho : OwnR S w0.heap.size w k u)
    (hq : ∀ p l b, lkP σ.pm p = some l → p ≠ .s d → (plv gb a w p).ownBlock = some b → u.ownBlock ≠ some b) (hb : ∀ b d', u.ownBlock = some b → gb d' ≠ some b) :
    Rel S0 w0 N S gb (σ.puto d v k) (a.put (some d) u) w := by
  have hd' : d < a.tmps.size := by rw [h.size]; exact hd
  have h1 := h.put hd hp
  refine ⟨h1.defers, h1.size, h1.below, h1.ext, h1.le, h1.agree, h1.env, h1.box, h1.dom, h1.inj, ?_, ?_, ?_⟩
  · intro p l hl
    simp only [St.puto, lkP, lkP_dl] at hl
    rw [plv_put hd']
    split at hl
    · rename_i e; subst e; simp only [Option.some.injEq] at hl; subst hl; rw [if_pos rfl]; exact ho
    · rename_i e
      rw [if_neg (fun e' => e e'.symm)] at hl ⊢
      exact h.own p l hl
  · intro p q l m b hl hm g1 g2
    simp only [St.puto, lkP, lkP_dl] at hl hm
    rw [plv_put hd'] at g1 g2
    by_cases e1 : p = .s d
    · by_cases e2 : q = .s d
      · rw [e1, e2]
      · rw [if_pos e1] at g1
        rw [if_neg e2] at g2
        rw [if_neg (fun e' => e2 e'.symm), if_neg e2] at hm
        exact absurd g1 (hq q m b hm e2 g2)
    · rw [if_neg e1] at g1
      rw [if_neg (fun e' => e1 e'.symm), if_neg e1] at hl
      by_cases e2 : q = .s d
      · rw [if_pos e2] at g2
        exact absurd g2 (hq p l b hl e1 g1)
      · rw [if_neg e2] at g2
        rw [if_neg (fun e' => e2 e'.symm), if_neg e2] at hm
        exact h.ownd p q l m b hl hm g1 g2
  · intro p l b d' hl g1
    simp only [St.puto, lkP, lkP_dl] at hl
    rw [plv_put hd'] at g1
    by_cases e1 : p = .s d
    · rw [if_pos e1] at g1; exact hb b d' g1
    · rw [if_neg e1] at g1
      rw [if_neg (fun e' => e1 e'.symm), if_neg e1] at hl
      exact h.ownb p l b d' hl g1

/-- A permission let go. -/
theorem Rel.drop (h : Rel S0 w0 N S gb σ a w) (p : Pl) : Rel S0 w0 N S gb ⟨σ.e, σ.bx, dl σ.pm p⟩ a w := by
  refine ⟨h.defers, h.size, h.below, h.ext, h.le, h.agree, h.env, h.box, h.dom, h.inj, ?_, ?_, ?_⟩
  · intro q k hk
    simp only [lkP_dl] at hk
    split at hk
    · cases hk
    · exact h.own q k hk
  · intro q r k l b hk hl
    simp only [lkP_dl] at hk hl
    split at hk
    · cases hk
    · split at hl
      · cases hl
      · exact h.ownd q r k l b hk hl
  · intro q k b d hk
    simp only [lkP_dl] at hk
    split at hk
    · cases hk
    · exact h.ownb q k b d hk

/-- The world goes on: old blocks stay, stable memory grows; places keep their arrays. -/
theorem Rel.step (h : Rel S0 w0 N S gb σ a w) {S' : Mem} {w' : World} (hb : Below w.heap.size w w') (hext : ∀ g o, g < w.heap.size → S' g o = S g o) (hle : S.le S')
    (hag : ∀ g o v, S' g o = some v → w'.cell? ⟨g, o, none⟩ = some v) : Rel S0 w0 N S' gb σ a w' := by
  have hpl : ∀ p k, lkP σ.pm p = some k → plv gb a w' p = plv gb a w p := by
    intro p k hk
    cases p with
    | s t => rfl
    | b d off =>
      simp only [plv]
      cases hg : gb d with
      | none => rfl
      | some g =>
        have hs := h.dom d g hg
        obtain ⟨cs, hcs⟩ := Option.isSome_iff_exists.1 hs
        obtain ⟨g', us, T, e1, _, e3, _⟩ := h.box d cs hcs
        rw [hg] at e1
        cases e1
        have : g < w.heap.size := (Array.getElem?_eq_some_iff.1 e3).1
        simp only []
        rw [hb.cell (p := ⟨g, off, none⟩) this]
  have hlt : ∀ p k b, lkP σ.pm p = some k → (plv gb a w p).ownBlock = some b → b < w.heap.size := by
    intro p k b hk hbk
    rcases h.own p k hk with h1 | ⟨g, n, cap, cur, T, h1, _, h3, _⟩
    · rw [h1] at hbk; simp [Value.ownBlock] at hbk
    · rw [h1] at hbk; simp [Value.ownBlock] at hbk; subst hbk; exact (Array.getElem?_eq_some_iff.1 h3).1
  refine ⟨h.defers, h.size, h.below.trans (hb.mono h.below.size), ?_, h.le.trans hle, hag, fun t => PR.mono hle (Gb.le.refl _) _ _ (h.env t), ?_, h.dom, h.inj, ?_, ?_, ?_⟩
  · intro g o hg
    rw [hext g o (Nat.lt_of_lt_of_le hg h.below.size)]; exact h.ext g o hg
  · intro d cs hcs
    obtain ⟨g, us, T, e1, e2, e3, e4, e5, e6⟩ := h.box d cs hcs
    have hg : g < w.heap.size := (Array.getElem?_eq_some_iff.1 e3).1
    exact ⟨g, us, T, e1, e2, by rw [hb.block g hg]; exact e3, PRlist.mono hle (Gb.le.refl _) _ _ e4, e5, fun o => by rw [hext g o hg]; exact e6 o⟩
  · intro p k hk
    rw [hpl p k hk]
    exact (h.own p k hk).mono (fun g hg => hb.block g (hlt p k g hk hg)) (fun g o hg hn => by rw [hext g o (hlt p k g hk hg)]; exact hn)
  · intro p q k l b hk hl h1 h2
    rw [hpl p k hk] at h1
    rw [hpl q l hl] at h2
    exact h.ownd p q k l b hk hl h1 h2
  · intro p k b d hk h1
    rw [hpl p k hk] at h1
    exact h.ownb p k b d hk h1

theorem Rel.drew (h : Rel S0 w0 N S gb σ a w) : Rel S0 w0 N S gb σ a w.drew :=
  h.step ((Below.refl _ _).drew) (fun _ _ _ => rfl) (Mem.le.refl _) h.agree

/-- Less is known. -/
theorem Rel.weak (h : Rel S0 w0 N S gb σ a w) {τ : St} (hw : Weak σ τ) : ∃ gb', Rel S0 w0 N S gb' τ a w := by
  have lkmem : ∀ (l : List (Nat × AV)) t, lk l t ≠ .undef → (t, lk l t) ∈ l := by
    intro l t
    induction l with
    | nil => intro hne; exact absurd rfl hne
    | cons x r ih =>
      obtain ⟨k, v⟩ := x
      simp only [lk]
      split
      · rename_i e; subst e; intro _; simp
      · intro hne; exact List.mem_cons_of_mem _ (ih hne)
  have lkBmem : ∀ (l : List (Nat × List AV)) t cs, lkB l t = some cs → (t, cs) ∈ l := by
    intro l t cs
    induction l with
    | nil => intro hne; cases hne
    | cons x r ih =>
      obtain ⟨k, v⟩ := x
      simp only [lkB]
      split
      · rename_i e; subst e; intro e2; cases e2; simp
      · intro hne; exact List.mem_cons_of_mem _ (ih hne)
  have lkPmem : ∀ (l : List (Pl × Nat)) t k, lkP l t = some k → (t, k) ∈ l := by
    intro l t k
    induction l with
    | nil => intro hne; cases hne
    | cons x r ih =>
      obtain ⟨q, v⟩ := x
      simp only [lkP]
      split
      · rename_i e; subst e; intro e2; cases e2; simp
      · intro hne; exact List.mem_cons_of_mem _ (ih hne)
  let gb' : Gb := fun d => if (lkB τ.bx d).isSome then gb d else none
  have hgb : ∀ d g, gb' d = some g → gb d = some g := by
    intro d g hg
    simp only [gb'] at hg
    split at hg
    · exact hg
    · cases hg
  have hsame : ∀ d, (lkB τ.bx d).isSome → gb d = gb' d := by
    intro d hd; simp only [gb']; rw [if_pos hd]
  have hpl : ∀ p k, lkP τ.pm p = some k → plv gb' a w p = plv gb a w p := by
    intro p k hk
    cases p with
    | s t => rfl
    | b d off =>
      have := hw.pi _ (lkPmem _ _ _ hk) d (by simp [Pl.ids])
      simp only [plv, hsame d this]
  have wkPR : ∀ v u x, wk v u → PR S gb v x → PR S gb u x := by
    rintro v u x (rfl | ⟨rfl, rfl⟩) hp
    · exact hp
    · simp only [PR] at hp ⊢; exact .inl ⟨hp, trivial⟩
  have wkPRL : ∀ vs us xs, wkL vs us → PRlist S gb vs xs → PRlist S gb us xs := by
    intro vs
    induction vs with
    | nil => intro us xs h hp; cases us <;> simp [wkL] at h; exact hp
    | cons v r ih =>
      intro us xs h hp
      cases us with
      | nil => simp [wkL] at h
      | cons u s =>
        simp only [wkL] at h
        simp only [PRlist] at hp ⊢
        obtain ⟨x, xs', rfl, h1, h2⟩ := hp
        exact ⟨x, xs', rfl, wkPR _ _ _ h.1 h1, ih _ _ h.2 h2⟩
  -- a permission is kept, or the place holds nil
  have hpk : ∀ p k, lkP τ.pm p = some k → lkP σ.pm p = some k ∨ plv gb a w p = .slice none 0 0 := by
    intro p k hk
    rcases hw.p _ (lkPmem _ _ _ hk) with h1 | h1
    · exact .inl h1
    · right
      cases p with
      | s t => have := h.env t; simp only [nilAt] at h1; rw [h1] at this; simpa [PR, plv] using this
      | b d off =>
        simp only [nilAt] at h1
        split at h1
        · rename_i cs hcs
          obtain ⟨g, us, T, e1, _, e3, e4, _⟩ := h.box d cs hcs
          obtain ⟨u, hu, hp⟩ := e4.get h1
          simp only [PR] at hp
          simp only [plv, e1]
          have : w.cell? ⟨g, off, none⟩ = us[off]? := by simp [World.cell?, e3]
          rw [this]
          have hu2 : us[off]? = some u := by simpa using hu
          rw [hu2, hp]; rfl
        · cases h1
  have hblk : ∀ p k b, lkP τ.pm p = some k → (plv gb a w p).ownBlock = some b → lkP σ.pm p = some k := by
    intro p k b hk hb
    rcases hpk p k hk with h1 | h1
    · exact h1
    · rw [h1] at hb; simp [Value.ownBlock] at hb
  refine ⟨gb', h.defers, h.size, h.below, h.ext, h.le, h.agree, ?_, ?_, ?_, ?_, ?_, ?_, ?_⟩
  · intro t
    by_cases hu : lk τ.e t = .undef
    · rw [hu]; simp [PR]
    · have hm := lkmem _ _ hu
      have he := hw.e _ hm
      have := h.env t
      simp only at he
      exact PR.restr _ _ (fun d hd => hsame d (hw.ei _ hm d hd)) (wkPR _ _ _ he this)
  · intro d cs hcs
    have hm := lkBmem _ _ _ hcs
    have hb := hw.b _ hm
    simp only [wkB] at hb
    split at hb
    · rename_i cs' hcs'
      obtain ⟨g, us, T, e1, e2, e3, e4, e5, e6⟩ := h.box d cs' hcs'
      exact ⟨g, us, T, by rw [← hsame d (by simp [hcs])]; exact e1, e2, e3, PRlist.restr _ _ (fun d' hd => hsame d' (hw.bi _ hm d' hd)) (wkPRL _ _ _ hb e4), e5, e6⟩
    · cases hb
  · intro d g hg
    simp only [gb'] at hg
    split at hg
    · assumption
    · cases hg
  · exact fun d d' g h1 h2 => h.inj d d' g (hgb _ _ h1) (hgb _ _ h2)
  · intro p k hk
    rw [hpl p k hk]
    rcases hpk p k hk with h1 | h1
    · exact h.own p k h1
    · rw [h1]; exact .inl rfl
  · intro p q k l b hk hl h1 h2
    rw [hpl p k hk] at h1
    rw [hpl q l hl] at h2
    exact h.ownd p q k l b (hblk p k b hk h1) (hblk q l b hl h2) h1 h2
  · intro p k b d hk h1 hg
    rw [hpl p k hk] at h1
    exact h.ownb p k b d (hblk p k b hk h1) h1 (hgb _ _ hg)
end Go.Ai
