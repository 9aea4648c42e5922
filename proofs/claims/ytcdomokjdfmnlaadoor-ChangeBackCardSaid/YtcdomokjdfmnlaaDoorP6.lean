/- YtcdomokjdfmnlaaDoorP6: part of the abstract interpreter library (values, rules, soundness against the model) or of what a function of the seat computes. Conditions: as each theorem says. -/
import Derived.Test.YtcdomokjdfmnlaaDoorP5
import Derived.Test.YtcdomokjdfmnlaaDoorP3
set_option linter.unusedSimpArgs false
set_option linter.unusedVariables false
namespace Go.Ai
open Go.Proofs
def Ru.zero : Ru := ⟨[], false, 0, 0, 0, 0, 0⟩
theorem ruO_get (o : Option Ru) : ruO o = (o.getD Ru.zero).row := by cases o <;> rfl
theorem ru_eq (w r : Ru) : cellsEq [.s, .b, .i, .i, .i, .i, .i] w.row r.row = some (decide (w = r)) := by
  obtain ⟨a1, a2, a3, a4, a5, a6, a7⟩ := w
  obtain ⟨b1, b2, b3, b4, b5, b6, b7⟩ := r
  have e : ∀ x y : Nat, (((x : Int) == (y : Int)) : Bool) = (x == y) := fun x y => by rw [Bool.eq_iff_iff]; simp only [beq_iff_eq]; omega
  simp only [Ru.row, cellsEq, cellEq, if_true, e, Ru.mk.injEq, Option.some.injEq]
  rw [Bool.eq_iff_iff]
  simp only [Bool.and_eq_true, beq_iff_eq, decide_eq_true_eq, Bool.and_true]
/-- What is told of one rule of the new goal. -/
def ruT (x y : Gl) (S : Bool) (r : Ru) : List AV := tn x.n r.n (kindP (rF (some y) r.n).isSome (S && decide ((rF (some y) r.n).getD Ru.zero = r)))
def goalT (x y : Gl) (had : Bool) : List (List AV) :=
  [tn x.n [] (kindP had (had && stP y x))] ++ x.ru.map (ruT x y (had && stP y x)) ++ goneR y.n (some x) y.ru
set_option maxRecDepth 20000 in
theorem goal_tail (x y : Gl) (had S : Bool) (L : List (List AV)) (hl : L.length ≤ 900000) (hL : ∀ r ∈ L, r.length = 3) (hx : x.ru.length ≤ 10) (hy : y.ru.length ≤ 10) (d : Nat) (b : Id) (hb : b.isIt = false) (hbd : b.isNw d = false)
    (e : List (Nat × AV)) (l0 : lk e 0 = .ptr (.up b) 0) (l3 : lk e 3 = .bool had) (l5 : lk e 5 = .ptr (.n 5) 0) (l6 : lk e 6 = .ptr (.n 6) 0) (l8 : lk e 8 = .bool S) :
    wpA (SpH Tryd.prog gl) (AC.tl 2 c58) (postH d [] ⟨.tup [], [(b, [.sl (L ++ ([tn x.n [] (kindP had S)] ++ x.ru.map (ruT x y S) ++ goneR y.n (some x) y.ru))])], [(.b b 0, 3)]⟩)
      ⟨e, [(.n 6, y.row), (.n 5, x.row), (.up b, [.sl L])], [(.b (.up b) 0, 3)]⟩ := by
  have hib := inn_notNw hbd
  have ex : x.row = [.str x.n, .int .u32 x.t, i6 x.g, i6 x.a, i6 x.o, i6 x.c, .sl (x.lb.map Lb.row), .sl (x.ru.map Ru.row)] := rfl
  have rat : ∀ i (h : i < x.ru.length), ∀ h2, (x.ru.map Ru.row)[i]'h2 = [.str x.ru[i].n, .bool x.ru[i].p, i6 x.ru[i].l, i6 x.ru[i].s, u x.ru[i].f, i6 x.ru[i].w, i6 x.ru[i].k] := fun i h h2 => by simp [Ru.row]
  have rl : (x.ru.map Ru.row).length = x.ru.length := by simp
  have P1 : y.row.length = 8 := rfl
  have P2 : idsL y.row = [] := rfl
  have P4 : shutL y.row = some y.row := rfl
  have hw := fun n => ruleOf_some y n (by omega)
  have KD := kind_spec had S
  have A0 := add_spec L (by omega) hL x.n [] (kindP had S) 25 (.up b) hb rfl
  obtain ⟨LL, hLL⟩ : ∃ LL : Nat → List (List AV), LL = fun i => L ++ [tn x.n [] (kindP had S)] ++ (x.ru.take i).map (ruT x y S) := ⟨_, rfl⟩
  have s0 : L ++ [tn x.n [] (kindP had S)] = LL 0 := by rw [hLL]; simp
  have sN : L ++ ([tn x.n [] (kindP had S)] ++ x.ru.map (ruT x y S) ++ goneR y.n (some x) y.ru) = LL x.ru.length ++ goneR y.n (some x) y.ru := by rw [hLL]; simp
  have s1 : ∀ i (h : i < x.ru.length), LL (i + 1) = LL i ++ [ruT x y S x.ru[i]] := fun i h => by
    simp only [hLL, List.take_succ_eq_append_getElem h, List.map_append, List.append_assoc, List.map_cons, List.map_nil]
  have s2 : ∀ i, i ≤ x.ru.length → (LL i).length ≤ L.length + 1 + i := fun i h => by
    simp only [hLL, List.length_append, List.length_map, List.length_take, List.length_singleton]; omega
  have s3 : ∀ i, ∀ r ∈ LL i, r.length = 3 := fun i r hr => by
    simp only [hLL, List.mem_append, List.mem_singleton, List.mem_map] at hr
    rcases hr with (h | h) | ⟨z, _, h⟩
    · exact hL r h
    · subst h; rfl
    · subst h; rfl
  have A := fun i (h : i ≤ x.ru.length) g r k => add_spec (LL i) (by have := s2 i h; omega) (s3 i) g r k 53 (.up b) hb rfl
  have G := gone_spec y (some x) (LL x.ru.length) (by have := s2 x.ru.length (Nat.le_refl _); omega) (s3 _) (by show x.ru.length ≤ _; omega) 58 (.up b) hb rfl
  simp only [glO] at G
  have hq := fun i (h : i < x.ru.length) => ru_eq ((rF (some y) x.ru[i].n).getD Ru.zero) x.ru[i]
  have hrt : ∀ i (h : i < x.ru.length), ruT x y S x.ru[i] = tn x.n x.ru[i].n (kindP (rF (some y) x.ru[i].n).isSome (S && decide ((rF (some y) x.ru[i].n).getD Ru.zero = x.ru[i]))) := fun i h => rfl
  clear hLL s2 s3 hL
  rw [sN]
  rw [s0] at A0
  rw [ex] at G ⊢
  generalize LL x.ru.length ++ goneR y.n (some x) y.ru = FIN at *
  generalize kindP had S = K0 at *
  generalize y.row = P at *
  generalize x.lb.map Lb.row = LB at *
  generalize x.ru.map Ru.row = RU at *
  have e8 : List.take 8 P = P := List.take_of_length_le (by omega)
  simp only [c58, AC.tl]
  simp -implicitDefEqProofs [l0, l3, l5, l6, l8]
  refine onC_mk _ (KD) ?_
  simp -implicitDefEqProofs [l0, l3, l5, l6, l8]
  refine onH_mk _ _ (A0) ⟨?_, ?_, ?_, ?_, ?_, ?_, ?_⟩ ?_
  iterate 7 (· simp -implicitDefEqProofs [l0, l3, l5, l6, l8])
  simp -implicitDefEqProofs [l0, l3, l5, l6, l8, rl]
  refine wp_lpk (α := Nat) (fun i => ⟨[(0, .ptr (.up b) 0), (5, .ptr (.n 5) 0), (6, .ptr (.n 6) 0), (8, .bool S), (27, .sl RU), (28, i6 x.ru.length), (29, i6 i)], [(.n 5, [.str x.n, .int .u32 x.t, i6 x.g, i6 x.a, i6 x.o, i6 x.c, .sl LB, .sl RU]), (.n 6, P), (.up b, [.sl (LL i)])], [(.b (.up b) 0, 3)]⟩)
    (fun i => i ≤ x.ru.length) (fun i => x.ru.length - i) ?_ 0 ?_ ?_
  · rintro K i hK h1
    by_cases g : i < x.ru.length
    · have t1 : IntKind.i64.wrap ((i : Int) + 1) = (i + 1 : Nat) := by rw [wrap_i64] <;> omega
      have ra := rat i g
      have gR : i < RU.length := by omega
      have hw := hw x.ru[i].n
      have A := fun k => A i h1 x.n x.ru[i].n k
      have s1 := s1 i g
      have hrt := hrt i g
      have hq := hq i g
      rw [ruO_get] at hw
      have er : x.ru[i].row = [.str x.ru[i].n, .bool x.ru[i].p, i6 x.ru[i].l, i6 x.ru[i].s, u x.ru[i].f, i6 x.ru[i].w, i6 x.ru[i].k] := rfl
      rw [er] at hq
      have q1 : ((rF (some y) x.ru[i].n).getD Ru.zero).row.length = 7 := rfl
      have q2 : idsL ((rF (some y) x.ru[i].n).getD Ru.zero).row = [] := rfl
      have q3 : shutL ((rF (some y) x.ru[i].n).getD Ru.zero).row = some ((rF (some y) x.ru[i].n).getD Ru.zero).row := rfl
      have fin : ∀ σ', Weak σ' ⟨[(0, .ptr (.up b) 0), (5, .ptr (.n 5) 0), (6, .ptr (.n 6) 0), (8, .bool S), (27, .sl RU), (28, i6 x.ru.length), (29, i6 (i + 1 : Nat))], [(.n 5, [.str x.n, .int .u32 x.t, i6 x.g, i6 x.a, i6 x.o, i6 x.c, .sl LB, .sl RU]), (.n 6, P), (.up b, [.sl (LL (i + 1))])], [(.b (.up b) 0, 3)]⟩ → K σ' :=
        fun σ' hσ => hK (i + 1) σ' (by omega) (by omega) hσ
      clear hK rat er
      rw [s1, hrt] at fin
      generalize decide ((rF (some y) x.ru[i].n).getD Ru.zero = x.ru[i]) = w at *
      generalize ((rF (some y) x.ru[i].n).getD Ru.zero).row = q at *
      generalize (rF (some y) x.ru[i].n).isSome = f at *
      generalize x.ru[i] = r at *
      have e7 : List.take 7 q = q := List.take_of_length_le (by omega)
      generalize LL i = M at *
      simp -implicitDefEqProofs [g, gR, ra, rl, P1, P4, e8]
      refine onC_mk _ (hw) ?_
      cases S
      · have KD2 := kind_spec f false
        have A := A (kindP f false)
        simp only [Bool.false_and] at fin
        generalize kindP f false = kk at *
        simp -implicitDefEqProofs [q1, q2, q3, e7]
        refine onC_mk _ (KD2) ?_
        simp -implicitDefEqProofs [q1, q2, q3, e7]
        refine onH_mk _ _ (A) ⟨?_, ?_, ?_, ?_, ?_, ?_, ?_⟩ ?_
        iterate 7 (· simp -implicitDefEqProofs [P2, q2])
        simp -implicitDefEqProofs [t1]
        refine fin _ ?_
        refine weak_mk ?_ ?_ ?_ ?_ ?_ ?_ <;> simp -implicitDefEqProofs [t1, P2, q2]
      · have KD2 := kind_spec f w
        have A := A (kindP f w)
        simp only [Bool.true_and] at fin
        generalize kindP f w = kk at *
        simp -implicitDefEqProofs [q1, q2, q3, e7, hq]
        refine onC_mk _ (KD2) ?_
        simp -implicitDefEqProofs [q1, q2, q3, e7, hq]
        refine onH_mk _ _ (A) ⟨?_, ?_, ?_, ?_, ?_, ?_, ?_⟩ ?_
        iterate 7 (· simp -implicitDefEqProofs [P2, q2])
        simp -implicitDefEqProofs [t1]
        refine fin _ ?_
        refine weak_mk ?_ ?_ ?_ ?_ ?_ ?_ <;> simp -implicitDefEqProofs [t1, P2, q2]
    · obtain rfl : i = x.ru.length := by omega
      clear hK
      simp -implicitDefEqProofs [P1, e8]
      refine onH_mk _ _ (G) ⟨?_, ?_, ?_, ?_, ?_, ?_, ?_⟩ ?_
      iterate 7 (· simp -implicitDefEqProofs [P1, P2])
      simp -implicitDefEqProofs
      refine postH_r ⟨?_, ?_, ?_, ?_, ?_, ?_⟩ <;> simp -implicitDefEqProofs [hib, hb]
  · exact Nat.zero_le _
  · refine weak_mk ?_ ?_ ?_ ?_ ?_ ?_ <;> simp -implicitDefEqProofs [P2, l0, l3, l5, l6, l8]
set_option maxRecDepth 20000 in
theorem pgoal_spec (x y : Gl) (had : Bool) (L : List (List AV)) (hl : L.length ≤ 900000) (hL : ∀ r ∈ L, r.length = 3) (hx : x.ru.length ≤ 10) (hy : y.ru.length ≤ 10) (d : Nat) (b : Id) (hb : b.isIt = false) (hbd : b.isNw d = false) :
    SpH Tryd.prog gl 58 d ⟨[.ptr b 0, .agg x.row, .agg y.row, .bool had], [(b, [.sl L])], [(.b b 0, 3)]⟩ ⟨.tup [], [(b, [.sl (L ++ goalT x y had)])], [(.b b 0, 3)]⟩ := by
  refine h58 rfl ?_
  have ec : c58 = AC.cutAt 2 (AC.tl 2 c58) c58 := rfl
  rw [ec]
  unfold goalT
  have T := goal_tail x y had (had && stP y x) L hl hL hx hy d b hb hbd
  have W := stays_spec y x hy hx
  have P1 : y.row.length = 8 := rfl
  have P2 : idsL y.row = [] := rfl
  have P3 : ∀ f, mpL f y.row = y.row := fun f => mpL_noids P2
  have P4 : shutL y.row = some y.row := rfl
  have Q1 : x.row.length = 8 := rfl
  have Q2 : idsL x.row = [] := rfl
  have Q3 : ∀ f, mpL f x.row = x.row := fun f => mpL_noids Q2
  have Q4 : shutL x.row = some x.row := rfl
  generalize AC.tl 2 c58 = TT at T ⊢
  generalize (L ++ ([tn x.n [] (kindP had (had && stP y x))] ++ x.ru.map (ruT x y (had && stP y x)) ++ goneR y.n (some x) y.ru)) = FIN at *
  generalize stP y x = S at *
  generalize y.row = P at *
  generalize x.row = Q at *
  have e8 : List.take 8 P = P := List.take_of_length_le (by omega)
  have f8 : List.take 8 Q = Q := List.take_of_length_le (by omega)
  simp only [inSt, mpB, mpL, AV.mp, mpP, P3, Q3, c58, AC.cutAt]
  cases had
  · simp -implicitDefEqProofs [P1, Q1, e8, f8]
    refine T _ ?_ ?_ ?_ ?_ ?_ <;> simp -implicitDefEqProofs
  · simp -implicitDefEqProofs [P1, P4, Q4, Q1, e8, f8]
    refine onC_mk _ (W) ?_
    simp -implicitDefEqProofs
    refine T _ ?_ ?_ ?_ ?_ ?_ <;> simp -implicitDefEqProofs
end Go.Ai
set_option linter.unusedSimpArgs false
set_option linter.unusedVariables false
namespace Go.Ai
open Go.Proofs
def wasG (l : List Gl) (n : List UInt8) : Gl := (gF l n).getD Gl.zero
def newT (a : List Gl) (x : Gl) : List (List AV) := goalT x (wasG a x.n) (gF a x.n).isSome
def oldT (b : List Gl) (x : Gl) : List (List AV) := if (gF b x.n).isSome = true then [] else [tn x.n [] 4] ++ goneR x.n none x.ru
def planP (a b : List Gl) : List (List AV) := b.flatMap (newT a) ++ a.flatMap (oldT b)
theorem flatMap_snoc {α β : Type} (f : α → List β) (l : List α) (i : Nat) (h : i < l.length) : (l.take (i + 1)).flatMap f = (l.take i).flatMap f ++ f l[i] := by
  rw [List.take_succ_eq_append_getElem h, List.flatMap_append]; simp
theorem flatMap_len {α β : Type} (f : α → List β) (k : Nat) : ∀ (l : List α), (∀ x ∈ l, (f x).length ≤ k) → (l.flatMap f).length ≤ k * l.length
  | [], _ => by simp
  | x :: r, h => by
    have h1 := h x (by simp)
    have h2 := flatMap_len f k r (fun y hy => h y (by simp [hy]))
    simp only [List.flatMap_cons, List.length_append, List.length_cons, Nat.mul_add, Nat.mul_one]; omega
theorem goalT_len (x y : Gl) (had : Bool) (hx : x.ru.length ≤ 10) (hy : y.ru.length ≤ 10) : (goalT x y had).length ≤ 21 := by
  have := goneR_len y.n (some x) y.ru
  unfold goalT
  simp only [List.length_append, List.length_map, List.length_singleton]; omega
theorem goalT_three (x y : Gl) (had : Bool) : ∀ r ∈ goalT x y had, r.length = 3 := by
  intro r hr
  unfold goalT at hr
  simp only [List.mem_append, List.mem_singleton, List.mem_map] at hr
  rcases hr with (h | ⟨z, _, h⟩) | h
  · subst h; rfl
  · subst h; rfl
  · exact goneR_three _ _ _ r h
theorem oldT_len (b : List Gl) (x : Gl) (hx : x.ru.length ≤ 10) : (oldT b x).length ≤ 11 := by
  have := goneR_len x.n none x.ru
  unfold oldT
  split
  · simp
  · simp only [List.length_append, List.length_singleton]; omega
theorem oldT_three (b : List Gl) (x : Gl) : ∀ r ∈ oldT b x, r.length = 3 := by
  intro r hr
  unfold oldT at hr
  split at hr
  · simp at hr
  · simp only [List.mem_append, List.mem_singleton] at hr
    rcases hr with h | h
    · subst h; rfl
    · exact goneR_three _ _ _ r h
theorem wasG_len (l : List Gl) (h : ∀ x ∈ l, x.ru.length ≤ 10) (n : List UInt8) : (wasG l n).ru.length ≤ 10 := by
  unfold wasG gF
  cases e : l.find? (fun x => x.n == n) with
  | none => simp [Gl.zero]
  | some y => exact h y (List.mem_of_find?_eq_some e)
set_option maxRecDepth 20000 in
theorem plan_tail (a b : Cf) (ha : a.gs.length ≤ 100) (hb : b.gs.length ≤ 100) (hra : ∀ x ∈ a.gs, x.ru.length ≤ 10) (L : List (List AV)) (hl : L.length ≤ 5000) (hL : ∀ r ∈ L, r.length = 3)
    (e : List (Nat × AV)) (l2 : lk e 2 = .ptr (.n 2) 0) (l3 : lk e 3 = .ptr (.n 3) 0) (l6 : lk e 6 = .ptr (.n 24) 0) :
    wpA (SpH Tryd.prog gl) (AC.tl 4 c22) (postA [.t 4, .t 5] (.tup [.sl (L ++ a.gs.flatMap (oldT b.gs)), i6 0]))
      ⟨e, [(.n 2, a.row), (.n 3, b.row), (.n 24, [.sl L])], [(.b (.n 24) 0, 3)]⟩ := by
  have exa : a.row = [.sl (a.gs.map Gl.row), i6 a.r, i6 a.v, i6 a.i, i6 a.x, i6 a.y] := rfl
  have rat : ∀ i (h : i < a.gs.length), ∀ h2, (a.gs.map Gl.row)[i]'h2 = [.str a.gs[i].n, .int .u32 a.gs[i].t, i6 a.gs[i].g, i6 a.gs[i].a, i6 a.gs[i].o, i6 a.gs[i].c, .sl (a.gs[i].lb.map Lb.row), .sl (a.gs[i].ru.map Ru.row)] := fun i h h2 => by simp [Gl.row]
  have rl : (a.gs.map Gl.row).length = a.gs.length := by simp
  have P1 : b.row.length = 6 := rfl
  have P2 : idsL b.row = [] := rfl
  have P4 : shutL b.row = some b.row := rfl
  have hw := fun n => goalOf_spec b n (by omega)
  obtain ⟨LL, hLL⟩ : ∃ LL : Nat → List (List AV), LL = fun i => L ++ (a.gs.take i).flatMap (oldT b.gs) := ⟨_, rfl⟩
  have s0 : L = LL 0 := by rw [hLL]; simp
  have sN : L ++ a.gs.flatMap (oldT b.gs) = LL a.gs.length := by rw [hLL]; simp
  have s1 : ∀ i (h : i < a.gs.length), LL (i + 1) = LL i ++ oldT b.gs a.gs[i] := fun i h => by
    simp only [hLL, flatMap_snoc _ _ i h, List.append_assoc]
  have s2 : ∀ i, i ≤ a.gs.length → (LL i).length ≤ L.length + 11 * i := fun i h => by
    have := flatMap_len (oldT b.gs) 11 (a.gs.take i) (fun x hx => oldT_len _ _ (hra x (List.mem_of_mem_take hx)))
    rw [List.length_take, Nat.min_eq_left h] at this
    simp only [hLL, List.length_append]
    omega
  have s3 : ∀ i, ∀ r ∈ LL i, r.length = 3 := fun i r hr => by
    simp only [hLL, List.mem_append, List.mem_flatMap] at hr
    rcases hr with h | ⟨z, _, h⟩
    · exact hL r h
    · exact oldT_three _ _ r h
  have A := fun i (h : i ≤ a.gs.length) g => add_spec (LL i) (by have := s2 i h; omega) (s3 i) g [] 4 64 (.n 24) rfl rfl
  have G := fun i (h : i < a.gs.length) => gone_spec a.gs[i] none (LL i ++ [tn a.gs[i].n [] 4]) (by
      have := s2 i (by omega); have := hra a.gs[i] (List.getElem_mem _)
      simp only [List.length_append, List.length_singleton]; omega) (fun r hr => by
      rcases List.mem_append.1 hr with h | h
      · exact s3 i r h
      · simp only [List.mem_singleton] at h; subst h; rfl) (by simp [ruOf]) 68 (.n 24) rfl rfl
  have hot : ∀ i (h : i < a.gs.length), LL i ++ oldT b.gs a.gs[i] = if (gF b.gs a.gs[i].n).isSome = true then LL i else LL i ++ [tn a.gs[i].n [] 4] ++ goneR a.gs[i].n none a.gs[i].ru := fun i h => by
    unfold oldT
    split
    · simp
    · rw [List.append_assoc]
  clear hLL s2 s3 hL
  rw [sN, exa]
  rw [s0]
  generalize b.row = P at *
  generalize a.gs.map Gl.row = RU at *
  have e8 : List.take 6 P = P := List.take_of_length_le (by omega)
  simp only [c22, AC.tl]
  simp -implicitDefEqProofs [l2, l3, l6, rl]
  refine wp_lpk (α := Nat) (fun i => ⟨[(2, .ptr (.n 2) 0), (3, .ptr (.n 3) 0), (6, .ptr (.n 24) 0), (46, .sl RU), (47, i6 a.gs.length), (48, i6 i)], [(.n 2, [.sl RU, i6 a.r, i6 a.v, i6 a.i, i6 a.x, i6 a.y]), (.n 3, P), (.n 24, [.sl (LL i)])], [(.b (.n 24) 0, 3)]⟩)
    (fun i => i ≤ a.gs.length) (fun i => a.gs.length - i) ?_ 0 ?_ ?_
  · rintro K i hK h1
    by_cases g : i < a.gs.length
    · have t1 : IntKind.i64.wrap ((i : Int) + 1) = (i + 1 : Nat) := by rw [wrap_i64] <;> omega
      have ra := rat i g
      have gR : i < RU.length := by omega
      have hw := hw a.gs[i].n
      have A := A i h1 a.gs[i].n
      have G := G i g
      have s1 := s1 i g
      have hot := hot i g
      have er : a.gs[i].row = [.str a.gs[i].n, .int .u32 a.gs[i].t, i6 a.gs[i].g, i6 a.gs[i].a, i6 a.gs[i].o, i6 a.gs[i].c, .sl (a.gs[i].lb.map Lb.row), .sl (a.gs[i].ru.map Ru.row)] := rfl
      rw [er] at G
      simp only [glO] at G
      have q1 : ((gF b.gs a.gs[i].n).getD Gl.zero).row.length = 8 := rfl
      have q2 : idsL ((gF b.gs a.gs[i].n).getD Gl.zero).row = [] := rfl
      have q3 : shutL ((gF b.gs a.gs[i].n).getD Gl.zero).row = some ((gF b.gs a.gs[i].n).getD Gl.zero).row := rfl
      have fin : ∀ σ', Weak σ' ⟨[(2, .ptr (.n 2) 0), (3, .ptr (.n 3) 0), (6, .ptr (.n 24) 0), (46, .sl RU), (47, i6 a.gs.length), (48, i6 (i + 1 : Nat))], [(.n 2, [.sl RU, i6 a.r, i6 a.v, i6 a.i, i6 a.x, i6 a.y]), (.n 3, P), (.n 24, [.sl (LL (i + 1))])], [(.b (.n 24) 0, 3)]⟩ → K σ' :=
        fun σ' hσ => hK (i + 1) σ' (by omega) (by omega) hσ
      clear hK rat er
      rw [s1, hot] at fin
      generalize ((gF b.gs a.gs[i].n).getD Gl.zero).row = q at *
      generalize (gF b.gs a.gs[i].n).isSome = f at *
      generalize goneR a.gs[i].n none a.gs[i].ru = GR at *
      generalize a.gs[i].lb.map Lb.row = LB at *
      generalize a.gs[i].ru.map Ru.row = RV at *
      generalize a.gs[i] = r at *
      have e7 : List.take 8 q = q := List.take_of_length_le (by omega)
      generalize LL i = M at *
      simp -implicitDefEqProofs [g, gR, ra, rl, P1, P4, e8]
      refine onC_mk _ (hw) ?_
      cases f
      · simp only [Bool.false_eq_true, if_false] at fin
        simp -implicitDefEqProofs [q1, q2, q3, e7]
        refine onH_mk _ _ (A) ⟨?_, ?_, ?_, ?_, ?_, ?_, ?_⟩ ?_
        iterate 7 (· simp -implicitDefEqProofs [P2, q2])
        simp -implicitDefEqProofs
        refine onH_mk _ _ (G) ⟨?_, ?_, ?_, ?_, ?_, ?_, ?_⟩ ?_
        iterate 7 (· simp -implicitDefEqProofs [P2, q2])
        simp -implicitDefEqProofs [t1]
        refine fin _ ?_
        refine weak_mk ?_ ?_ ?_ ?_ ?_ ?_ <;> simp -implicitDefEqProofs [t1, P2, q2]
      · simp only [if_true] at fin
        simp -implicitDefEqProofs [q1, q2, q3, e7, t1]
        refine fin _ ?_
        refine weak_mk ?_ ?_ ?_ ?_ ?_ ?_ <;> simp -implicitDefEqProofs [t1, P2, q2]
    · obtain rfl : i = a.gs.length := by omega
      clear hK
      simp -implicitDefEqProofs
  · exact Nat.zero_le _
  · refine weak_mk ?_ ?_ ?_ ?_ ?_ ?_ <;> simp -implicitDefEqProofs [P2, l2, l3, l6]
end Go.Ai
set_option linter.unusedSimpArgs false
set_option linter.unusedVariables false
namespace Go.Ai
open Go.Proofs
set_option maxRecDepth 20000 in
theorem plan_loop (a b : Cf) (ha : a.gs.length ≤ 100) (hb : b.gs.length ≤ 100) (hra : ∀ x ∈ a.gs, x.ru.length ≤ 10) (hrb : ∀ x ∈ b.gs, x.ru.length ≤ 10)
    (e : List (Nat × AV)) (l2 : lk e 2 = .ptr (.n 2) 0) (l3 : lk e 3 = .ptr (.n 3) 0) :
    wpA (SpH Tryd.prog gl) (AC.tl 2 c22) (postA [.t 4, .t 5] (.tup [.sl (planP a.gs b.gs), i6 0]))
      ⟨e, [(.n 3, b.row), (.n 2, a.row)], []⟩ := by
  have exb : b.row = [.sl (b.gs.map Gl.row), i6 b.r, i6 b.v, i6 b.i, i6 b.x, i6 b.y] := rfl
  have rat : ∀ i (h : i < b.gs.length), ∀ h2, (b.gs.map Gl.row)[i]'h2 = [.str b.gs[i].n, .int .u32 b.gs[i].t, i6 b.gs[i].g, i6 b.gs[i].a, i6 b.gs[i].o, i6 b.gs[i].c, .sl (b.gs[i].lb.map Lb.row), .sl (b.gs[i].ru.map Ru.row)] := fun i h h2 => by simp [Gl.row]
  have rl : (b.gs.map Gl.row).length = b.gs.length := by simp
  have P1 : a.row.length = 6 := rfl
  have P2 : idsL a.row = [] := rfl
  have P4 : shutL a.row = some a.row := rfl
  have hw := fun n => goalOf_spec a n (by omega)
  obtain ⟨LL, hLL⟩ : ∃ LL : Nat → List (List AV), LL = fun i => (b.gs.take i).flatMap (newT a.gs) := ⟨_, rfl⟩
  have s0 : LL 0 = [] := by rw [hLL]; simp
  have sN : b.gs.flatMap (newT a.gs) = LL b.gs.length := by rw [hLL]; simp
  have s1 : ∀ i (h : i < b.gs.length), LL (i + 1) = LL i ++ newT a.gs b.gs[i] := fun i h => by
    simp only [hLL, flatMap_snoc _ _ i h]
  have s2 : ∀ i, i ≤ b.gs.length → (LL i).length ≤ 21 * i := fun i h => by
    have := flatMap_len (newT a.gs) 21 (b.gs.take i) (fun x hx => goalT_len _ _ _ (hrb x (List.mem_of_mem_take hx)) (wasG_len _ hra _))
    rw [List.length_take, Nat.min_eq_left h] at this
    simp only [hLL]
    omega
  have s3 : ∀ i, ∀ r ∈ LL i, r.length = 3 := fun i r hr => by
    simp only [hLL, List.mem_flatMap] at hr
    obtain ⟨z, _, h⟩ := hr
    exact goalT_three _ _ _ r h
  have G := fun i (h : i < b.gs.length) => pgoal_spec b.gs[i] (wasG a.gs b.gs[i].n) (gF a.gs b.gs[i].n).isSome (LL i) (by
      have := s2 i (by omega); omega) (s3 i) (hrb _ (List.getElem_mem _)) (wasG_len _ hra _) 43 (.n 24) rfl rfl
  have T := plan_tail a b ha hb hra (LL b.gs.length) (by have := s2 b.gs.length (Nat.le_refl _); omega) (s3 _)
  have hnt : ∀ i (h : i < b.gs.length), newT a.gs b.gs[i] = goalT b.gs[i] (wasG a.gs b.gs[i].n) (gF a.gs b.gs[i].n).isSome := fun i h => rfl
  have hpp : planP a.gs b.gs = LL b.gs.length ++ a.gs.flatMap (oldT b.gs) := by unfold planP; rw [sN]
  clear hLL s2 s3 sN
  rw [hpp]
  have ec : AC.tl 2 c22 = AC.cutAt 2 (AC.tl 4 c22) (AC.tl 2 c22) := rfl
  rw [ec]
  generalize AC.tl 4 c22 = TT at T ⊢
  generalize LL b.gs.length ++ a.gs.flatMap (oldT b.gs) = FIN at *
  rw [exb] at T ⊢
  generalize a.row = P at *
  generalize b.gs.map Gl.row = RU at *
  have e8 : List.take 6 P = P := List.take_of_length_le (by omega)
  simp only [c22, AC.tl, AC.cutAt]
  simp -implicitDefEqProofs [l2, l3, rl]
  refine wp_lpk (α := Nat) (fun i => ⟨[(2, .ptr (.n 2) 0), (3, .ptr (.n 3) 0), (6, .ptr (.n 24) 0), (26, .sl RU), (27, i6 b.gs.length), (28, i6 i)], [(.n 2, P), (.n 3, [.sl RU, i6 b.r, i6 b.v, i6 b.i, i6 b.x, i6 b.y]), (.n 24, [.sl (LL i)])], [(.b (.n 24) 0, 3)]⟩)
    (fun i => i ≤ b.gs.length) (fun i => b.gs.length - i) ?_ 0 ?_ ?_
  · rintro K i hK h1
    by_cases g : i < b.gs.length
    · have t1 : IntKind.i64.wrap ((i : Int) + 1) = (i + 1 : Nat) := by rw [wrap_i64] <;> omega
      have ra := rat i g
      have gR : i < RU.length := by omega
      have hw := hw b.gs[i].n
      have G := G i g
      have s1 := s1 i g
      rw [hnt i g] at s1
      have er : b.gs[i].row = [.str b.gs[i].n, .int .u32 b.gs[i].t, i6 b.gs[i].g, i6 b.gs[i].a, i6 b.gs[i].o, i6 b.gs[i].c, .sl (b.gs[i].lb.map Lb.row), .sl (b.gs[i].ru.map Ru.row)] := rfl
      rw [er] at G
      have q1 : (wasG a.gs b.gs[i].n).row.length = 8 := rfl
      have q2 : idsL (wasG a.gs b.gs[i].n).row = [] := rfl
      have q3 : shutL (wasG a.gs b.gs[i].n).row = some (wasG a.gs b.gs[i].n).row := rfl
      have fin : ∀ σ', Weak σ' ⟨[(2, .ptr (.n 2) 0), (3, .ptr (.n 3) 0), (6, .ptr (.n 24) 0), (26, .sl RU), (27, i6 b.gs.length), (28, i6 (i + 1 : Nat))], [(.n 2, P), (.n 3, [.sl RU, i6 b.r, i6 b.v, i6 b.i, i6 b.x, i6 b.y]), (.n 24, [.sl (LL (i + 1))])], [(.b (.n 24) 0, 3)]⟩ → K σ' :=
        fun σ' hσ => hK (i + 1) σ' (by omega) (by omega) hσ
      clear hK rat er hnt T
      rw [s1] at fin
      have ew : (gF a.gs b.gs[i].n).getD Gl.zero = wasG a.gs b.gs[i].n := rfl
      rw [ew] at hw
      generalize goalT b.gs[i] (wasG a.gs b.gs[i].n) (gF a.gs b.gs[i].n).isSome = GT at *
      generalize (wasG a.gs b.gs[i].n).row = q at *
      generalize (gF a.gs b.gs[i].n).isSome = f at *
      generalize b.gs[i].lb.map Lb.row = LB at *
      generalize b.gs[i].ru.map Ru.row = RV at *
      generalize b.gs[i] = r at *
      have e7 : List.take 8 q = q := List.take_of_length_le (by omega)
      generalize LL i = M at *
      simp -implicitDefEqProofs [g, gR, ra, rl, P1, P4, e8]
      refine onC_mk _ (hw) ?_
      simp -implicitDefEqProofs [q1, q2, q3, e7]
      refine onH_mk _ _ (G) ⟨?_, ?_, ?_, ?_, ?_, ?_, ?_⟩ ?_
      iterate 7 (· simp -implicitDefEqProofs [P2, q2])
      simp -implicitDefEqProofs [t1]
      refine fin _ ?_
      refine weak_mk ?_ ?_ ?_ ?_ ?_ ?_ <;> simp -implicitDefEqProofs [t1, P2, q2]
    · obtain rfl : i = b.gs.length := by omega
      clear hK
      simp -implicitDefEqProofs
      refine T _ ?_ ?_ ?_ <;> simp -implicitDefEqProofs
  · exact Nat.zero_le _
  · rw [s0]
    refine weak_mk ?_ ?_ ?_ ?_ ?_ ?_ <;> simp -implicitDefEqProofs [P2, l2, l3, nilAt]
end Go.Ai
set_option linter.unusedSimpArgs false
set_option linter.unusedVariables false
namespace Go.Ai
open Go.Proofs
set_option maxRecDepth 20000 in
theorem plan_spec (a b : Cf) (ha : a.Fit) (hb : b.Fit) : Sp Tryd.prog gl 22 [.agg a.row, .agg b.row] (.tup [.sl (if (rightP a && rightP b) = true then planP a.gs b.gs else []), i6 (if (rightP a && rightP b) = true then 0 else 2)]) := by
  refine s22 rfl rfl ?_
  have ec : c22 = AC.cutAt 2 (AC.tl 2 c22) c22 := rfl
  rw [ec]
  have T := plan_loop a b (by have := ha.n; omega) (by have := hb.n; omega) (fun x hx => (ha.gs x hx).ru) (fun x hx => (hb.gs x hx).ru)
  have R1 := right_spec a ha
  have R2 := right_spec b hb
  have P1 : a.row.length = 6 := rfl
  have P2 : b.row.length = 6 := rfl
  have P3 : shutL a.row = some a.row := rfl
  have P4 : shutL b.row = some b.row := rfl
  generalize AC.tl 2 c22 = TT at T ⊢
  generalize rightP a = r1 at *
  generalize rightP b = r2 at *
  generalize planP a.gs b.gs = FIN at *
  generalize a.row = A at *
  generalize b.row = B at *
  have e1 : List.take 6 A = A := List.take_of_length_le (by omega)
  have e2 : List.take 6 B = B := List.take_of_length_le (by omega)
  simp only [c22, AC.cutAt]
  simp -implicitDefEqProofs [P1, P2, P3, P4, e1, e2]
  refine onC_mk _ (R1) ?_
  cases r1
  · simp -implicitDefEqProofs [P1, P2, P3, P4, e1, e2]
  · simp -implicitDefEqProofs [P1, P2, P3, P4, e1, e2]
    refine onC_mk _ (R2) ?_
    cases r2
    · simp -implicitDefEqProofs [P1, P2, P3, P4, e1, e2]
    · simp -implicitDefEqProofs [P1, P2, P3, P4, e1, e2]
      refine T _ ?_ ?_ <;> simp -implicitDefEqProofs
/-! ### The chapter's example -/
def awG (t : Nat) : Gl := ⟨[97], t, 60, 0, 0, 0, [], [⟨[114], false, 120, 60, 1, 0, 0⟩]⟩
def awC (t : Nat) : Cf := ⟨[awG t], 1, 0, 1, 1, 0⟩
theorem winP_congr {x y : Gl} (h : allW x = allW y) : winP x = winP y := by unfold winP; rw [h]
theorem awG_fit (t : Nat) : (awG t).Fit := ⟨by simp [awG], by simp [awG], by simp [awG], by simp [awG], by simp [awG, ruFit]⟩
theorem awC_fit (t : Nat) : (awC t).Fit := ⟨by simp [awC], by simp only [awC, List.mem_singleton]; rintro y rfl; exact awG_fit t⟩
theorem aw_right5 : rightP (awC 5) = true := by decide +kernel
theorem aw_right6 : rightP (awC 6) = true := by decide +kernel
theorem aw_plan : planP (awC 5).gs (awC 6).gs = [tn [97] [] 2, tn [97] [114] 2] := by
  have h : stP (awG 5) (awG 6) = true := by
    unfold stP
    rw [winP_congr (x := awG 5) (y := awG 6) rfl]
    simp [awG]
  have e1 : gF (awC 5).gs (awG 6).n = some (awG 5) := rfl
  have e2 : gF (awC 6).gs (awG 5).n = some (awG 6) := rfl
  have e3 : rF (some (awG 5)) [114] = some ⟨[114], false, 120, 60, 1, 0, 0⟩ := rfl
  have e4 : rF (some (awG 6)) [114] = some ⟨[114], false, 120, 60, 1, 0, 0⟩ := rfl
  have f1 : (awC 6).gs = [awG 6] := rfl
  have f2 : (awC 5).gs = [awG 5] := rfl
  have n1 : newT [awG 5] (awG 6) = [tn [97] [] 2, tn [97] [114] 2] := by
    unfold newT goalT wasG
    rw [f2] at e1
    rw [e1]
    simp only [Option.getD_some, Option.isSome_some, Bool.true_and, h]
    simp [ruT, awG, goneR, kindP, rF, ruOf]
  have n2 : oldT [awG 6] (awG 5) = [] := by
    unfold oldT
    rw [f1] at e2
    rw [e2]; simp
  unfold planP
  rw [f1, f2]
  simp [n1, n2]
set_option maxRecDepth 20000 in
theorem awake_spec : Sp Tryd.prog gl 19 [] (.bool true) := by
  refine s19 rfl rfl ?_
  have W := plan_spec (awC 5) (awC 6) (awC_fit 5) (awC_fit 6)
  rw [aw_right5, aw_right6, aw_plan] at W
  simp only [Bool.and_self, if_true] at W
  have e : ∀ t : Nat, (awC t).row = [.sl [[.str [97], .int .u32 t, i6 60, i6 0, i6 0, i6 0, .sl [], .sl [[.str [114], .bool false, i6 120, i6 60, u 1, i6 0, i6 0]]]], i6 1, i6 0, i6 1, i6 1, i6 0] := fun t => rfl
  rw [e, e] at W
  simp -implicitDefEqProofs [c19]
  refine onC_mk _ (W) ?_
  simp -implicitDefEqProofs [tn]
end Go.Ai
set_option linter.unusedSimpArgs false
set_option linter.unusedVariables false
namespace Go.Ai
open Go.Proofs
set_option maxRecDepth 20000 in
theorem rgoal_spec (c : Cf) (n : List UInt8) (hl : c.gs.length ≤ 1000000) : Sp Tryd.prog gl 63 [.agg c.row, .str n] (i6 (ixN n (c.gs.map Gl.n) 0)) := by
  refine s63 rfl rfl ?_
  have hx : c.row = [.sl (c.gs.map Gl.row), i6 c.r, i6 c.v, i6 c.i, i6 c.x, i6 c.y] := rfl
  have rl : (c.gs.map Gl.row).length = c.gs.length := by simp
  have rat : ∀ i (h : i < c.gs.length), ∀ h2, (c.gs.map Gl.row)[i]'h2 = [.str c.gs[i].n, .int .u32 c.gs[i].t, i6 c.gs[i].g, i6 c.gs[i].a, i6 c.gs[i].o, i6 c.gs[i].c, .sl (c.gs[i].lb.map Lb.row), .sl (c.gs[i].ru.map Ru.row)] := fun i h h2 => by simp [Gl.row]
  obtain ⟨R, hR⟩ : ∃ R, R = ixN n (c.gs.map Gl.n) 0 := ⟨_, rfl⟩
  rw [← hR, hx]
  generalize c.gs.map Gl.row = RR at *
  generalize c.gs = l at *
  simp -implicitDefEqProofs [c63]
  refine wp_lpk (α := Nat) (fun i => ⟨[(1, .str n), (2, .ptr (.n 2) 0), (5, i6 i)], [(.n 2, [.sl RR, i6 c.r, i6 c.v, i6 c.i, i6 c.x, i6 c.y])], []⟩) (fun i => i ≤ l.length ∧ ixN n ((l.drop i).map Gl.n) i = R) (fun i => l.length - i) ?_ 0 ?_ ?_
  · rintro K i hK ⟨h1, h2⟩
    by_cases g : i < l.length
    · have t1 : IntKind.i64.wrap ((i : Int) + 1) = (i + 1 : Nat) := by rw [wrap_i64] <;> omega
      have ra := rat i g
      have gR : i < RR.length := by omega
      rw [List.drop_eq_getElem_cons g, List.map_cons] at h2
      simp only [ixN] at h2
      have fin : (l[i].n == n) = false → ∀ σ', Weak σ' ⟨[(1, .str n), (2, .ptr (.n 2) 0), (5, i6 (i + 1 : Nat))], [(.n 2, [.sl RR, i6 c.r, i6 c.v, i6 c.i, i6 c.x, i6 c.y])], []⟩ → K σ' :=
        fun hg σ' hσ => hK (i + 1) σ' ⟨by omega, by rw [hg] at h2; simpa using h2⟩ (by omega) hσ
      clear hK hR rat hx
      generalize l[i].lb.map Lb.row = LB at *
      generalize l[i].ru.map Ru.row = RV at *
      generalize l[i] = x at *
      cases hb : (x.n == n)
      · have fin := fin hb
        simp -implicitDefEqProofs [g, gR, ra, rl, hb, t1]
        refine fin _ ?_
        refine weak_mk ?_ ?_ ?_ ?_ ?_ ?_ <;> simp -implicitDefEqProofs [t1]
      · rw [hb] at h2
        simp only [if_true] at h2
        subst h2
        simp -implicitDefEqProofs [g, gR, ra, rl, hb]
    · obtain rfl : i = l.length := by omega
      rw [List.drop_length] at h2
      simp only [List.map_nil, ixN] at h2
      subst h2
      clear hK
      simp -implicitDefEqProofs [rl]
  · exact ⟨Nat.zero_le _, hR.symm⟩
  · refine weak_mk ?_ ?_ ?_ ?_ ?_ ?_ <;> simp -implicitDefEqProofs
set_option maxRecDepth 20000 in
theorem rrule_spec (c : Gl) (n : List UInt8) (hl : c.ru.length ≤ 1000000) : Sp Tryd.prog gl 65 [.agg c.row, .str n] (i6 (ixN n (c.ru.map Ru.n) 0)) := by
  refine s65 rfl rfl ?_
  have hx : c.row = [.str c.n, .int .u32 c.t, i6 c.g, i6 c.a, i6 c.o, i6 c.c, .sl (c.lb.map Lb.row), .sl (c.ru.map Ru.row)] := rfl
  have rl : (c.ru.map Ru.row).length = c.ru.length := by simp
  have rat : ∀ i (h : i < c.ru.length), ∀ h2, (c.ru.map Ru.row)[i]'h2 = [.str c.ru[i].n, .bool c.ru[i].p, i6 c.ru[i].l, i6 c.ru[i].s, u c.ru[i].f, i6 c.ru[i].w, i6 c.ru[i].k] := fun i h h2 => by simp [Ru.row]
  obtain ⟨R, hR⟩ : ∃ R, R = ixN n (c.ru.map Ru.n) 0 := ⟨_, rfl⟩
  rw [← hR, hx]
  generalize c.lb.map Lb.row = LB0 at *
  generalize c.ru.map Ru.row = RR at *
  generalize c.ru = l at *
  simp -implicitDefEqProofs [c65]
  refine wp_lpk (α := Nat) (fun i => ⟨[(1, .str n), (2, .ptr (.n 2) 0), (5, i6 i)], [(.n 2, [.str c.n, .int .u32 c.t, i6 c.g, i6 c.a, i6 c.o, i6 c.c, .sl LB0, .sl RR])], []⟩) (fun i => i ≤ l.length ∧ ixN n ((l.drop i).map Ru.n) i = R) (fun i => l.length - i) ?_ 0 ?_ ?_
  · rintro K i hK ⟨h1, h2⟩
    by_cases g : i < l.length
    · have t1 : IntKind.i64.wrap ((i : Int) + 1) = (i + 1 : Nat) := by rw [wrap_i64] <;> omega
      have ra := rat i g
      have gR : i < RR.length := by omega
      rw [List.drop_eq_getElem_cons g, List.map_cons] at h2
      simp only [ixN] at h2
      have fin : (l[i].n == n) = false → ∀ σ', Weak σ' ⟨[(1, .str n), (2, .ptr (.n 2) 0), (5, i6 (i + 1 : Nat))], [(.n 2, [.str c.n, .int .u32 c.t, i6 c.g, i6 c.a, i6 c.o, i6 c.c, .sl LB0, .sl RR])], []⟩ → K σ' :=
        fun hg σ' hσ => hK (i + 1) σ' ⟨by omega, by rw [hg] at h2; simpa using h2⟩ (by omega) hσ
      clear hK hR rat hx
      generalize l[i] = x at *
      cases hb : (x.n == n)
      · have fin := fin hb
        simp -implicitDefEqProofs [g, gR, ra, rl, hb, t1]
        refine fin _ ?_
        refine weak_mk ?_ ?_ ?_ ?_ ?_ ?_ <;> simp -implicitDefEqProofs [t1]
      · rw [hb] at h2
        simp only [if_true] at h2
        subst h2
        simp -implicitDefEqProofs [g, gR, ra, rl, hb]
    · obtain rfl : i = l.length := by omega
      rw [List.drop_length] at h2
      simp only [List.map_nil, ixN] at h2
      subst h2
      clear hK
      simp -implicitDefEqProofs [rl]
  · exact ⟨Nat.zero_le _, hR.symm⟩
  · refine weak_mk ?_ ?_ ?_ ?_ ?_ ?_ <;> simp -implicitDefEqProofs
set_option maxRecDepth 20000 in
theorem rstays_spec (x y : Gl) (hx : x.ru.length ≤ 10) (hy : y.ru.length ≤ 10) : Sp Tryd.prog gl 64 [.agg x.row, .agg y.row] (.bool (stP x y)) := by
  refine s64 rfl rfl ?_
  have W1 := rwin_spec x hx
  have W2 := rwin_spec y hy
  have E := same_spec (winP x) (winP y) (by have := winP_len x; omega) (by have := winP_len y; omega)
  have ex : x.row = [.str x.n, .int .u32 x.t, i6 x.g, i6 x.a, i6 x.o, i6 x.c, .sl (x.lb.map Lb.row), .sl (x.ru.map Ru.row)] := rfl
  have ey : y.row = [.str y.n, .int .u32 y.t, i6 y.g, i6 y.a, i6 y.o, i6 y.c, .sl (y.lb.map Lb.row), .sl (y.ru.map Ru.row)] := rfl
  rw [ex] at W1 ⊢
  rw [ey] at W2 ⊢
  unfold stP
  generalize intRows (winP x) = A at *
  generalize intRows (winP y) = B at *
  generalize decide (winP x = winP y) = b3 at *
  generalize x.lb.map Lb.row = LB at *
  generalize y.lb.map Lb.row = LC at *
  generalize x.ru.map Ru.row = RU at *
  generalize y.ru.map Ru.row = RV at *
  cases h1 : (x.g == y.g)
  · simp -implicitDefEqProofs [c64, h1]
  · cases h2 : (x.c == y.c)
    · simp -implicitDefEqProofs [c64, h1, h2]
    · simp -implicitDefEqProofs [c64, h1, h2]
      refine onC_mk _ (W1) ?_
      simp -implicitDefEqProofs
      refine onC_mk _ (W2) ?_
      simp -implicitDefEqProofs
      refine onC_mk _ (E) ?_
      simp -implicitDefEqProofs
end Go.Ai
set_option linter.unusedSimpArgs false
set_option linter.unusedVariables false
namespace Go.Ai
open Go.Proofs
/-- A part of code: 0 the left, 1 the right. -/
def AC.pk : List Nat → AC → AC
  | k :: ks, .sq x y => AC.pk ks (if k = 0 then x else y)
  | k :: ks, .cd _ x y => AC.pk ks (if k = 0 then x else y)
  | _ :: ks, .bl _ x => AC.pk ks x
  | _ :: ks, .lp x => AC.pk ks x
  | _, c => c
/-- One turn for each rule of a list. -/
def allT (nm : List UInt8) (k : Int) (l : List Ru) : List (List AV) := l.map fun r => tn nm r.n k
set_option maxRecDepth 20000 in
theorem rp_new (A B : List AV) (x : Gl) (L : List (List AV)) (hl : L.length ≤ 500000) (hx : x.ru.length ≤ 10) (hL : ∀ r ∈ L, r.length = 3) (i0 : Int) (Q : AE → St → Prop) (e : List (Nat × AV)) (pm : List (Pl × Nat)) (hpm : lkP pm (.s 5) = some 3)
    (l2 : lk e 2 = .ptr (.n 2) 0) (l3 : lk e 3 = .ptr (.n 3) 0) (l5 : lk e 5 = .sl L) (l6 : lk e 6 = i6 i0) (l7 : lk e 7 = .ptr (.n 7) 0) (l9 : lk e 9 = i6 0)
    (hQ : ∀ e', lk e' 2 = .ptr (.n 2) 0 → lk e' 3 = .ptr (.n 3) 0 → lk e' 5 = .sl (L ++ allT x.n 1 x.ru) → lk e' 6 = i6 i0 → Q (.x 2) ⟨e', [(.n 7, x.row), (.n 2, A), (.n 3, B)], [(.s 5, 3)]⟩) (hA : idsL A = []) (hB : idsL B = []) :
    wpA (SpH Tryd.prog gl) (AC.pk [1, 1, 0, 1, 0, 0, 1, 0, 0, 1, 1, 0, 1, 0, 1, 0, 1, 0] c28) Q ⟨e, [(.n 7, x.row), (.n 2, A), (.n 3, B)], pm⟩ := by
  have hrow : x.row = [.str x.n, .int .u32 x.t, i6 x.g, i6 x.a, i6 x.o, i6 x.c, .sl (x.lb.map Lb.row), .sl (x.ru.map Ru.row)] := rfl
  have rl : (x.ru.map Ru.row).length = x.ru.length := by simp
  have rat : ∀ i (h : i < x.ru.length), ∀ h2, (x.ru.map Ru.row)[i]'h2 = [.str x.ru[i].n, .bool x.ru[i].p, i6 x.ru[i].l, i6 x.ru[i].s, u x.ru[i].f, i6 x.ru[i].w, i6 x.ru[i].k] := fun i h h2 => by simp [Ru.row]
  have hlim : lim = 140737488355328 := rfl
  obtain ⟨LL, hLL⟩ : ∃ LL : Nat → List (List AV), LL = fun i => L ++ allT x.n 1 (x.ru.take i) := ⟨_, rfl⟩
  have s0 : L = LL 0 := by rw [hLL]; simp [allT]
  have sN : L ++ allT x.n 1 x.ru = LL x.ru.length := by rw [hLL]; simp
  have s1 : ∀ i (h : i < x.ru.length), LL (i + 1) = LL i ++ [tn x.n x.ru[i].n 1] := fun i h => by
    simp only [hLL, allT, List.take_succ_eq_append_getElem h, List.map_append, List.append_assoc, List.map_cons, List.map_nil]
  have s2 : ∀ i, i ≤ x.ru.length → (LL i).length ≤ L.length + i := fun i h => by
    simp only [hLL, allT, List.length_append, List.length_map, List.length_take]; omega
  have s3 : ∀ i, ∀ r ∈ LL i, r.length = 3 := fun i r hr => by
    simp only [hLL, allT, List.mem_append, List.mem_map] at hr
    rcases hr with h | ⟨z, _, h⟩
    · exact hL r h
    · subst h; rfl
  clear hLL hL
  rw [sN] at hQ
  rw [s0] at l5
  rw [hrow] at hQ ⊢
  have hids : idsL [AV.str x.n, .int .u32 x.t, i6 x.g, i6 x.a, i6 x.o, i6 x.c, .sl (x.lb.map Lb.row), .sl (x.ru.map Ru.row)] = [] := rfl
  generalize x.lb.map Lb.row = LB at *
  generalize x.ru.map Ru.row = RU at *
  simp only [c28, AC.pk, if_true, if_false, Nat.one_ne_zero]
  refine wp_lpk (α := Nat) (fun i => ⟨[(2, .ptr (.n 2) 0), (3, .ptr (.n 3) 0), (5, .sl (LL i)), (6, i6 i0), (7, .ptr (.n 7) 0), (9, i6 i)], [(.n 7, [.str x.n, .int .u32 x.t, i6 x.g, i6 x.a, i6 x.o, i6 x.c, .sl LB, .sl RU]), (.n 2, A), (.n 3, B)], [(.s 5, 3)]⟩)
    (fun i => i ≤ x.ru.length) (fun i => x.ru.length - i) ?_ 0 ?_ ?_
  · rintro K i hK h1
    by_cases g : i < x.ru.length
    · have t1 : IntKind.i64.wrap ((i : Int) + 1) = (i + 1 : Nat) := by rw [wrap_i64] <;> omega
      have ra := rat i g
      have gR : i < RU.length := by omega
      have s1 := s1 i g
      have s3 := s3 i
      have hll : ((LL i).length + 1) * 40 ≤ 140737488355328 := by have := s2 i h1; omega
      have fin : ∀ σ', Weak σ' ⟨[(2, .ptr (.n 2) 0), (3, .ptr (.n 3) 0), (5, .sl (LL (i + 1))), (6, i6 i0), (7, .ptr (.n 7) 0), (9, i6 (i + 1 : Nat))], [(.n 7, [.str x.n, .int .u32 x.t, i6 x.g, i6 x.a, i6 x.o, i6 x.c, .sl LB, .sl RU]), (.n 2, A), (.n 3, B)], [(.s 5, 3)]⟩ → K σ' :=
        fun σ' hσ => hK (i + 1) σ' (by omega) (by omega) hσ
      clear hK rat hQ s2
      rw [s1] at fin
      generalize x.ru[i] = r at *
      generalize LL i = M at *
      simp -implicitDefEqProofs [g, gR, ra, rl, hlim, hll]
      refine ⟨s3, ?_⟩
      simp -implicitDefEqProofs [t1]
      refine fin _ ?_
      refine weak_mk ?_ ?_ ?_ ?_ ?_ ?_ <;> simp -implicitDefEqProofs [t1, hA, hB, hids, tn]
    · obtain rfl : i = x.ru.length := by omega
      clear hK
      simp -implicitDefEqProofs [rl]
      refine hQ _ ?_ ?_ ?_ ?_ <;> simp -implicitDefEqProofs
  · exact Nat.zero_le _
  · refine weak_mk ?_ ?_ ?_ ?_ ?_ ?_ <;> simp -implicitDefEqProofs [hpm, hA, hB, hids, l2, l3, l5, l6, l7, l9]
set_option maxRecDepth 20000 in
theorem rp_old (A B : List AV) (x : Gl) (L : List (List AV)) (hl : L.length ≤ 500000) (hx : x.ru.length ≤ 10) (hL : ∀ r ∈ L, r.length = 3) (i0 : Int) (Q : AE → St → Prop) (e : List (Nat × AV)) (pm : List (Pl × Nat)) (hpm : lkP pm (.s 5) = some 3)
    (l2 : lk e 2 = .ptr (.n 2) 0) (l3 : lk e 3 = .ptr (.n 3) 0) (l5 : lk e 5 = .sl L) (l6 : lk e 16 = i6 i0) (l7 : lk e 17 = .ptr (.n 17) 0) (l9 : lk e 18 = i6 0)
    (hQ : ∀ e', lk e' 2 = .ptr (.n 2) 0 → lk e' 3 = .ptr (.n 3) 0 → lk e' 5 = .sl (L ++ allT x.n 4 x.ru) → lk e' 16 = i6 i0 → Q (.x 10) ⟨e', [(.n 17, x.row), (.n 2, A), (.n 3, B)], [(.s 5, 3)]⟩) (hA : idsL A = []) (hB : idsL B = []) :
    wpA (SpH Tryd.prog gl) (AC.pk [1, 1, 1, 0, 1, 0, 0, 1, 0, 0, 1, 1, 1, 1, 0] c28) Q ⟨e, [(.n 17, x.row), (.n 2, A), (.n 3, B)], pm⟩ := by
  have hrow : x.row = [.str x.n, .int .u32 x.t, i6 x.g, i6 x.a, i6 x.o, i6 x.c, .sl (x.lb.map Lb.row), .sl (x.ru.map Ru.row)] := rfl
  have rl : (x.ru.map Ru.row).length = x.ru.length := by simp
  have rat : ∀ i (h : i < x.ru.length), ∀ h2, (x.ru.map Ru.row)[i]'h2 = [.str x.ru[i].n, .bool x.ru[i].p, i6 x.ru[i].l, i6 x.ru[i].s, u x.ru[i].f, i6 x.ru[i].w, i6 x.ru[i].k] := fun i h h2 => by simp [Ru.row]
  have hlim : lim = 140737488355328 := rfl
  obtain ⟨LL, hLL⟩ : ∃ LL : Nat → List (List AV), LL = fun i => L ++ allT x.n 4 (x.ru.take i) := ⟨_, rfl⟩
  have s0 : L = LL 0 := by rw [hLL]; simp [allT]
  have sN : L ++ allT x.n 4 x.ru = LL x.ru.length := by rw [hLL]; simp
  have s1 : ∀ i (h : i < x.ru.length), LL (i + 1) = LL i ++ [tn x.n x.ru[i].n 4] := fun i h => by
    simp only [hLL, allT, List.take_succ_eq_append_getElem h, List.map_append, List.append_assoc, List.map_cons, List.map_nil]
  have s2 : ∀ i, i ≤ x.ru.length → (LL i).length ≤ L.length + i := fun i h => by
    simp only [hLL, allT, List.length_append, List.length_map, List.length_take]; omega
  have s3 : ∀ i, ∀ r ∈ LL i, r.length = 3 := fun i r hr => by
    simp only [hLL, allT, List.mem_append, List.mem_map] at hr
    rcases hr with h | ⟨z, _, h⟩
    · exact hL r h
    · subst h; rfl
  clear hLL hL
  rw [sN] at hQ
  rw [s0] at l5
  rw [hrow] at hQ ⊢
  have hids : idsL [AV.str x.n, .int .u32 x.t, i6 x.g, i6 x.a, i6 x.o, i6 x.c, .sl (x.lb.map Lb.row), .sl (x.ru.map Ru.row)] = [] := rfl
  generalize x.lb.map Lb.row = LB at *
  generalize x.ru.map Ru.row = RU at *
  simp only [c28, AC.pk, if_true, if_false, Nat.one_ne_zero]
  refine wp_lpk (α := Nat) (fun i => ⟨[(2, .ptr (.n 2) 0), (3, .ptr (.n 3) 0), (5, .sl (LL i)), (16, i6 i0), (17, .ptr (.n 17) 0), (18, i6 i)], [(.n 17, [.str x.n, .int .u32 x.t, i6 x.g, i6 x.a, i6 x.o, i6 x.c, .sl LB, .sl RU]), (.n 2, A), (.n 3, B)], [(.s 5, 3)]⟩)
    (fun i => i ≤ x.ru.length) (fun i => x.ru.length - i) ?_ 0 ?_ ?_
  · rintro K i hK h1
    by_cases g : i < x.ru.length
    · have t1 : IntKind.i64.wrap ((i : Int) + 1) = (i + 1 : Nat) := by rw [wrap_i64] <;> omega
      have ra := rat i g
      have gR : i < RU.length := by omega
      have s1 := s1 i g
      have s3 := s3 i
      have hll : ((LL i).length + 1) * 40 ≤ 140737488355328 := by have := s2 i h1; omega
      have fin : ∀ σ', Weak σ' ⟨[(2, .ptr (.n 2) 0), (3, .ptr (.n 3) 0), (5, .sl (LL (i + 1))), (16, i6 i0), (17, .ptr (.n 17) 0), (18, i6 (i + 1 : Nat))], [(.n 17, [.str x.n, .int .u32 x.t, i6 x.g, i6 x.a, i6 x.o, i6 x.c, .sl LB, .sl RU]), (.n 2, A), (.n 3, B)], [(.s 5, 3)]⟩ → K σ' :=
        fun σ' hσ => hK (i + 1) σ' (by omega) (by omega) hσ
      clear hK rat hQ s2
      rw [s1] at fin
      generalize x.ru[i] = r at *
      generalize LL i = M at *
      simp -implicitDefEqProofs [g, gR, ra, rl, hlim, hll]
      refine ⟨s3, ?_⟩
      simp -implicitDefEqProofs [t1]
      refine fin _ ?_
      refine weak_mk ?_ ?_ ?_ ?_ ?_ ?_ <;> simp -implicitDefEqProofs [t1, hA, hB, hids, tn]
    · obtain rfl : i = x.ru.length := by omega
      clear hK
      simp -implicitDefEqProofs [rl]
      refine hQ _ ?_ ?_ ?_ ?_ <;> simp -implicitDefEqProofs
  · exact Nat.zero_le _
  · refine weak_mk ?_ ?_ ?_ ?_ ?_ ?_ <;> simp -implicitDefEqProofs [hpm, hA, hB, hids, l2, l3, l5, l6, l7, l9]
end Go.Ai
