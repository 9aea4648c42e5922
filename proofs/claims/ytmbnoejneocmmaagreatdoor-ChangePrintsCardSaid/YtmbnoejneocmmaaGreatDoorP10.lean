/- YtmbnoejneocmmaaGreatDoorP10: part of the abstract interpreter library (values, rules, soundness against the model) or of what a function of the seat computes. Conditions: as each theorem says. -/
import Derived.Test.YtmbnoejneocmmaaGreatDoorP9
set_option linter.unusedSimpArgs false
set_option linter.unusedVariables false
namespace Go.Ai
open Go.Proofs
end Go.Ai
set_option linter.unusedSimpArgs false
set_option linter.unusedVariables false
namespace Go.Ai
open Go.Proofs
theorem ixN_find {α : Type} (f : α → List UInt8) (n : List UInt8) : ∀ (l : List α) (i0 : Nat),
    (ixN n (l.map f) i0 = -1 ∧ l.find? (fun x => f x == n) = none) ∨ ∃ j, ∃ h : j < l.length, ixN n (l.map f) i0 = ((i0 + j : Nat) : Int) ∧ l.find? (fun x => f x == n) = some l[j]
  | [], i0 => .inl ⟨rfl, rfl⟩
  | x :: r, i0 => by
    simp only [List.map_cons, ixN, List.find?_cons]
    cases h : (f x == n) with
    | true => exact .inr ⟨0, by simp, by simp, by simp⟩
    | false =>
      rcases ixN_find f n r (i0 + 1) with ⟨h1, h2⟩ | ⟨j, hj, h1, h2⟩
      · exact .inl ⟨by simpa using h1, h2⟩
      · refine .inr ⟨j + 1, by simp; omega, ?_, ?_⟩
        · rw [if_neg (by simp), h1]; congr 1; omega
        · simpa using h2
def gF (l : List Gl) (n : List UInt8) : Option Gl := l.find? fun x => x.n == n
def ruOf : Option Gl → List Ru
  | some g => g.ru
  | none => []
def rF (o : Option Gl) (n : List UInt8) : Option Ru := (ruOf o).find? fun x => x.n == n
def glO : Option Gl → List AV
  | some x => x.row
  | none => [.str [], .int .u32 0, i6 0, i6 0, i6 0, i6 0, .nils, .nils]
def ruO : Option Ru → List AV
  | some x => x.row
  | none => [.str [], .bool false, i6 0, i6 0, .int .u64 0, i6 0, i6 0]
def Gl.zero : Gl := ⟨[], 0, 0, 0, 0, 0, [], []⟩
set_option maxRecDepth 20000 in
theorem goalOf_spec (c : Cf) (n : List UInt8) (hl : c.gs.length ≤ 1000000) : Sp Tryz.prog gl 153 [.agg c.row, .str n] (.tup [.agg ((gF c.gs n).getD Gl.zero).row, .bool (gF c.gs n).isSome]) := by
  refine s153 rfl rfl ?_
  have Q := goFd_spec c.gs n hl 10 (.n 3) rfl rfl
  have rl : (c.gs.map Gl.row).length = c.gs.length := by simp
  have rat : ∀ i (h : i < c.gs.length), ∀ h2, (c.gs.map Gl.row)[i]'h2 = c.gs[i].row := fun i h h2 => by simp
  have hx : c.row = [.sl (c.gs.map Gl.row), i6 c.r, i6 c.v, i6 c.i, i6 c.x, i6 c.y] := rfl
  rw [hx]
  rcases ixN_find Gl.n n c.gs 0 with ⟨h1, h2⟩ | ⟨j, hj, h1, h2⟩
  · rw [show gF c.gs n = none from h2]
    rw [h1] at Q
    generalize c.gs.map Gl.row = GS at *
    have ez : Gl.zero.row = [.str [], .int .u32 0, i6 0, i6 0, i6 0, i6 0, .sl [], .sl []] := rfl
    simp -implicitDefEqProofs [c153, ez]
    refine onH_mk _ _ (Q) ⟨?_, ?_, ?_, ?_, ?_, ?_, ?_⟩ ?_
    iterate 7 (· simp -implicitDefEqProofs)
    simp -implicitDefEqProofs
  · rw [show gF c.gs n = some c.gs[j] from h2]
    rw [h1] at Q
    have ra := rat j hj
    have hrl : (c.gs[j].row).length = 8 := rfl
    have hs : shutL c.gs[j].row = some c.gs[j].row := rfl
    simp only [Option.getD_some]
    generalize c.gs[j].row = x at *
    generalize c.gs.map Gl.row = GS at *
    have e8 : List.take 8 x = x := List.take_of_length_le (by omega)
    have gR : j < GS.length := by omega
    have q0 : ¬ ((j : Int) < 0) := by omega
    simp -implicitDefEqProofs [c153]
    refine onH_mk _ _ (Q) ⟨?_, ?_, ?_, ?_, ?_, ?_, ?_⟩ ?_
    iterate 7 (· simp -implicitDefEqProofs)
    simp -implicitDefEqProofs [ra, gR, e8, hrl, hs, q0]
set_option maxRecDepth 20000 in
theorem ruleOf_some (g : Gl) (n : List UInt8) (hl : g.ru.length ≤ 1000000) : Sp Tryz.prog gl 208 [.agg g.row, .str n] (.tup [.agg (ruO (rF (some g) n)), .bool (rF (some g) n).isSome]) := by
  refine s208 rfl rfl ?_
  have Q := ruFd_spec g.ru n hl 10 (.n 3) rfl rfl
  have rl : (g.ru.map Ru.row).length = g.ru.length := by simp
  have rat : ∀ i (h : i < g.ru.length), ∀ h2, (g.ru.map Ru.row)[i]'h2 = g.ru[i].row := fun i h h2 => by simp
  have hx : g.row = [.str g.n, .int .u32 g.t, i6 g.g, i6 g.a, i6 g.o, i6 g.c, .sl (g.lb.map Lb.row), .sl (g.ru.map Ru.row)] := rfl
  rw [hx]
  generalize g.lb.map Lb.row = LB at *
  rcases ixN_find Ru.n n g.ru 0 with ⟨h1, h2⟩ | ⟨j, hj, h1, h2⟩
  · rw [show rF (some g) n = none from h2]
    rw [h1] at Q
    generalize g.ru.map Ru.row = GS at *
    simp -implicitDefEqProofs [c208, ruO]
    refine onH_mk _ _ (Q) ⟨?_, ?_, ?_, ?_, ?_, ?_, ?_⟩ ?_
    iterate 7 (· simp -implicitDefEqProofs)
    simp -implicitDefEqProofs
  · rw [show rF (some g) n = some g.ru[j] from h2]
    rw [h1] at Q
    have ra := rat j hj
    have hrl : (g.ru[j].row).length = 7 := rfl
    have hs : shutL g.ru[j].row = some g.ru[j].row := rfl
    simp only [ruO]
    generalize g.ru[j].row = x at *
    generalize g.ru.map Ru.row = GS at *
    have e8 : List.take 7 x = x := List.take_of_length_le (by omega)
    have gR : j < GS.length := by omega
    have q0 : ¬ ((j : Int) < 0) := by omega
    simp -implicitDefEqProofs [c208]
    refine onH_mk _ _ (Q) ⟨?_, ?_, ?_, ?_, ?_, ?_, ?_⟩ ?_
    iterate 7 (· simp -implicitDefEqProofs)
    simp -implicitDefEqProofs [ra, gR, e8, hrl, hs, q0]
def kindP (had same : Bool) : Int := if had = true then (if same = true then 2 else 3) else 1
theorem kind_spec (had same : Bool) : Sp Tryz.prog gl 207 [.bool had, .bool same] (i6 (kindP had same)) := by
  refine s207 rfl rfl ?_
  unfold kindP
  cases had <;> cases same <;> simp -implicitDefEqProofs [c207]
end Go.Ai
set_option linter.unusedSimpArgs false
set_option linter.unusedVariables false
namespace Go.Ai
open Go.Proofs
set_option maxRecDepth 20000 in
theorem equal_spec (a b : List Int) (ha : a.length ≤ 1000000) (hb : b.length ≤ 1000000) : Sp Tryz.prog gl 171 [.sl (intRows a), .sl (intRows b)] (.bool (decide (a = b))) := by
  refine s171 rfl rfl ?_
  have al := intRows_len a
  have bl := intRows_len b
  have aat := intRows_at a
  have bat := intRows_at b
  obtain ⟨R, hR⟩ : ∃ R, R = decide (a = b) := ⟨_, rfl⟩
  rw [← hR]
  generalize intRows a = A at *
  generalize intRows b = B at *
  by_cases hl : a.length = b.length
  · have hl' : ((a.length : Int) != (b.length : Int)) = false := by simp [hl]
    simp -implicitDefEqProofs [c171, al, bl, hl, hl']
    refine wp_lpk (α := Nat) (fun i => ⟨[(0, .sl A), (1, .sl B), (12, i6 b.length), (13, i6 i)], [], []⟩) (fun i => i ≤ a.length ∧ decide (a.drop i = b.drop i) = R) (fun i => a.length - i) ?_ 0 ?_ ?_
    · rintro K i hK ⟨h1, h2⟩
      by_cases g : i < a.length
      · have t1 : IntKind.i64.wrap ((i : Int) + 1) = (i + 1 : Nat) := by rw [wrap_i64] <;> omega
        have g2 : i < b.length := by omega
        have gA : i < A.length := by omega
        have gB : i < B.length := by omega
        have ra := aat i g
        have rb := bat i g2
        rw [List.drop_eq_getElem_cons g, List.drop_eq_getElem_cons g2] at h2
        have fin : a[i] = b[i] → ∀ σ', Weak σ' ⟨[(0, .sl A), (1, .sl B), (12, i6 b.length), (13, i6 (i + 1 : Nat))], [], []⟩ → K σ' := fun he σ' hσ => hK (i + 1) σ' ⟨by omega, by rw [← h2, he, Bool.eq_iff_iff]; simp only [decide_eq_true_eq, List.cons.injEq, true_and]⟩ (by omega) hσ
        clear hK aat bat
        generalize a[i] = x at *
        generalize b[i] = y at *
        by_cases he : x = y
        · subst he
          have fin := fin rfl
          have e : (x != x) = false := by simp
          simp -implicitDefEqProofs [g, g2, gA, gB, ra, rb, al, bl, e]
          refine fin _ ?_
          refine weak_mk ?_ ?_ ?_ ?_ ?_ ?_ <;> simp -implicitDefEqProofs [t1]
        · have e : (x != y) = true := by simpa using he
          have : R = false := by rw [← h2]; simp [he]
          subst this
          simp -implicitDefEqProofs [g, g2, gA, gB, ra, rb, al, bl, e]
      · obtain rfl : i = a.length := by omega
        have : R = true := by rw [← h2, List.drop_eq_nil_of_le (by omega), List.drop_eq_nil_of_le (by omega)]; rfl
        subst this
        simp -implicitDefEqProofs [al, hl]
    · exact ⟨Nat.zero_le _, by simp [hR]⟩
    · refine weak_mk ?_ ?_ ?_ ?_ ?_ ?_ <;> simp -implicitDefEqProofs
  · have hl' : ((a.length : Int) != (b.length : Int)) = true := by simp; omega
    have : R = false := by rw [hR]; simp; intro e; exact hl (congrArg List.length e)
    subst this
    simp -implicitDefEqProofs [c171, al, bl, hl, hl']
theorem cu_len (a : Array Int) : ∀ m, (Lib.compactUpTo a m).length ≤ m
  | 0 => by simp [Lib.compactUpTo]
  | m + 1 => by
    rw [Lib.compactUpTo_succ]
    have := cu_len a m
    split <;> simp <;> omega
theorem winP_len (x : Gl) : (winP x).length ≤ 2 * x.ru.length + 1 := by
  have e : winP x = Lib.compactUpTo (sortI (allW x)).toArray (sortI (allW x)).length := rfl
  have h1 := cu_len (sortI (allW x)).toArray (sortI (allW x)).length
  have h2 : (sortI (allW x)).length = (allW x).length := (List.mergeSort_perm _ _).length_eq
  have h3 := allW_len x
  rw [e]; omega
/-- Does a goal stay? -/
def stP (x y : Gl) : Bool := x.g == y.g && (x.c == y.c && decide (winP x = winP y))
set_option maxRecDepth 20000 in
theorem stays_spec (x y : Gl) (hx : x.ru.length ≤ 10) (hy : y.ru.length ≤ 10) : Sp Tryz.prog gl 206 [.agg x.row, .agg y.row] (.bool (stP x y)) := by
  refine s206 rfl rfl ?_
  have W1 := win_spec x hx
  have W2 := win_spec y hy
  have E := equal_spec (winP x) (winP y) (by have := winP_len x; omega) (by have := winP_len y; omega)
  have ex : x.row = [.str x.n, .int .u32 x.t, i6 x.g, i6 x.a, i6 x.o, i6 x.c, .sl (x.lb.map Lb.row), .sl (x.ru.map Ru.row)] := rfl
  have ey : y.row = [.str y.n, .int .u32 y.t, i6 y.g, i6 y.a, i6 y.o, i6 y.c, .sl (y.lb.map Lb.row), .sl (y.ru.map Ru.row)] := rfl
  rw [ex] at W1 ⊢
  rw [ey] at W2 ⊢
  unfold stP
  generalize intRows (winP x) = A at *
  generalize intRows (winP y) = B at *
  generalize decide (winP x = winP y) = b3 at *
  generalize x.lb.map Lb.row = LB at *
  generalize y.lb.map Lb.row = LC at *
  generalize x.ru.map Ru.row = RU at *
  generalize y.ru.map Ru.row = RV at *
  cases h1 : (x.g == y.g)
  · simp -implicitDefEqProofs [c206, h1]
  · cases h2 : (x.c == y.c)
    · simp -implicitDefEqProofs [c206, h1, h2]
    · simp -implicitDefEqProofs [c206, h1, h2]
      refine onC_mk _ (W1) ?_
      simp -implicitDefEqProofs
      refine onC_mk _ (W2) ?_
      simp -implicitDefEqProofs
      refine onC_mk _ (E) ?_
      simp -implicitDefEqProofs
end Go.Ai
set_option linter.unusedSimpArgs false
set_option linter.unusedVariables false
namespace Go.Ai
open Go.Proofs
/-- A turn. -/
def tn (g r : List UInt8) (k : Int) : List AV := [.str g, .str r, i6 k]
set_option maxRecDepth 20000 in
theorem add_spec (L : List (List AV)) (hl : L.length ≤ 1000000) (hL : ∀ r ∈ L, r.length = 3) (g r : List UInt8) (k : Int) (d : Nat) (b : Id) (hb : b.isIt = false) (hbd : b.isNw d = false) :
    SpH Tryz.prog gl 155 d ⟨[.ptr b 0, .str g, .str r, i6 k], [(b, [.sl L])], [(.b b 0, 3)]⟩ ⟨.tup [], [(b, [.sl (L ++ [tn g r k])])], [(.b b 0, 3)]⟩ := by
  refine h155 rfl ?_
  have hib := inn_notNw hbd
  have hlim : lim = 140737488355328 := rfl
  have hll : (L.length + 1) * 40 ≤ 140737488355328 := by omega
  simp only [inSt, mpB, mpL, AV.mp, mpP]
  simp -implicitDefEqProofs [c155, hlim, hll, tn]
  refine ⟨hL, ?_⟩
  refine postH_r ⟨?_, ?_, ?_, ?_, ?_, ?_⟩ <;> simp -implicitDefEqProofs [hib, hb]
theorem glO_len (o : Option Gl) : (glO o).length = 8 := by cases o <;> rfl
theorem glO_ids (o : Option Gl) : idsL (glO o) = [] := by cases o <;> rfl
theorem glO_shut (o : Option Gl) : shutL (glO o) = some (o.getD Gl.zero).row := by cases o <;> rfl
theorem ruleOf_get (o : Option Gl) (n : List UInt8) (hl : (ruOf o).length ≤ 1000000) : Sp Tryz.prog gl 208 [.agg (o.getD Gl.zero).row, .str n] (.tup [.agg (ruO (rF o n)), .bool (rF o n).isSome]) := by
  cases o with
  | none => exact ruleOf_some Gl.zero n (by simp [Gl.zero])
  | some g => exact ruleOf_some g n hl
theorem ruO_len (o : Option Ru) : (ruO o).length = 7 := by cases o <;> rfl
theorem ruO_ids (o : Option Ru) : idsL (ruO o) = [] := by cases o <;> rfl
theorem ruO_shut (o : Option Ru) : shutL (ruO o) = some (ruO o) := by cases o <;> rfl
/-- The rules of a list that another goal hasn't. -/
def goneR (nm : List UInt8) (o : Option Gl) (l : List Ru) : List (List AV) := l.flatMap fun r => if (rF o r.n).isSome = true then [] else [tn nm r.n 4]
theorem goneR_snoc (nm : List UInt8) (o : Option Gl) (l : List Ru) (i : Nat) (h : i < l.length) : goneR nm o (l.take (i + 1)) = goneR nm o (l.take i) ++ if (rF o l[i].n).isSome = true then [] else [tn nm l[i].n 4] := by
  unfold goneR
  rw [List.take_succ_eq_append_getElem h, List.flatMap_append]
  simp
theorem goneR_len (nm : List UInt8) (o : Option Gl) : ∀ l : List Ru, (goneR nm o l).length ≤ l.length
  | [] => by simp [goneR]
  | r :: l => by
    have := goneR_len nm o l
    have e : goneR nm o (r :: l) = (if (rF o r.n).isSome = true then [] else [tn nm r.n 4]) ++ goneR nm o l := by simp [goneR]
    rw [e, List.length_append]
    split <;> simp <;> omega
theorem goneR_three (nm : List UInt8) (o : Option Gl) (l : List Ru) : ∀ r ∈ goneR nm o l, r.length = 3 := by
  intro r hr
  unfold goneR at hr
  obtain ⟨x, _, hx⟩ := List.mem_flatMap.1 hr
  split at hx
  · simp at hx
  · simp only [List.mem_singleton] at hx; subst hx; rfl
set_option maxRecDepth 20000 in
theorem gone_spec (x : Gl) (o : Option Gl) (L : List (List AV)) (hl : L.length + x.ru.length ≤ 1000000) (hL : ∀ r ∈ L, r.length = 3) (ho : (ruOf o).length ≤ 1000000) (d : Nat) (b : Id) (hb : b.isIt = false) (hbd : b.isNw d = false) :
    SpH Tryz.prog gl 156 d ⟨[.ptr b 0, .agg x.row, .agg (glO o)], [(b, [.sl L])], [(.b b 0, 3)]⟩ ⟨.tup [], [(b, [.sl (L ++ goneR x.n o x.ru)])], [(.b b 0, 3)]⟩ := by
  refine h156 rfl ?_
  have hib := inn_notNw hbd
  have hx : x.row = [.str x.n, .int .u32 x.t, i6 x.g, i6 x.a, i6 x.o, i6 x.c, .sl (x.lb.map Lb.row), .sl (x.ru.map Ru.row)] := rfl
  have rat : ∀ i (h : i < x.ru.length), ∀ h2, (x.ru.map Ru.row)[i]'h2 = [.str x.ru[i].n, .bool x.ru[i].p, i6 x.ru[i].l, i6 x.ru[i].s, u x.ru[i].f, i6 x.ru[i].w, i6 x.ru[i].k] := fun i h h2 => by simp [Ru.row]
  have rl : (x.ru.map Ru.row).length = x.ru.length := by simp
  have P1 := glO_len o
  have P2 := glO_ids o
  have P3 : ∀ f, mpL f (glO o) = glO o := fun f => mpL_noids P2
  have hw := fun n => ruleOf_get o n ho
  have P4 := glO_shut o
  obtain ⟨LL, hLL⟩ : ∃ LL : Nat → List (List AV), LL = fun i => L ++ goneR x.n o (x.ru.take i) := ⟨_, rfl⟩
  have s0 : LL 0 = L := by rw [hLL]; simp [goneR]
  have sN : L ++ goneR x.n o x.ru = LL x.ru.length := by rw [hLL]; simp
  have s1 : ∀ i (h : i < x.ru.length), LL (i + 1) = LL i ++ if (rF o x.ru[i].n).isSome = true then [] else [tn x.n x.ru[i].n 4] := fun i h => by
    simp only [hLL, goneR_snoc x.n o x.ru i h, List.append_assoc]
  have s2 : ∀ i, i ≤ x.ru.length → (LL i).length ≤ L.length + i := fun i h => by
    have := goneR_len x.n o (x.ru.take i)
    rw [List.length_take] at this
    simp only [hLL, List.length_append]; omega
  have s3 : ∀ i, ∀ r ∈ LL i, r.length = 3 := fun i r hr => by
    simp only [hLL, List.mem_append] at hr
    exact hr.elim (hL r) (goneR_three _ _ _ r)
  have A := fun i (h : i ≤ x.ru.length) g r k => add_spec (LL i) (by have := s2 i h; omega) (s3 i) g r k 31 (.up b) hb rfl
  clear hLL s2 s3 hL
  rw [sN, hx]
  rw [← s0]
  generalize glO o = P at *
  generalize (o.getD Gl.zero).row = P' at *
  generalize x.lb.map Lb.row = LB at *
  generalize x.ru.map Ru.row = RU at *
  generalize x.ru = ru at *
  have e8 : List.take 8 P = P := List.take_of_length_le (by omega)
  simp only [inSt, mpB, mpL, AV.mp, mpP, P3]
  simp -implicitDefEqProofs [c156, rl]
  refine wp_lpk (α := Nat) (fun i => ⟨[(0, .ptr (.up b) 0), (4, .ptr (.n 4) 0), (5, .ptr (.n 5) 0), (11, .sl RU), (12, i6 ru.length), (13, i6 i)], [(.n 4, [.str x.n, .int .u32 x.t, i6 x.g, i6 x.a, i6 x.o, i6 x.c, .sl LB, .sl RU]), (.n 5, P), (.up b, [.sl (LL i)])], [(.b (.up b) 0, 3)]⟩)
    (fun i => i ≤ ru.length) (fun i => ru.length - i) ?_ 0 ?_ ?_
  · rintro K i hK h1
    by_cases g : i < ru.length
    · have t1 : IntKind.i64.wrap ((i : Int) + 1) = (i + 1 : Nat) := by rw [wrap_i64] <;> omega
      have ra := rat i g
      have gR : i < RU.length := by omega
      have hw := hw ru[i].n
      have A := A i h1 x.n ru[i].n 4
      have s1 := s1 i g
      have q1 := ruO_len (rF o ru[i].n)
      have q2 := ruO_ids (rF o ru[i].n)
      have q3 := ruO_shut (rF o ru[i].n)
      have fin : ∀ σ', Weak σ' ⟨[(0, .ptr (.up b) 0), (4, .ptr (.n 4) 0), (5, .ptr (.n 5) 0), (11, .sl RU), (12, i6 ru.length), (13, i6 (i + 1 : Nat))], [(.n 4, [.str x.n, .int .u32 x.t, i6 x.g, i6 x.a, i6 x.o, i6 x.c, .sl LB, .sl RU]), (.n 5, P), (.up b, [.sl (LL (i + 1))])], [(.b (.up b) 0, 3)]⟩ → K σ' :=
        fun σ' hσ => hK (i + 1) σ' (by omega) (by omega) hσ
      clear hK rat
      generalize ru[i] = r at *
      generalize (rF o r.n).isSome = f at *
      generalize ruO (rF o r.n) = q at *
      have e7 : List.take 7 q = q := List.take_of_length_le (by omega)
      rw [s1] at fin
      generalize LL i = M at *
      simp -implicitDefEqProofs [g, gR, ra, rl, P1, P4, e8]
      refine onC_mk _ (hw) ?_
      cases f
      · simp -implicitDefEqProofs [q1, q2, q3, e7]
        refine onH_mk _ _ (A) ⟨?_, ?_, ?_, ?_, ?_, ?_, ?_⟩ ?_
        iterate 7 (· simp -implicitDefEqProofs [P2, q2])
        simp -implicitDefEqProofs [t1]
        refine fin _ ?_
        refine weak_mk ?_ ?_ ?_ ?_ ?_ ?_ <;> simp -implicitDefEqProofs [t1, P2, q2]
      · simp -implicitDefEqProofs [q1, q2, q3, e7, t1]
        refine fin _ ?_
        refine weak_mk ?_ ?_ ?_ ?_ ?_ ?_ <;> simp -implicitDefEqProofs [t1, P2, q2]
    · obtain rfl : i = ru.length := by omega
      clear hK
      simp -implicitDefEqProofs
      refine postH_r ⟨?_, ?_, ?_, ?_, ?_, ?_⟩ <;> simp -implicitDefEqProofs [hib, hb]
  · exact Nat.zero_le _
  · refine weak_mk ?_ ?_ ?_ ?_ ?_ ?_ <;> simp -implicitDefEqProofs [P2]
end Go.Ai
set_option linter.unusedSimpArgs false
set_option linter.unusedVariables false
namespace Go.Ai
open Go.Proofs
def Ru.zero : Ru := ⟨[], false, 0, 0, 0, 0, 0⟩
theorem ruO_get (o : Option Ru) : ruO o = (o.getD Ru.zero).row := by cases o <;> rfl
theorem ru_eq (w r : Ru) : cellsEq [.s, .b, .i, .i, .i, .i, .i] w.row r.row = some (decide (w = r)) := by
  obtain ⟨a1, a2, a3, a4, a5, a6, a7⟩ := w
  obtain ⟨b1, b2, b3, b4, b5, b6, b7⟩ := r
  have e : ∀ x y : Nat, (((x : Int) == (y : Int)) : Bool) = (x == y) := fun x y => by rw [Bool.eq_iff_iff]; simp only [beq_iff_eq]; omega
  simp only [Ru.row, cellsEq, cellEq, if_true, e, Ru.mk.injEq, Option.some.injEq]
  rw [Bool.eq_iff_iff]
  simp only [Bool.and_eq_true, beq_iff_eq, decide_eq_true_eq, Bool.and_true]
/-- What is told of one rule of the new goal. -/
def ruT (x y : Gl) (S : Bool) (r : Ru) : List AV := tn x.n r.n (kindP (rF (some y) r.n).isSome (S && decide ((rF (some y) r.n).getD Ru.zero = r)))
def goalT (x y : Gl) (had : Bool) : List (List AV) :=
  [tn x.n [] (kindP had (had && stP y x))] ++ x.ru.map (ruT x y (had && stP y x)) ++ goneR y.n (some x) y.ru
set_option maxRecDepth 20000 in
theorem goal_tail (x y : Gl) (had S : Bool) (L : List (List AV)) (hl : L.length ≤ 900000) (hL : ∀ r ∈ L, r.length = 3) (hx : x.ru.length ≤ 10) (hy : y.ru.length ≤ 10) (d : Nat) (b : Id) (hb : b.isIt = false) (hbd : b.isNw d = false)
    (e : List (Nat × AV)) (l0 : lk e 0 = .ptr (.up b) 0) (l3 : lk e 3 = .bool had) (l5 : lk e 5 = .ptr (.n 5) 0) (l6 : lk e 6 = .ptr (.n 6) 0) (l8 : lk e 8 = .bool S) :
    wpA (SpH Tryz.prog gl) (AC.tl 2 c154) (postH d [] ⟨.tup [], [(b, [.sl (L ++ ([tn x.n [] (kindP had S)] ++ x.ru.map (ruT x y S) ++ goneR y.n (some x) y.ru))])], [(.b b 0, 3)]⟩)
      ⟨e, [(.n 6, y.row), (.n 5, x.row), (.up b, [.sl L])], [(.b (.up b) 0, 3)]⟩ := by
  have hib := inn_notNw hbd
  have ex : x.row = [.str x.n, .int .u32 x.t, i6 x.g, i6 x.a, i6 x.o, i6 x.c, .sl (x.lb.map Lb.row), .sl (x.ru.map Ru.row)] := rfl
  have rat : ∀ i (h : i < x.ru.length), ∀ h2, (x.ru.map Ru.row)[i]'h2 = [.str x.ru[i].n, .bool x.ru[i].p, i6 x.ru[i].l, i6 x.ru[i].s, u x.ru[i].f, i6 x.ru[i].w, i6 x.ru[i].k] := fun i h h2 => by simp [Ru.row]
  have rl : (x.ru.map Ru.row).length = x.ru.length := by simp
  have P1 : y.row.length = 8 := rfl
  have P2 : idsL y.row = [] := rfl
  have P4 : shutL y.row = some y.row := rfl
  have hw := fun n => ruleOf_some y n (by omega)
  have KD := kind_spec had S
  have A0 := add_spec L (by omega) hL x.n [] (kindP had S) 25 (.up b) hb rfl
  obtain ⟨LL, hLL⟩ : ∃ LL : Nat → List (List AV), LL = fun i => L ++ [tn x.n [] (kindP had S)] ++ (x.ru.take i).map (ruT x y S) := ⟨_, rfl⟩
  have s0 : L ++ [tn x.n [] (kindP had S)] = LL 0 := by rw [hLL]; simp
  have sN : L ++ ([tn x.n [] (kindP had S)] ++ x.ru.map (ruT x y S) ++ goneR y.n (some x) y.ru) = LL x.ru.length ++ goneR y.n (some x) y.ru := by rw [hLL]; simp
  have s1 : ∀ i (h : i < x.ru.length), LL (i + 1) = LL i ++ [ruT x y S x.ru[i]] := fun i h => by
    simp only [hLL, List.take_succ_eq_append_getElem h, List.map_append, List.append_assoc, List.map_cons, List.map_nil]
  have s2 : ∀ i, i ≤ x.ru.length → (LL i).length ≤ L.length + 1 + i := fun i h => by
    simp only [hLL, List.length_append, List.length_map, List.length_take, List.length_singleton]; omega
  have s3 : ∀ i, ∀ r ∈ LL i, r.length = 3 := fun i r hr => by
    simp only [hLL, List.mem_append, List.mem_singleton, List.mem_map] at hr
    rcases hr with (h | h) | ⟨z, _, h⟩
    · exact hL r h
    · subst h; rfl
    · subst h; rfl
  have A := fun i (h : i ≤ x.ru.length) g r k => add_spec (LL i) (by have := s2 i h; omega) (s3 i) g r k 53 (.up b) hb rfl
  have G := gone_spec y (some x) (LL x.ru.length) (by have := s2 x.ru.length (Nat.le_refl _); omega) (s3 _) (by show x.ru.length ≤ _; omega) 58 (.up b) hb rfl
  simp only [glO] at G
  have hq := fun i (h : i < x.ru.length) => ru_eq ((rF (some y) x.ru[i].n).getD Ru.zero) x.ru[i]
  have hrt : ∀ i (h : i < x.ru.length), ruT x y S x.ru[i] = tn x.n x.ru[i].n (kindP (rF (some y) x.ru[i].n).isSome (S && decide ((rF (some y) x.ru[i].n).getD Ru.zero = x.ru[i]))) := fun i h => rfl
  clear hLL s2 s3 hL
  rw [sN]
  rw [s0] at A0
  rw [ex] at G ⊢
  generalize LL x.ru.length ++ goneR y.n (some x) y.ru = FIN at *
  generalize kindP had S = K0 at *
  generalize y.row = P at *
  generalize x.lb.map Lb.row = LB at *
  generalize x.ru.map Ru.row = RU at *
  have e8 : List.take 8 P = P := List.take_of_length_le (by omega)
  simp only [c154, AC.tl]
  simp -implicitDefEqProofs [l0, l3, l5, l6, l8]
  refine onC_mk _ (KD) ?_
  simp -implicitDefEqProofs [l0, l3, l5, l6, l8]
  refine onH_mk _ _ (A0) ⟨?_, ?_, ?_, ?_, ?_, ?_, ?_⟩ ?_
  iterate 7 (· simp -implicitDefEqProofs [l0, l3, l5, l6, l8])
  simp -implicitDefEqProofs [l0, l3, l5, l6, l8, rl]
  refine wp_lpk (α := Nat) (fun i => ⟨[(0, .ptr (.up b) 0), (5, .ptr (.n 5) 0), (6, .ptr (.n 6) 0), (8, .bool S), (27, .sl RU), (28, i6 x.ru.length), (29, i6 i)], [(.n 5, [.str x.n, .int .u32 x.t, i6 x.g, i6 x.a, i6 x.o, i6 x.c, .sl LB, .sl RU]), (.n 6, P), (.up b, [.sl (LL i)])], [(.b (.up b) 0, 3)]⟩)
    (fun i => i ≤ x.ru.length) (fun i => x.ru.length - i) ?_ 0 ?_ ?_
  · rintro K i hK h1
    by_cases g : i < x.ru.length
    · have t1 : IntKind.i64.wrap ((i : Int) + 1) = (i + 1 : Nat) := by rw [wrap_i64] <;> omega
      have ra := rat i g
      have gR : i < RU.length := by omega
      have hw := hw x.ru[i].n
      have A := fun k => A i h1 x.n x.ru[i].n k
      have s1 := s1 i g
      have hrt := hrt i g
      have hq := hq i g
      rw [ruO_get] at hw
      have er : x.ru[i].row = [.str x.ru[i].n, .bool x.ru[i].p, i6 x.ru[i].l, i6 x.ru[i].s, u x.ru[i].f, i6 x.ru[i].w, i6 x.ru[i].k] := rfl
      rw [er] at hq
      have q1 : ((rF (some y) x.ru[i].n).getD Ru.zero).row.length = 7 := rfl
      have q2 : idsL ((rF (some y) x.ru[i].n).getD Ru.zero).row = [] := rfl
      have q3 : shutL ((rF (some y) x.ru[i].n).getD Ru.zero).row = some ((rF (some y) x.ru[i].n).getD Ru.zero).row := rfl
      have fin : ∀ σ', Weak σ' ⟨[(0, .ptr (.up b) 0), (5, .ptr (.n 5) 0), (6, .ptr (.n 6) 0), (8, .bool S), (27, .sl RU), (28, i6 x.ru.length), (29, i6 (i + 1 : Nat))], [(.n 5, [.str x.n, .int .u32 x.t, i6 x.g, i6 x.a, i6 x.o, i6 x.c, .sl LB, .sl RU]), (.n 6, P), (.up b, [.sl (LL (i + 1))])], [(.b (.up b) 0, 3)]⟩ → K σ' :=
        fun σ' hσ => hK (i + 1) σ' (by omega) (by omega) hσ
      clear hK rat er
      rw [s1, hrt] at fin
      generalize decide ((rF (some y) x.ru[i].n).getD Ru.zero = x.ru[i]) = w at *
      generalize ((rF (some y) x.ru[i].n).getD Ru.zero).row = q at *
      generalize (rF (some y) x.ru[i].n).isSome = f at *
      generalize x.ru[i] = r at *
      have e7 : List.take 7 q = q := List.take_of_length_le (by omega)
      generalize LL i = M at *
      simp -implicitDefEqProofs [g, gR, ra, rl, P1, P4, e8]
      refine onC_mk _ (hw) ?_
      cases S
      · have KD2 := kind_spec f false
        have A := A (kindP f false)
        simp only [Bool.false_and] at fin
        generalize kindP f false = kk at *
        simp -implicitDefEqProofs [q1, q2, q3, e7]
        refine onC_mk _ (KD2) ?_
        simp -implicitDefEqProofs [q1, q2, q3, e7]
        refine onH_mk _ _ (A) ⟨?_, ?_, ?_, ?_, ?_, ?_, ?_⟩ ?_
        iterate 7 (· simp -implicitDefEqProofs [P2, q2])
        simp -implicitDefEqProofs [t1]
        refine fin _ ?_
        refine weak_mk ?_ ?_ ?_ ?_ ?_ ?_ <;> simp -implicitDefEqProofs [t1, P2, q2]
      · have KD2 := kind_spec f w
        have A := A (kindP f w)
        simp only [Bool.true_and] at fin
        generalize kindP f w = kk at *
        simp -implicitDefEqProofs [q1, q2, q3, e7, hq]
        refine onC_mk _ (KD2) ?_
        simp -implicitDefEqProofs [q1, q2, q3, e7, hq]
        refine onH_mk _ _ (A) ⟨?_, ?_, ?_, ?_, ?_, ?_, ?_⟩ ?_
        iterate 7 (· simp -implicitDefEqProofs [P2, q2])
        simp -implicitDefEqProofs [t1]
        refine fin _ ?_
        refine weak_mk ?_ ?_ ?_ ?_ ?_ ?_ <;> simp -implicitDefEqProofs [t1, P2, q2]
    · obtain rfl : i = x.ru.length := by omega
      clear hK
      simp -implicitDefEqProofs [P1, e8]
      refine onH_mk _ _ (G) ⟨?_, ?_, ?_, ?_, ?_, ?_, ?_⟩ ?_
      iterate 7 (· simp -implicitDefEqProofs [P1, P2])
      simp -implicitDefEqProofs
      refine postH_r ⟨?_, ?_, ?_, ?_, ?_, ?_⟩ <;> simp -implicitDefEqProofs [hib, hb]
  · exact Nat.zero_le _
  · refine weak_mk ?_ ?_ ?_ ?_ ?_ ?_ <;> simp -implicitDefEqProofs [P2, l0, l3, l5, l6, l8]
set_option maxRecDepth 20000 in
theorem pgoal_spec (x y : Gl) (had : Bool) (L : List (List AV)) (hl : L.length ≤ 900000) (hL : ∀ r ∈ L, r.length = 3) (hx : x.ru.length ≤ 10) (hy : y.ru.length ≤ 10) (d : Nat) (b : Id) (hb : b.isIt = false) (hbd : b.isNw d = false) :
    SpH Tryz.prog gl 154 d ⟨[.ptr b 0, .agg x.row, .agg y.row, .bool had], [(b, [.sl L])], [(.b b 0, 3)]⟩ ⟨.tup [], [(b, [.sl (L ++ goalT x y had)])], [(.b b 0, 3)]⟩ := by
  refine h154 rfl ?_
  have ec : c154 = AC.cutAt 2 (AC.tl 2 c154) c154 := rfl
  rw [ec]
  unfold goalT
  have T := goal_tail x y had (had && stP y x) L hl hL hx hy d b hb hbd
  have W := stays_spec y x hy hx
  have P1 : y.row.length = 8 := rfl
  have P2 : idsL y.row = [] := rfl
  have P3 : ∀ f, mpL f y.row = y.row := fun f => mpL_noids P2
  have P4 : shutL y.row = some y.row := rfl
  have Q1 : x.row.length = 8 := rfl
  have Q2 : idsL x.row = [] := rfl
  have Q3 : ∀ f, mpL f x.row = x.row := fun f => mpL_noids Q2
  have Q4 : shutL x.row = some x.row := rfl
  generalize AC.tl 2 c154 = TT at T ⊢
  generalize (L ++ ([tn x.n [] (kindP had (had && stP y x))] ++ x.ru.map (ruT x y (had && stP y x)) ++ goneR y.n (some x) y.ru)) = FIN at *
  generalize stP y x = S at *
  generalize y.row = P at *
  generalize x.row = Q at *
  have e8 : List.take 8 P = P := List.take_of_length_le (by omega)
  have f8 : List.take 8 Q = Q := List.take_of_length_le (by omega)
  simp only [inSt, mpB, mpL, AV.mp, mpP, P3, Q3, c154, AC.cutAt]
  cases had
  · simp -implicitDefEqProofs [P1, Q1, e8, f8]
    refine T _ ?_ ?_ ?_ ?_ ?_ <;> simp -implicitDefEqProofs
  · simp -implicitDefEqProofs [P1, P4, Q4, Q1, e8, f8]
    refine onC_mk _ (W) ?_
    simp -implicitDefEqProofs
    refine T _ ?_ ?_ ?_ ?_ ?_ <;> simp -implicitDefEqProofs
end Go.Ai
set_option linter.unusedSimpArgs false
set_option linter.unusedVariables false
namespace Go.Ai
open Go.Proofs
def wasG (l : List Gl) (n : List UInt8) : Gl := (gF l n).getD Gl.zero
def newT (a : List Gl) (x : Gl) : List (List AV) := goalT x (wasG a x.n) (gF a x.n).isSome
def oldT (b : List Gl) (x : Gl) : List (List AV) := if (gF b x.n).isSome = true then [] else [tn x.n [] 4] ++ goneR x.n none x.ru
def planP (a b : List Gl) : List (List AV) := b.flatMap (newT a) ++ a.flatMap (oldT b)
theorem flatMap_snoc {α β : Type} (f : α → List β) (l : List α) (i : Nat) (h : i < l.length) : (l.take (i + 1)).flatMap f = (l.take i).flatMap f ++ f l[i] := by
  rw [List.take_succ_eq_append_getElem h, List.flatMap_append]; simp
theorem flatMap_len {α β : Type} (f : α → List β) (k : Nat) : ∀ (l : List α), (∀ x ∈ l, (f x).length ≤ k) → (l.flatMap f).length ≤ k * l.length
  | [], _ => by simp
  | x :: r, h => by
    have h1 := h x (by simp)
    have h2 := flatMap_len f k r (fun y hy => h y (by simp [hy]))
    simp only [List.flatMap_cons, List.length_append, List.length_cons, Nat.mul_add, Nat.mul_one]; omega
theorem goalT_len (x y : Gl) (had : Bool) (hx : x.ru.length ≤ 10) (hy : y.ru.length ≤ 10) : (goalT x y had).length ≤ 21 := by
  have := goneR_len y.n (some x) y.ru
  unfold goalT
  simp only [List.length_append, List.length_map, List.length_singleton]; omega
theorem goalT_three (x y : Gl) (had : Bool) : ∀ r ∈ goalT x y had, r.length = 3 := by
  intro r hr
  unfold goalT at hr
  simp only [List.mem_append, List.mem_singleton, List.mem_map] at hr
  rcases hr with (h | ⟨z, _, h⟩) | h
  · subst h; rfl
  · subst h; rfl
  · exact goneR_three _ _ _ r h
theorem oldT_len (b : List Gl) (x : Gl) (hx : x.ru.length ≤ 10) : (oldT b x).length ≤ 11 := by
  have := goneR_len x.n none x.ru
  unfold oldT
  split
  · simp
  · simp only [List.length_append, List.length_singleton]; omega
theorem oldT_three (b : List Gl) (x : Gl) : ∀ r ∈ oldT b x, r.length = 3 := by
  intro r hr
  unfold oldT at hr
  split at hr
  · simp at hr
  · simp only [List.mem_append, List.mem_singleton] at hr
    rcases hr with h | h
    · subst h; rfl
    · exact goneR_three _ _ _ r h
theorem wasG_len (l : List Gl) (h : ∀ x ∈ l, x.ru.length ≤ 10) (n : List UInt8) : (wasG l n).ru.length ≤ 10 := by
  unfold wasG gF
  cases e : l.find? (fun x => x.n == n) with
  | none => simp [Gl.zero]
  | some y => exact h y (List.mem_of_find?_eq_some e)
set_option maxRecDepth 20000 in
theorem plan_tail (a b : Cf) (ha : a.gs.length ≤ 100) (hb : b.gs.length ≤ 100) (hra : ∀ x ∈ a.gs, x.ru.length ≤ 10) (L : List (List AV)) (hl : L.length ≤ 5000) (hL : ∀ r ∈ L, r.length = 3)
    (e : List (Nat × AV)) (l2 : lk e 2 = .ptr (.n 2) 0) (l3 : lk e 3 = .ptr (.n 3) 0) (l6 : lk e 6 = .ptr (.n 24) 0) :
    wpA (SpH Tryz.prog gl) (AC.tl 4 c95) (postA [.t 4, .t 5] (.tup [.sl (L ++ a.gs.flatMap (oldT b.gs)), i6 0]))
      ⟨e, [(.n 2, a.row), (.n 3, b.row), (.n 24, [.sl L])], [(.b (.n 24) 0, 3)]⟩ := by
  have exa : a.row = [.sl (a.gs.map Gl.row), i6 a.r, i6 a.v, i6 a.i, i6 a.x, i6 a.y] := rfl
  have rat : ∀ i (h : i < a.gs.length), ∀ h2, (a.gs.map Gl.row)[i]'h2 = [.str a.gs[i].n, .int .u32 a.gs[i].t, i6 a.gs[i].g, i6 a.gs[i].a, i6 a.gs[i].o, i6 a.gs[i].c, .sl (a.gs[i].lb.map Lb.row), .sl (a.gs[i].ru.map Ru.row)] := fun i h h2 => by simp [Gl.row]
  have rl : (a.gs.map Gl.row).length = a.gs.length := by simp
  have P1 : b.row.length = 6 := rfl
  have P2 : idsL b.row = [] := rfl
  have P4 : shutL b.row = some b.row := rfl
  have hw := fun n => goalOf_spec b n (by omega)
  obtain ⟨LL, hLL⟩ : ∃ LL : Nat → List (List AV), LL = fun i => L ++ (a.gs.take i).flatMap (oldT b.gs) := ⟨_, rfl⟩
  have s0 : L = LL 0 := by rw [hLL]; simp
  have sN : L ++ a.gs.flatMap (oldT b.gs) = LL a.gs.length := by rw [hLL]; simp
  have s1 : ∀ i (h : i < a.gs.length), LL (i + 1) = LL i ++ oldT b.gs a.gs[i] := fun i h => by
    simp only [hLL, flatMap_snoc _ _ i h, List.append_assoc]
  have s2 : ∀ i, i ≤ a.gs.length → (LL i).length ≤ L.length + 11 * i := fun i h => by
    have := flatMap_len (oldT b.gs) 11 (a.gs.take i) (fun x hx => oldT_len _ _ (hra x (List.mem_of_mem_take hx)))
    rw [List.length_take, Nat.min_eq_left h] at this
    simp only [hLL, List.length_append]
    omega
  have s3 : ∀ i, ∀ r ∈ LL i, r.length = 3 := fun i r hr => by
    simp only [hLL, List.mem_append, List.mem_flatMap] at hr
    rcases hr with h | ⟨z, _, h⟩
    · exact hL r h
    · exact oldT_three _ _ r h
  have A := fun i (h : i ≤ a.gs.length) g => add_spec (LL i) (by have := s2 i h; omega) (s3 i) g [] 4 64 (.n 24) rfl rfl
  have G := fun i (h : i < a.gs.length) => gone_spec a.gs[i] none (LL i ++ [tn a.gs[i].n [] 4]) (by
      have := s2 i (by omega); have := hra a.gs[i] (List.getElem_mem _)
      simp only [List.length_append, List.length_singleton]; omega) (fun r hr => by
      rcases List.mem_append.1 hr with h | h
      · exact s3 i r h
      · simp only [List.mem_singleton] at h; subst h; rfl) (by simp [ruOf]) 68 (.n 24) rfl rfl
  have hot : ∀ i (h : i < a.gs.length), LL i ++ oldT b.gs a.gs[i] = if (gF b.gs a.gs[i].n).isSome = true then LL i else LL i ++ [tn a.gs[i].n [] 4] ++ goneR a.gs[i].n none a.gs[i].ru := fun i h => by
    unfold oldT
    split
    · simp
    · rw [List.append_assoc]
  clear hLL s2 s3 hL
  rw [sN, exa]
  rw [s0]
  generalize b.row = P at *
  generalize a.gs.map Gl.row = RU at *
  have e8 : List.take 6 P = P := List.take_of_length_le (by omega)
  simp only [c95, AC.tl]
  simp -implicitDefEqProofs [l2, l3, l6, rl]
  refine wp_lpk (α := Nat) (fun i => ⟨[(2, .ptr (.n 2) 0), (3, .ptr (.n 3) 0), (6, .ptr (.n 24) 0), (46, .sl RU), (47, i6 a.gs.length), (48, i6 i)], [(.n 2, [.sl RU, i6 a.r, i6 a.v, i6 a.i, i6 a.x, i6 a.y]), (.n 3, P), (.n 24, [.sl (LL i)])], [(.b (.n 24) 0, 3)]⟩)
    (fun i => i ≤ a.gs.length) (fun i => a.gs.length - i) ?_ 0 ?_ ?_
  · rintro K i hK h1
    by_cases g : i < a.gs.length
    · have t1 : IntKind.i64.wrap ((i : Int) + 1) = (i + 1 : Nat) := by rw [wrap_i64] <;> omega
      have ra := rat i g
      have gR : i < RU.length := by omega
      have hw := hw a.gs[i].n
      have A := A i h1 a.gs[i].n
      have G := G i g
      have s1 := s1 i g
      have hot := hot i g
      have er : a.gs[i].row = [.str a.gs[i].n, .int .u32 a.gs[i].t, i6 a.gs[i].g, i6 a.gs[i].a, i6 a.gs[i].o, i6 a.gs[i].c, .sl (a.gs[i].lb.map Lb.row), .sl (a.gs[i].ru.map Ru.row)] := rfl
      rw [er] at G
      simp only [glO] at G
      have q1 : ((gF b.gs a.gs[i].n).getD Gl.zero).row.length = 8 := rfl
      have q2 : idsL ((gF b.gs a.gs[i].n).getD Gl.zero).row = [] := rfl
      have q3 : shutL ((gF b.gs a.gs[i].n).getD Gl.zero).row = some ((gF b.gs a.gs[i].n).getD Gl.zero).row := rfl
      have fin : ∀ σ', Weak σ' ⟨[(2, .ptr (.n 2) 0), (3, .ptr (.n 3) 0), (6, .ptr (.n 24) 0), (46, .sl RU), (47, i6 a.gs.length), (48, i6 (i + 1 : Nat))], [(.n 2, [.sl RU, i6 a.r, i6 a.v, i6 a.i, i6 a.x, i6 a.y]), (.n 3, P), (.n 24, [.sl (LL (i + 1))])], [(.b (.n 24) 0, 3)]⟩ → K σ' :=
        fun σ' hσ => hK (i + 1) σ' (by omega) (by omega) hσ
      clear hK rat er
      rw [s1, hot] at fin
      generalize ((gF b.gs a.gs[i].n).getD Gl.zero).row = q at *
      generalize (gF b.gs a.gs[i].n).isSome = f at *
      generalize goneR a.gs[i].n none a.gs[i].ru = GR at *
      generalize a.gs[i].lb.map Lb.row = LB at *
      generalize a.gs[i].ru.map Ru.row = RV at *
      generalize a.gs[i] = r at *
      have e7 : List.take 8 q = q := List.take_of_length_le (by omega)
      generalize LL i = M at *
      simp -implicitDefEqProofs [g, gR, ra, rl, P1, P4, e8]
      refine onC_mk _ (hw) ?_
      cases f
      · simp only [Bool.false_eq_true, if_false] at fin
        simp -implicitDefEqProofs [q1, q2, q3, e7]
        refine onH_mk _ _ (A) ⟨?_, ?_, ?_, ?_, ?_, ?_, ?_⟩ ?_
        iterate 7 (· simp -implicitDefEqProofs [P2, q2])
        simp -implicitDefEqProofs
        refine onH_mk _ _ (G) ⟨?_, ?_, ?_, ?_, ?_, ?_, ?_⟩ ?_
        iterate 7 (· simp -implicitDefEqProofs [P2, q2])
        simp -implicitDefEqProofs [t1]
        refine fin _ ?_
        refine weak_mk ?_ ?_ ?_ ?_ ?_ ?_ <;> simp -implicitDefEqProofs [t1, P2, q2]
      · simp only [if_true] at fin
        simp -implicitDefEqProofs [q1, q2, q3, e7, t1]
        refine fin _ ?_
        refine weak_mk ?_ ?_ ?_ ?_ ?_ ?_ <;> simp -implicitDefEqProofs [t1, P2, q2]
    · obtain rfl : i = a.gs.length := by omega
      clear hK
      simp -implicitDefEqProofs
  · exact Nat.zero_le _
  · refine weak_mk ?_ ?_ ?_ ?_ ?_ ?_ <;> simp -implicitDefEqProofs [P2, l2, l3, l6]
end Go.Ai
