/- YtmbnoejneocmmaaGreatDoorP11: part of the abstract interpreter library (values, rules, soundness against the model) or of what a function of the seat computes. Conditions: as each theorem says. -/
import Derived.Test.YtmbnoejneocmmaaGreatDoorP10
import Derived.Test.YtmbnoejneocmmaaGreatDoorP7
set_option linter.unusedSimpArgs false
set_option linter.unusedVariables false
namespace Go.Ai
open Go.Proofs
set_option maxRecDepth 20000 in
theorem plan_loop (a b : Cf) (ha : a.gs.length ≤ 100) (hb : b.gs.length ≤ 100) (hra : ∀ x ∈ a.gs, x.ru.length ≤ 10) (hrb : ∀ x ∈ b.gs, x.ru.length ≤ 10)
    (e : List (Nat × AV)) (l2 : lk e 2 = .ptr (.n 2) 0) (l3 : lk e 3 = .ptr (.n 3) 0) :
    wpA (SpH Tryz.prog gl) (AC.tl 2 c95) (postA [.t 4, .t 5] (.tup [.sl (planP a.gs b.gs), i6 0]))
      ⟨e, [(.n 3, b.row), (.n 2, a.row)], []⟩ := by
  have exb : b.row = [.sl (b.gs.map Gl.row), i6 b.r, i6 b.v, i6 b.i, i6 b.x, i6 b.y] := rfl
  have rat : ∀ i (h : i < b.gs.length), ∀ h2, (b.gs.map Gl.row)[i]'h2 = [.str b.gs[i].n, .int .u32 b.gs[i].t, i6 b.gs[i].g, i6 b.gs[i].a, i6 b.gs[i].o, i6 b.gs[i].c, .sl (b.gs[i].lb.map Lb.row), .sl (b.gs[i].ru.map Ru.row)] := fun i h h2 => by simp [Gl.row]
  have rl : (b.gs.map Gl.row).length = b.gs.length := by simp
  have P1 : a.row.length = 6 := rfl
  have P2 : idsL a.row = [] := rfl
  have P4 : shutL a.row = some a.row := rfl
  have hw := fun n => goalOf_spec a n (by omega)
  obtain ⟨LL, hLL⟩ : ∃ LL : Nat → List (List AV), LL = fun i => (b.gs.take i).flatMap (newT a.gs) := ⟨_, rfl⟩
  have s0 : LL 0 = [] := by rw [hLL]; simp
  have sN : b.gs.flatMap (newT a.gs) = LL b.gs.length := by rw [hLL]; simp
  have s1 : ∀ i (h : i < b.gs.length), LL (i + 1) = LL i ++ newT a.gs b.gs[i] := fun i h => by
    simp only [hLL, flatMap_snoc _ _ i h]
  have s2 : ∀ i, i ≤ b.gs.length → (LL i).length ≤ 21 * i := fun i h => by
    have := flatMap_len (newT a.gs) 21 (b.gs.take i) (fun x hx => goalT_len _ _ _ (hrb x (List.mem_of_mem_take hx)) (wasG_len _ hra _))
    rw [List.length_take, Nat.min_eq_left h] at this
    simp only [hLL]
    omega
  have s3 : ∀ i, ∀ r ∈ LL i, r.length = 3 := fun i r hr => by
    simp only [hLL, List.mem_flatMap] at hr
    obtain ⟨z, _, h⟩ := hr
    exact goalT_three _ _ _ r h
  have G := fun i (h : i < b.gs.length) => pgoal_spec b.gs[i] (wasG a.gs b.gs[i].n) (gF a.gs b.gs[i].n).isSome (LL i) (by
      have := s2 i (by omega); omega) (s3 i) (hrb _ (List.getElem_mem _)) (wasG_len _ hra _) 43 (.n 24) rfl rfl
  have T := plan_tail a b ha hb hra (LL b.gs.length) (by have := s2 b.gs.length (Nat.le_refl _); omega) (s3 _)
  have hnt : ∀ i (h : i < b.gs.length), newT a.gs b.gs[i] = goalT b.gs[i] (wasG a.gs b.gs[i].n) (gF a.gs b.gs[i].n).isSome := fun i h => rfl
  have hpp : planP a.gs b.gs = LL b.gs.length ++ a.gs.flatMap (oldT b.gs) := by unfold planP; rw [sN]
  clear hLL s2 s3 sN
  rw [hpp]
  have ec : AC.tl 2 c95 = AC.cutAt 2 (AC.tl 4 c95) (AC.tl 2 c95) := rfl
  rw [ec]
  generalize AC.tl 4 c95 = TT at T ⊢
  generalize LL b.gs.length ++ a.gs.flatMap (oldT b.gs) = FIN at *
  rw [exb] at T ⊢
  generalize a.row = P at *
  generalize b.gs.map Gl.row = RU at *
  have e8 : List.take 6 P = P := List.take_of_length_le (by omega)
  simp only [c95, AC.tl, AC.cutAt]
  simp -implicitDefEqProofs [l2, l3, rl]
  refine wp_lpk (α := Nat) (fun i => ⟨[(2, .ptr (.n 2) 0), (3, .ptr (.n 3) 0), (6, .ptr (.n 24) 0), (26, .sl RU), (27, i6 b.gs.length), (28, i6 i)], [(.n 2, P), (.n 3, [.sl RU, i6 b.r, i6 b.v, i6 b.i, i6 b.x, i6 b.y]), (.n 24, [.sl (LL i)])], [(.b (.n 24) 0, 3)]⟩)
    (fun i => i ≤ b.gs.length) (fun i => b.gs.length - i) ?_ 0 ?_ ?_
  · rintro K i hK h1
    by_cases g : i < b.gs.length
    · have t1 : IntKind.i64.wrap ((i : Int) + 1) = (i + 1 : Nat) := by rw [wrap_i64] <;> omega
      have ra := rat i g
      have gR : i < RU.length := by omega
      have hw := hw b.gs[i].n
      have G := G i g
      have s1 := s1 i g
      rw [hnt i g] at s1
      have er : b.gs[i].row = [.str b.gs[i].n, .int .u32 b.gs[i].t, i6 b.gs[i].g, i6 b.gs[i].a, i6 b.gs[i].o, i6 b.gs[i].c, .sl (b.gs[i].lb.map Lb.row), .sl (b.gs[i].ru.map Ru.row)] := rfl
      rw [er] at G
      have q1 : (wasG a.gs b.gs[i].n).row.length = 8 := rfl
      have q2 : idsL (wasG a.gs b.gs[i].n).row = [] := rfl
      have q3 : shutL (wasG a.gs b.gs[i].n).row = some (wasG a.gs b.gs[i].n).row := rfl
      have fin : ∀ σ', Weak σ' ⟨[(2, .ptr (.n 2) 0), (3, .ptr (.n 3) 0), (6, .ptr (.n 24) 0), (26, .sl RU), (27, i6 b.gs.length), (28, i6 (i + 1 : Nat))], [(.n 2, P), (.n 3, [.sl RU, i6 b.r, i6 b.v, i6 b.i, i6 b.x, i6 b.y]), (.n 24, [.sl (LL (i + 1))])], [(.b (.n 24) 0, 3)]⟩ → K σ' :=
        fun σ' hσ => hK (i + 1) σ' (by omega) (by omega) hσ
      clear hK rat er hnt T
      rw [s1] at fin
      have ew : (gF a.gs b.gs[i].n).getD Gl.zero = wasG a.gs b.gs[i].n := rfl
      rw [ew] at hw
      generalize goalT b.gs[i] (wasG a.gs b.gs[i].n) (gF a.gs b.gs[i].n).isSome = GT at *
      generalize (wasG a.gs b.gs[i].n).row = q at *
      generalize (gF a.gs b.gs[i].n).isSome = f at *
      generalize b.gs[i].lb.map Lb.row = LB at *
      generalize b.gs[i].ru.map Ru.row = RV at *
      generalize b.gs[i] = r at *
      have e7 : List.take 8 q = q := List.take_of_length_le (by omega)
      generalize LL i = M at *
      simp -implicitDefEqProofs [g, gR, ra, rl, P1, P4, e8]
      refine onC_mk _ (hw) ?_
      simp -implicitDefEqProofs [q1, q2, q3, e7]
      refine onH_mk _ _ (G) ⟨?_, ?_, ?_, ?_, ?_, ?_, ?_⟩ ?_
      iterate 7 (· simp -implicitDefEqProofs [P2, q2])
      simp -implicitDefEqProofs [t1]
      refine fin _ ?_
      refine weak_mk ?_ ?_ ?_ ?_ ?_ ?_ <;> simp -implicitDefEqProofs [t1, P2, q2]
    · obtain rfl : i = b.gs.length := by omega
      clear hK
      simp -implicitDefEqProofs
      refine T _ ?_ ?_ ?_ <;> simp -implicitDefEqProofs
  · exact Nat.zero_le _
  · rw [s0]
    refine weak_mk ?_ ?_ ?_ ?_ ?_ ?_ <;> simp -implicitDefEqProofs [P2, l2, l3, nilAt]
end Go.Ai
set_option linter.unusedSimpArgs false
set_option linter.unusedVariables false
namespace Go.Ai
open Go.Proofs
set_option maxRecDepth 20000 in
theorem plan_spec (a b : Cf) (ha : a.Fit) (hb : b.Fit) : Sp Tryz.prog gl 95 [.agg a.row, .agg b.row] (.tup [.sl (if (rightP a && rightP b) = true then planP a.gs b.gs else []), i6 (if (rightP a && rightP b) = true then 0 else 2)]) := by
  refine s95 rfl rfl ?_
  have ec : c95 = AC.cutAt 2 (AC.tl 2 c95) c95 := rfl
  rw [ec]
  have T := plan_loop a b (by have := ha.n; omega) (by have := hb.n; omega) (fun x hx => (ha.gs x hx).ru) (fun x hx => (hb.gs x hx).ru)
  have R1 := right_spec a ha
  have R2 := right_spec b hb
  have P1 : a.row.length = 6 := rfl
  have P2 : b.row.length = 6 := rfl
  have P3 : shutL a.row = some a.row := rfl
  have P4 : shutL b.row = some b.row := rfl
  generalize AC.tl 2 c95 = TT at T ⊢
  generalize rightP a = r1 at *
  generalize rightP b = r2 at *
  generalize planP a.gs b.gs = FIN at *
  generalize a.row = A at *
  generalize b.row = B at *
  have e1 : List.take 6 A = A := List.take_of_length_le (by omega)
  have e2 : List.take 6 B = B := List.take_of_length_le (by omega)
  simp only [c95, AC.cutAt]
  simp -implicitDefEqProofs [P1, P2, P3, P4, e1, e2]
  refine onC_mk _ (R1) ?_
  cases r1
  · simp -implicitDefEqProofs [P1, P2, P3, P4, e1, e2]
  · simp -implicitDefEqProofs [P1, P2, P3, P4, e1, e2]
    refine onC_mk _ (R2) ?_
    cases r2
    · simp -implicitDefEqProofs [P1, P2, P3, P4, e1, e2]
    · simp -implicitDefEqProofs [P1, P2, P3, P4, e1, e2]
      refine T _ ?_ ?_ <;> simp -implicitDefEqProofs
/-! ### The chapter's example -/
def awG (t : Nat) : Gl := ⟨[97], t, 60, 0, 0, 0, [], [⟨[114], false, 120, 60, 1, 0, 0⟩]⟩
def awC (t : Nat) : Cf := ⟨[awG t], 1, 0, 1, 1, 0⟩
theorem winP_congr {x y : Gl} (h : allW x = allW y) : winP x = winP y := by unfold winP; rw [h]
theorem awG_fit (t : Nat) : (awG t).Fit := ⟨by simp [awG], by simp [awG], by simp [awG], by simp [awG], by simp [awG, ruFit]⟩
theorem awC_fit (t : Nat) : (awC t).Fit := ⟨by simp [awC], by simp only [awC, List.mem_singleton]; rintro y rfl; exact awG_fit t⟩
theorem aw_right5 : rightP (awC 5) = true := by decide +kernel
theorem aw_right6 : rightP (awC 6) = true := by decide +kernel
theorem aw_plan : planP (awC 5).gs (awC 6).gs = [tn [97] [] 2, tn [97] [114] 2] := by
  have h : stP (awG 5) (awG 6) = true := by
    unfold stP
    rw [winP_congr (x := awG 5) (y := awG 6) rfl]
    simp [awG]
  have e1 : gF (awC 5).gs (awG 6).n = some (awG 5) := rfl
  have e2 : gF (awC 6).gs (awG 5).n = some (awG 6) := rfl
  have e3 : rF (some (awG 5)) [114] = some ⟨[114], false, 120, 60, 1, 0, 0⟩ := rfl
  have e4 : rF (some (awG 6)) [114] = some ⟨[114], false, 120, 60, 1, 0, 0⟩ := rfl
  have f1 : (awC 6).gs = [awG 6] := rfl
  have f2 : (awC 5).gs = [awG 5] := rfl
  have n1 : newT [awG 5] (awG 6) = [tn [97] [] 2, tn [97] [114] 2] := by
    unfold newT goalT wasG
    rw [f2] at e1
    rw [e1]
    simp only [Option.getD_some, Option.isSome_some, Bool.true_and, h]
    simp [ruT, awG, goneR, kindP, rF, ruOf]
  have n2 : oldT [awG 6] (awG 5) = [] := by
    unfold oldT
    rw [f1] at e2
    rw [e2]; simp
  unfold planP
  rw [f1, f2]
  simp [n1, n2]
set_option maxRecDepth 20000 in
theorem awake_spec : Sp Tryz.prog gl 31 [] (.bool true) := by
  refine s31 rfl rfl ?_
  have W := plan_spec (awC 5) (awC 6) (awC_fit 5) (awC_fit 6)
  rw [aw_right5, aw_right6, aw_plan] at W
  simp only [Bool.and_self, if_true] at W
  have e : ∀ t : Nat, (awC t).row = [.sl [[.str [97], .int .u32 t, i6 60, i6 0, i6 0, i6 0, .sl [], .sl [[.str [114], .bool false, i6 120, i6 60, u 1, i6 0, i6 0]]]], i6 1, i6 0, i6 1, i6 1, i6 0] := fun t => rfl
  rw [e, e] at W
  simp -implicitDefEqProofs [c31]
  refine onC_mk _ (W) ?_
  simp -implicitDefEqProofs [tn]
end Go.Ai
set_option linter.unusedSimpArgs false
set_option linter.unusedVariables false
namespace Go.Ai
open Go.Proofs
end Go.Ai
set_option linter.unusedSimpArgs false
set_option linter.unusedVariables false
namespace Go.Ai
open Go.Proofs
end Go.Ai
set_option linter.unusedSimpArgs false
set_option linter.unusedVariables false
namespace Go.Ai
open Go.Proofs
end Go.Ai
set_option linter.unusedSimpArgs false
set_option linter.unusedVariables false
namespace Go.Ai
open Go.Proofs
end Go.Ai
