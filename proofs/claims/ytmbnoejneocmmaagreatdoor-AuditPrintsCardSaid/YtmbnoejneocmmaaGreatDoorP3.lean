/- YtmbnoejneocmmaaGreatDoorP3: part of the abstract interpreter library (values, rules, soundness against the model) or of what a function of the seat computes. Conditions: as each theorem says. -/
import Derived.Test.YtmbnoejneocmmaaGreatDoorP2
import Derived.Test.YtmbnoejneocmmaaGreatDoorCode
import Derived.Lib.LaidU8
import GoSem.PinnedTables
set_option linter.unusedSimpArgs false
set_option linter.unusedVariables false
namespace Go.Ai
open Go.Proofs
def lbOk (x : Lb) : Bool := nameT x.n && (goodR (runesL x.t 0) && decide ((runesL x.t 0).length ≤ 120))
def lbFit (x : Lb) : Prop := x.n.length ≤ 2000 ∧ x.t.length ≤ 2000
def ruFit (x : Ru) : Prop := x.n.length ≤ 2000
structure Gl.Fit (x : Gl) : Prop where
  n : x.n.length ≤ 2000
  lb : x.lb.length ≤ 10
  ru : x.ru.length ≤ 10
  lbs : ∀ y ∈ x.lb, lbFit y
  rus : ∀ y ∈ x.ru, ruFit y
structure Cf.Fit (x : Cf) : Prop where
  n : x.gs.length ≤ 10
  gs : ∀ y ∈ x.gs, y.Fit
def labelsP (l : List Lb) : Bool := l.all lbOk && (decide (l.length ≤ 4) && uniq (l.map Lb.n))
def rulesP (l : List Ru) (g : Int) : Bool := l.all (fun r => ruP r g) && (btw l.length 1 4 && uniq (l.map Ru.n))
def goalP (x : Gl) : Bool := nameT x.n && (btw x.t 1 999999 && (btw x.g 1 86400 && (btw x.a 0 86400 && (btw x.o 0 34560000 && (x.o.tmod x.g == 0 && (btw x.c 0 2 && (labelsP x.lb && rulesP x.ru x.g)))))))
def rightP (c : Cf) : Bool := c.gs.all goalP && (btw c.r 1 64 && (btw c.v 0 c.r && (btw c.i 1 86400 && (btw c.x c.i 604800 && (btw c.y 0 2592000 && (decide (c.gs.length ≤ 6) && uniq (c.gs.map Gl.n)))))))
theorem rows_atF {α : Type} (f : α → List AV) (l : List α) (i : Nat) (h : i < l.length) : ∀ h2, (l.map f)[i]'h2 = f l[i] := fun _ => by simp
set_option maxRecDepth 20000 in
theorem labels_spec (l : List Lb) (hl : l.length ≤ 10) (hf : ∀ x ∈ l, lbFit x) : Sp Tryz.prog gl 45 [.sl (l.map Lb.row)] (.bool (labelsP l)) := by
  refine s45 rfl rfl ?_
  obtain ⟨R, hR⟩ : ∃ R, R = labelsP l := ⟨_, rfl⟩
  rw [← hR]
  unfold labelsP at hR
  have U := Sp.h (d := 33) (unlL_spec l (by omega))
  have rat := rows_atF Lb.row l
  have rl : (l.map Lb.row).length = l.length := by simp
  have fin0 : l.all lbOk = true → ∀ e, lk e 0 = .sl (l.map Lb.row) → wpA (SpH Tryz.prog gl) (AC.tl 2 c45) (postA [.t 2] (.bool R)) ⟨e, [], []⟩ := by
    intro ha e l0
    rw [ha, Bool.true_and] at hR
    generalize uniq (l.map Lb.n) = U0 at *
    generalize l.map Lb.row = RR at *
    simp only [c45, AC.tl]
    by_cases g : l.length ≤ 4
    · have g' : (l.length : Int) ≤ 4 := by omega
      rw [decide_eq_true g] at hR
      simp -implicitDefEqProofs [l0, rl, g', g]
      refine onH_mk _ _ (U) ⟨?_, ?_, ?_, ?_, ?_, ?_, ?_⟩ ?_
      iterate 7 (· simp -implicitDefEqProofs)
      simp -implicitDefEqProofs [hR]
    · have g' : ¬ (l.length : Int) ≤ 4 := by omega
      rw [decide_eq_false g] at hR
      simp -implicitDefEqProofs [l0, rl, g', g, hR]
  have ec : c45 = AC.cutAt 2 (AC.tl 2 c45) c45 := rfl
  rw [ec]
  generalize AC.tl 2 c45 = T at fin0 ⊢
  generalize uniq (l.map Lb.n) = U0 at *
  generalize l.map Lb.row = RR at *
  simp only [c45, AC.cutAt]
  simp -implicitDefEqProofs [rl]
  refine wp_lpk (α := Nat) (fun i => ⟨[(0, .sl RR), (5, .sl RR), (6, i6 l.length), (7, i6 i)], [], []⟩) (fun i => i ≤ l.length ∧ (l.drop i).all lbOk = l.all lbOk) (fun i => l.length - i) ?_ 0 ?_ ?_
  · rintro K i hK ⟨h1, h2⟩
    by_cases g : i < l.length
    · have t1 : IntKind.i64.wrap ((i : Int) + 1) = (i + 1 : Nat) := by rw [wrap_i64] <;> omega
      have ra := rat i g
      have gR : i < RR.length := by omega
      rw [List.drop_eq_getElem_cons g, List.all_cons] at h2
      have fin : lbOk l[i] = true → ∀ σ', Weak σ' ⟨[(0, .sl RR), (5, .sl RR), (6, i6 l.length), (7, i6 (i + 1 : Nat))], [], []⟩ → K σ' := fun hd σ' hσ => hK (i + 1) σ' ⟨by omega, by rw [hd, Bool.true_and] at h2; exact h2⟩ (by omega) hσ
      have hfi := hf l[i] (List.getElem_mem _)
      have N := tname_spec l[i].n (by have := hfi.1; omega)
      have G := tgood_spec l[i].t (by have := hfi.2; omega)
      have C := tcount_spec l[i].t (by have := hfi.2; omega)
      have hno : lbOk l[i] = false → R = false := fun h => by rw [h, Bool.false_and] at h2; rw [hR, ← h2]; rfl
      unfold lbOk at fin hno
      clear hK h2 hR fin0 rat hf U
      generalize l[i] = x at *
      obtain ⟨xn, xt⟩ := x
      simp only [Lb.row] at *
      generalize nameT xn = b1 at *
      generalize goodR (runesL xt 0) = b2 at *
      generalize (runesL xt 0).length = c at *
      by_cases hc : c ≤ 120
      · have hc' : ¬ (120 : Int) < c := by omega
        have hc2 : ¬ 120 < c := by omega
        rw [decide_eq_true hc] at fin hno
        simp -implicitDefEqProofs [g, gR, ra]
        repeat' first
          | (refine onC_mk _ (N) ?_; simp -implicitDefEqProofs [hc', hc2])
          | (refine onC_mk _ (G) ?_; simp -implicitDefEqProofs [hc', hc2])
          | (refine onC_mk _ (C) ?_; simp -implicitDefEqProofs [hc', hc2])
          | (refine onB_mk (fun h => ?_) (fun h => ?_) <;> (try simp only [Bool.not_eq_true', Bool.not_eq_false', decide_eq_true_eq, decide_eq_false_iff_not] at h) <;> simp -implicitDefEqProofs [h, hc', hc2])
        all_goals first
          | (refine fin (by simp [*]) _ (weak_mk ?_ ?_ ?_ ?_ ?_ ?_) <;> simp -implicitDefEqProofs [t1])
          | (rw [hno (by simp [*])])
      · have hc' : (120 : Int) < c := by omega
        have hc2 : 120 < c := by omega
        rw [decide_eq_false hc] at fin hno
        simp -implicitDefEqProofs [g, gR, ra]
        repeat' first
          | (refine onC_mk _ (N) ?_; simp -implicitDefEqProofs [hc', hc2])
          | (refine onC_mk _ (G) ?_; simp -implicitDefEqProofs [hc', hc2])
          | (refine onC_mk _ (C) ?_; simp -implicitDefEqProofs [hc', hc2])
          | (refine onB_mk (fun h => ?_) (fun h => ?_) <;> (try simp only [Bool.not_eq_true', Bool.not_eq_false', decide_eq_true_eq, decide_eq_false_iff_not] at h) <;> simp -implicitDefEqProofs [h, hc', hc2])
        all_goals (rw [hno (by simp [*])])
    · obtain rfl : i = l.length := by omega
      rw [List.drop_length] at h2
      have fin0 := fin0 (by rw [← h2]; rfl)
      clear hK
      simp -implicitDefEqProofs
      refine fin0 _ ?_
      simp -implicitDefEqProofs
  · exact ⟨Nat.zero_le _, rfl⟩
  · refine weak_mk ?_ ?_ ?_ ?_ ?_ ?_ <;> simp -implicitDefEqProofs [rl]
end Go.Ai
set_option linter.unusedSimpArgs false
set_option linter.unusedVariables false
namespace Go.Ai
open Go.Proofs
set_option maxRecDepth 20000 in
theorem rules_spec (l : List Ru) (gr : Int) (hl : l.length ≤ 10) (hf : ∀ x ∈ l, ruFit x) : Sp Tryz.prog gl 46 [.sl (l.map Ru.row), i6 gr] (.bool (rulesP l gr)) := by
  refine s46 rfl rfl ?_
  obtain ⟨R, hR⟩ : ∃ R, R = rulesP l gr := ⟨_, rfl⟩
  rw [← hR]
  unfold rulesP at hR
  have U := Sp.h (d := 23) (unlR_spec l (by omega))
  have B := btwI_spec l.length 1 4
  have rat := rows_atF Ru.row l
  have rl : (l.map Ru.row).length = l.length := by simp
  have fin0 : (l.all fun r => ruP r gr) = true → ∀ e, lk e 0 = .sl (l.map Ru.row) → wpA (SpH Tryz.prog gl) (AC.tl 2 c46) (postA [.t 4] (.bool R)) ⟨e, [], []⟩ := by
    intro ha e l0
    rw [ha, Bool.true_and] at hR
    generalize uniq (l.map Ru.n) = U0 at *
    generalize l.map Ru.row = RR at *
    generalize btw l.length 1 4 = b at *
    simp only [c46, AC.tl]
    cases b
    · simp -implicitDefEqProofs [l0, rl]
      refine onC_mk _ (B) ?_
      simp -implicitDefEqProofs [hR]
    · simp -implicitDefEqProofs [l0, rl]
      refine onC_mk _ (B) ?_
      simp -implicitDefEqProofs [l0]
      refine onH_mk _ _ (U) ⟨?_, ?_, ?_, ?_, ?_, ?_, ?_⟩ ?_
      iterate 7 (· simp -implicitDefEqProofs)
      simp -implicitDefEqProofs [hR]
  have ec : c46 = AC.cutAt 2 (AC.tl 2 c46) c46 := rfl
  rw [ec]
  generalize AC.tl 2 c46 = T at fin0 ⊢
  generalize uniq (l.map Ru.n) = U0 at *
  generalize l.map Ru.row = RR at *
  simp only [c46, AC.cutAt]
  simp -implicitDefEqProofs [rl]
  refine wp_lpk (α := Nat) (fun i => ⟨[(0, .sl RR), (1, i6 gr), (7, .sl RR), (8, i6 l.length), (9, i6 i)], [], []⟩) (fun i => i ≤ l.length ∧ ((l.drop i).all fun r => ruP r gr) = l.all fun r => ruP r gr) (fun i => l.length - i) ?_ 0 ?_ ?_
  · rintro K i hK ⟨h1, h2⟩
    by_cases g : i < l.length
    · have t1 : IntKind.i64.wrap ((i : Int) + 1) = (i + 1 : Nat) := by rw [wrap_i64] <;> omega
      have ra := rat i g
      have gR : i < RR.length := by omega
      rw [List.drop_eq_getElem_cons g, List.all_cons] at h2
      have fin : ruP l[i] gr = true → ∀ σ', Weak σ' ⟨[(0, .sl RR), (1, i6 gr), (7, .sl RR), (8, i6 l.length), (9, i6 (i + 1 : Nat))], [], []⟩ → K σ' := fun hd σ' hσ => hK (i + 1) σ' ⟨by omega, by rw [hd, Bool.true_and] at h2; exact h2⟩ (by omega) hσ
      have hfi := hf l[i] (List.getElem_mem _)
      have Q := rru_spec l[i] gr (by have : l[i].n.length ≤ 2000 := hfi; omega)
      have hno : ruP l[i] gr = false → R = false := fun h => by rw [h, Bool.false_and] at h2; rw [hR, ← h2]; rfl
      have hrl : (l[i].row).length = 7 := rfl
      have hs : shutL l[i].row = some l[i].row := rfl
      clear hK h2 hR fin0 rat hf U B
      generalize ruP l[i] gr = b1 at *
      generalize l[i].row = x at *
      have e7 : List.take 7 x = x := List.take_of_length_le (by omega)
      cases b1
      · rw [hno rfl]
        simp -implicitDefEqProofs [g, gR, ra, hrl, e7, hs]
        refine onC_mk _ (Q) ?_
        simp -implicitDefEqProofs
      · have fin := fin rfl
        simp -implicitDefEqProofs [g, gR, ra, hrl, e7, hs]
        refine onC_mk _ (Q) ?_
        simp -implicitDefEqProofs
        refine fin _ ?_
        refine weak_mk ?_ ?_ ?_ ?_ ?_ ?_ <;> simp -implicitDefEqProofs [t1]
    · obtain rfl : i = l.length := by omega
      rw [List.drop_length] at h2
      have fin0 := fin0 (by rw [← h2]; rfl)
      clear hK
      simp -implicitDefEqProofs
      refine fin0 _ ?_
      simp -implicitDefEqProofs
  · exact ⟨Nat.zero_le _, rfl⟩
  · refine weak_mk ?_ ?_ ?_ ?_ ?_ ?_ <;> simp -implicitDefEqProofs [rl]
set_option maxRecDepth 20000 in
theorem goal_spec (x : Gl) (hf : x.Fit) : Sp Tryz.prog gl 11 [.agg x.row] (.bool (goalP x)) := by
  refine s11 rfl rfl ?_
  have N := tname_spec x.n (by have := hf.n; omega)
  have L := labels_spec x.lb hf.lb hf.lbs
  have Q := rules_spec x.ru x.g hf.ru hf.rus
  obtain ⟨nm, t, g, a, o, c, lb, ru⟩ := x
  have hR : goalP ⟨nm, t, g, a, o, c, lb, ru⟩ = (nameT nm && (btw t 1 999999 && (btw g 1 86400 && (btw a 0 86400 && (btw o 0 34560000 && (o.tmod g == 0 && (btw c 0 2 && (labelsP lb && rulesP ru g)))))))) := rfl
  simp only [Gl.row] at N L Q ⊢
  clear hf
  have B1 : Sp Tryz.prog gl 42 [.int .u32 t, .int .u32 1, .int .u32 999999] (.bool (btw t 1 999999)) := between3_spec t 1 999999
  have B2 := between6_spec g 1 86400
  have B3 := between6_spec a 0 86400
  have B4 := between6_spec o 0 34560000
  have B5 := btwI_spec c 0 2
  generalize goalP ⟨nm, t, g, a, o, c, lb, ru⟩ = R at *
  generalize nameT nm = b0 at *
  generalize labelsP lb = b6 at *
  generalize rulesP ru g = b7 at *
  generalize lb.map Lb.row = LB at *
  generalize ru.map Ru.row = RU at *
  generalize x1 : btw (t : Int) 1 999999 = b1 at *
  generalize x3 : btw a 0 86400 = b3 at *
  generalize x4 : btw o 0 34560000 = b4 at *
  generalize x5 : btw c 0 2 = b5 at *
  by_cases g0 : 1 ≤ g ∧ g ≤ 86400
  · have e2 : btw g 1 86400 = true := decide_eq_true g0
    have g1 : ¬ g = 0 := by omega
    rw [e2] at B2 hR
    clear x1 x3 x4 x5 e2
    simp -implicitDefEqProofs [c11]
    repeat' first
      | (refine onC_mk _ (N) ?_; simp -implicitDefEqProofs [g1])
      | (refine onC_mk _ (B1) ?_; simp -implicitDefEqProofs [g1])
      | (refine onC_mk _ (B2) ?_; simp -implicitDefEqProofs [g1])
      | (refine onC_mk _ (B3) ?_; simp -implicitDefEqProofs [g1])
      | (refine onC_mk _ (B4) ?_; simp -implicitDefEqProofs [g1])
      | (refine onC_mk _ (B5) ?_; simp -implicitDefEqProofs [g1])
      | (refine onC_mk _ (L) ?_; simp -implicitDefEqProofs [g1])
      | (refine onC_mk _ (Q) ?_; simp -implicitDefEqProofs [g1])
      | (refine onB_mk (fun h => ?_) (fun h => ?_) <;> (try simp only [Bool.not_eq_true', Bool.not_eq_false', decide_eq_true_eq, decide_eq_false_iff_not] at h) <;> simp -implicitDefEqProofs [h, g1])
    all_goals first
      | (rw [hR]; simp [*]; done)
      | (rw [hR]; simp_all)
  · have e2 : btw g 1 86400 = false := decide_eq_false g0
    rw [e2] at B2 hR
    clear x1 x3 x4 x5 e2
    simp -implicitDefEqProofs [c11]
    repeat' first
      | (refine onC_mk _ (N) ?_; simp -implicitDefEqProofs [])
      | (refine onC_mk _ (B1) ?_; simp -implicitDefEqProofs [])
      | (refine onC_mk _ (B2) ?_; simp -implicitDefEqProofs [])
      | (refine onB_mk (fun h => ?_) (fun h => ?_) <;> (try simp only [Bool.not_eq_true', Bool.not_eq_false', decide_eq_true_eq, decide_eq_false_iff_not] at h) <;> simp -implicitDefEqProofs [h])
    all_goals (rw [hR]; simp [*])
set_option maxRecDepth 20000 in
theorem right_tail (c : Cf) (hl : c.gs.length ≤ 10) (T : Bool) (hT : T = (btw c.r 1 64 && (btw c.v 0 c.r && (btw c.i 1 86400 && (btw c.x c.i 604800 && (btw c.y 0 2592000 && (decide (c.gs.length ≤ 6) && uniq (c.gs.map Gl.n)))))))) (e : List (Nat × AV)) (l1 : lk e 1 = .ptr (.n 1) 0) :
    wpA (SpH Tryz.prog gl) (AC.tl 2 c56) (postA [.t 2] (.bool T)) ⟨e, [(.n 1, c.row)], []⟩ := by
  have U := Sp.h (d := 57) (unlG_spec c.gs (by omega))
  have rl : (c.gs.map Gl.row).length = c.gs.length := by simp
  obtain ⟨gs, r, v, i, x, y⟩ := c
  simp only [Cf.row] at *
  generalize uniq (gs.map Gl.n) = b0 at *
  generalize gs.map Gl.row = G at *
  have B1 := btwI_spec r 1 64
  have B2 := btwI_spec v 0 r
  have B3 := between6_spec i 1 86400
  have B4 := between6_spec x i 604800
  have B5 := between6_spec y 0 2592000
  simp only [c56, AC.tl]
  generalize btw r 1 64 = b1 at *
  generalize btw v 0 r = b2 at *
  generalize btw i 1 86400 = b3 at *
  generalize btw x i 604800 = b4 at *
  generalize btw y 0 2592000 = b5 at *
  by_cases g : gs.length ≤ 6
  · have g' : (gs.length : Int) ≤ 6 := by omega
    rw [decide_eq_true g] at hT
    simp -implicitDefEqProofs [l1]
    repeat' first
      | (refine onC_mk _ (B1) ?_; simp -implicitDefEqProofs [l1, rl, g, g'])
      | (refine onC_mk _ (B2) ?_; simp -implicitDefEqProofs [l1, rl, g, g'])
      | (refine onC_mk _ (B3) ?_; simp -implicitDefEqProofs [l1, rl, g, g'])
      | (refine onC_mk _ (B4) ?_; simp -implicitDefEqProofs [l1, rl, g, g'])
      | (refine onC_mk _ (B5) ?_; simp -implicitDefEqProofs [l1, rl, g, g'])
      | (refine onB_mk (fun h => ?_) (fun h => ?_) <;> (try simp only [Bool.not_eq_true', Bool.not_eq_false', decide_eq_true_eq, decide_eq_false_iff_not] at h) <;> simp -implicitDefEqProofs [h, l1, rl, g, g'])
    all_goals first
      | (rw [hT]; simp [*]; done)
      | skip
    refine onH_mk _ _ (U) ⟨?_, ?_, ?_, ?_, ?_, ?_, ?_⟩ ?_
    iterate 7 (· simp -implicitDefEqProofs)
    simp -implicitDefEqProofs
    rw [hT]; simp [*]
  · have g' : ¬ (gs.length : Int) ≤ 6 := by omega
    rw [decide_eq_false g] at hT
    simp -implicitDefEqProofs [l1]
    repeat' first
      | (refine onC_mk _ (B1) ?_; simp -implicitDefEqProofs [l1, rl, g, g'])
      | (refine onC_mk _ (B2) ?_; simp -implicitDefEqProofs [l1, rl, g, g'])
      | (refine onC_mk _ (B3) ?_; simp -implicitDefEqProofs [l1, rl, g, g'])
      | (refine onC_mk _ (B4) ?_; simp -implicitDefEqProofs [l1, rl, g, g'])
      | (refine onC_mk _ (B5) ?_; simp -implicitDefEqProofs [l1, rl, g, g'])
      | (refine onB_mk (fun h => ?_) (fun h => ?_) <;> (try simp only [Bool.not_eq_true', Bool.not_eq_false', decide_eq_true_eq, decide_eq_false_iff_not] at h) <;> simp -implicitDefEqProofs [h, l1, rl, g, g'])
    all_goals (rw [hT]; simp [*])
set_option maxRecDepth 20000 in
theorem right_spec (c : Cf) (hf : c.Fit) : Sp Tryz.prog gl 56 [.agg c.row] (.bool (rightP c)) := by
  refine s56 rfl rfl ?_
  obtain ⟨R, hR⟩ : ∃ R, R = rightP c := ⟨_, rfl⟩
  rw [← hR]
  unfold rightP at hR
  obtain ⟨T, hT⟩ : ∃ T, T = (btw c.r 1 64 && (btw c.v 0 c.r && (btw c.i 1 86400 && (btw c.x c.i 604800 && (btw c.y 0 2592000 && (decide (c.gs.length ≤ 6) && uniq (c.gs.map Gl.n))))))) := ⟨_, rfl⟩
  rw [← hT] at hR
  have tail := right_tail c hf.n T hT
  have fin0 : c.gs.all goalP = true → R = T := fun h => by rw [hR, h, Bool.true_and]
  have rat := rows_atF Gl.row c.gs
  have rl : (c.gs.map Gl.row).length = c.gs.length := by simp
  have hc : c.row = .sl (c.gs.map Gl.row) :: [i6 c.r, i6 c.v, i6 c.i, i6 c.x, i6 c.y] := rfl
  have hfg := hf.gs
  have hln := hf.n
  have ec : c56 = AC.cutAt 2 (AC.tl 2 c56) c56 := rfl
  rw [ec]
  generalize AC.tl 2 c56 = TT at tail ⊢
  rw [hc] at tail ⊢
  generalize c.gs.map Gl.row = RR at *
  generalize c.gs = l at *
  clear hT hc hf
  simp only [c56, AC.cutAt]
  simp -implicitDefEqProofs [rl]
  refine wp_lpk (α := Nat) (fun j => ⟨[(1, .ptr (.n 1) 0), (8, .sl RR), (9, i6 l.length), (10, i6 j)], [(.n 1, .sl RR :: [i6 c.r, i6 c.v, i6 c.i, i6 c.x, i6 c.y])], []⟩) (fun j => j ≤ l.length ∧ (l.drop j).all goalP = l.all goalP) (fun j => l.length - j) ?_ 0 ?_ ?_
  · rintro K j hK ⟨h1, h2⟩
    by_cases g : j < l.length
    · have t1 : IntKind.i64.wrap ((j : Int) + 1) = (j + 1 : Nat) := by rw [wrap_i64] <;> omega
      have ra := rat j g
      have gR : j < RR.length := by omega
      rw [List.drop_eq_getElem_cons g, List.all_cons] at h2
      have fin : goalP l[j] = true → ∀ σ', Weak σ' ⟨[(1, .ptr (.n 1) 0), (8, .sl RR), (9, i6 l.length), (10, i6 (j + 1 : Nat))], [(.n 1, .sl RR :: [i6 c.r, i6 c.v, i6 c.i, i6 c.x, i6 c.y])], []⟩ → K σ' := fun hd σ' hσ => hK (j + 1) σ' ⟨by omega, by rw [hd, Bool.true_and] at h2; exact h2⟩ (by omega) hσ
      have Q := goal_spec l[j] (hfg l[j] (List.getElem_mem _))
      have hno : goalP l[j] = false → R = false := fun h => by rw [h, Bool.false_and] at h2; rw [hR, ← h2]; rfl
      have hrl : (l[j].row).length = 8 := rfl
      have hs : shutL l[j].row = some l[j].row := rfl
      clear hK h2 hR fin0 rat tail hfg
      generalize goalP l[j] = b1 at *
      generalize l[j].row = x at *
      have e7 : List.take 8 x = x := List.take_of_length_le (by omega)
      cases b1
      · rw [hno rfl]
        simp -implicitDefEqProofs [g, gR, ra, hrl, e7, hs]
        refine onC_mk _ (Q) ?_
        simp -implicitDefEqProofs
      · have fin := fin rfl
        simp -implicitDefEqProofs [g, gR, ra, hrl, e7, hs]
        refine onC_mk _ (Q) ?_
        simp -implicitDefEqProofs
        refine fin _ ?_
        refine weak_mk ?_ ?_ ?_ ?_ ?_ ?_ <;> simp -implicitDefEqProofs [t1]
    · obtain rfl : j = l.length := by omega
      rw [List.drop_length] at h2
      have e := fin0 (by rw [← h2]; rfl)
      subst e
      clear hK
      simp -implicitDefEqProofs
      refine tail _ ?_
      simp -implicitDefEqProofs
  · exact ⟨Nat.zero_le _, rfl⟩
  · refine weak_mk ?_ ?_ ?_ ?_ ?_ ?_ <;> simp -implicitDefEqProofs [rl]
end Go.Ai
set_option linter.unusedSimpArgs false
set_option linter.unusedVariables false
namespace Go.Ai
open Go.Proofs
theorem mpL_apd (f : Id → Id) : ∀ a b : List AV, mpL f (a ++ b) = mpL f a ++ mpL f b
  | [], b => by simp [mpL]
  | x :: a, b => by simp [mpL, mpL_apd f a b]
theorem idsL_apd : ∀ a b : List AV, idsL (a ++ b) = idsL a ++ idsL b
  | [], b => by simp [idsL]
  | x :: a, b => by simp [idsL, idsL_apd a b]
/-- A finding. -/
structure Fd where
  k : Int
  n : List UInt8
def Fd.row (x : Fd) : List AV := [i6 x.k, .str x.n]
def fadd (fs : List Fd) (ok : Bool) (k : Int) (n : List UInt8) : List Fd := if ok = true then fs else fs ++ [⟨k, n⟩]
theorem fd_two (fs : List Fd) : ∀ r ∈ fs.map Fd.row, r.length = 2 := by
  intro r hr
  obtain ⟨_, _, rfl⟩ := List.mem_map.1 hr
  rfl
set_option maxRecDepth 20000 in
theorem say_spec (M : List AV) (hM : M.length = 11) (hi : idsL M = []) (fs : List Fd) (hl : fs.length ≤ 1000000) (ok : Bool) (k : Int) (n : List UInt8) (d : Nat) (b : Id) (hb : b.isIt = false) (hbd : b.isNw d = false) :
    SpH Tryz.prog gl 54 d ⟨[.ptr b 0, .bool ok, i6 k, .str n], [(b, M ++ [.sl (fs.map Fd.row)])], [(.b b 11, 2)]⟩ ⟨.tup [], [(b, M ++ [.sl ((fadd fs ok k n).map Fd.row)])], [(.b b 11, 2)]⟩ := by
  refine h54 rfl ?_
  have hib := inn_notNw hbd
  have hlim : lim = 140737488355328 := rfl
  have h11 : ∀ (x : AV) (h : 11 < (M ++ [x]).length), (M ++ [x])[11] = x := by intro x h; rw [List.getElem_append_right (by omega)]; simp [hM]
  have hset : ∀ x y : AV, (M ++ [x]).set 11 y = M ++ [y] := by intro x y; rw [List.set_append]; simp [hM]
  have hln : ∀ x : AV, (M ++ [x]).length = 12 := by intro x; simp [hM]
  have hmp : ∀ (f : Id → Id) (x : AV), mpL f (M ++ [x]) = M ++ [x.mp f] := by intro f x; rw [mpL_apd, mpL_noids hi]; rfl
  have hid : ∀ x : AV, idsL (M ++ [x]) = x.ids := by intro x; rw [idsL_apd, hi]; simp [idsL]
  have h2 := fd_two fs
  have hll : ((fs.map Fd.row).length + 1) * 24 ≤ 140737488355328 := by simp; omega
  cases ok
  · have he : (fadd fs false k n).map Fd.row = fs.map Fd.row ++ [[i6 k, .str n]] := by simp [fadd, Fd.row]
    rw [he]
    clear he
    generalize fs.map Fd.row = L at *
    simp only [inSt, mpB, hmp, mpL, AV.mp, mpP]
    simp -implicitDefEqProofs [c54, hlim, hll, h11, hset, hln, hid]
    refine ⟨h2, ?_⟩
    refine postH_n ⟨?_, ?_, ?_, ?_, ?_, ?_⟩ <;> simp -implicitDefEqProofs [hib, hb, hmp, hid]
  · have he : (fadd fs true k n).map Fd.row = fs.map Fd.row := by simp [fadd]
    rw [he]
    clear he
    generalize fs.map Fd.row = L at *
    simp only [inSt, mpB, hmp, mpL, AV.mp, mpP]
    simp -implicitDefEqProofs [c54, hlim, hll, h11, hset, hln, hid]
    refine postH_n ⟨?_, ?_, ?_, ?_, ?_, ?_⟩ <;> simp -implicitDefEqProofs [hib, hb, hmp, hid]
def M0 : List AV := [i6 (-1), u 0, .sl [], i6 0, i6 0, i6 0, i6 0, i6 0, .sl [], u 0, .sl []]
theorem oright0 : Sp Tryz.prog gl 122 [.agg [.sl [], u 0]] (.bool true) := by
  refine s122 rfl rfl ?_
  simp -implicitDefEqProofs [c122]
  refine wp_lpk (α := Nat) (fun i => ⟨[(1, .ptr (.n 1) 0), (15, .sl []), (16, i6 0), (17, i6 0)], [(.n 1, [.sl [], u 0])], []⟩)
    (fun i => True) (fun i => 0) ?_ 0 trivial ?_
  · rintro K i hK h1
    clear hK
    simp -implicitDefEqProofs
  · refine weak_mk ?_ ?_ ?_ ?_ ?_ ?_ <;> simp -implicitDefEqProofs
set_option maxRecDepth 20000 in
theorem goals0_spec (L : List (List AV)) (d : Nat) (b : Id) (hb : b.isIt = false) (hbd : b.isNw d = false) :
    SpH Tryz.prog gl 57 d ⟨[.ptr b 0], [(b, M0 ++ [.sl L])], [(.b b 11, 2)]⟩ ⟨.tup [], [(b, M0 ++ [.sl L])], [(.b b 11, 2)]⟩ := by
  refine h57 rfl ?_
  have hib := inn_notNw hbd
  unfold M0
  simp only [inSt, mpB, mpL, AV.mp, mpP, List.cons_append, List.nil_append]
  simp -implicitDefEqProofs [c57]
  refine wp_lpk (α := Nat) (fun i => ⟨[(0, .ptr (.up b) 0), (16, .sl []), (17, i6 0), (18, i6 0)], [(.up b, [i6 (-1), u 0, .sl [], i6 0, i6 0, i6 0, i6 0, i6 0, .sl [], u 0, .sl [], .sl L])], [(.b (.up b) 11, 2)]⟩)
    (fun i => True) (fun i => 0) ?_ 0 trivial ?_
  · rintro K i hK h1
    clear hK
    simp -implicitDefEqProofs
    refine postH_n ⟨?_, ?_, ?_, ?_, ?_, ?_⟩ <;> simp -implicitDefEqProofs [hib, hb]
  · refine weak_mk ?_ ?_ ?_ ?_ ?_ ?_ <;> simp -implicitDefEqProofs
set_option maxRecDepth 20000 in
theorem boxes0_spec (fs : List Fd) (hl : fs.length ≤ 1000000) (d : Nat) (b : Id) (hb : b.isIt = false) (hbd : b.isNw d = false) :
    SpH Tryz.prog gl 58 d ⟨[.ptr b 0], [(b, M0 ++ [.sl (fs.map Fd.row)])], [(.b b 11, 2)]⟩ ⟨.tup [], [(b, M0 ++ [.sl (fs.map Fd.row)])], [(.b b 11, 2)]⟩ := by
  refine h58 rfl ?_
  have hib := inn_notNw hbd
  have OR := oright0
  have SY := fun (e : Nat) => say_spec M0 rfl rfl fs hl true 8 [] e (.up b) hb rfl
  have he : (fadd fs true 8 []).map Fd.row = fs.map Fd.row := by simp [fadd]
  rw [he] at SY
  generalize fs.map Fd.row = L at *
  unfold M0 at SY ⊢
  simp only [inSt, mpB, mpL, AV.mp, mpP, List.cons_append, List.nil_append] at SY ⊢
  simp -implicitDefEqProofs [c58]
  refine onC_mk _ OR ?_
  simp -implicitDefEqProofs
  refine onH_mk _ _ (SY _) ⟨?_, ?_, ?_, ?_, ?_, ?_, ?_⟩ ?_
  iterate 7 (· simp -implicitDefEqProofs)
  simp -implicitDefEqProofs
  refine wp_lpk (α := Nat) (fun i => ⟨[(0, .ptr (.up b) 0), (18, .sl []), (19, i6 0), (20, i6 0)], [(.up b, [i6 (-1), u 0, .sl [], i6 0, i6 0, i6 0, i6 0, i6 0, .sl [], u 0, .sl [], .sl L])], [(.b (.up b) 11, 2)]⟩)
    (fun i => True) (fun i => 0) ?_ 0 trivial ?_
  · rintro K i hK h1
    clear hK
    simp -implicitDefEqProofs
    refine postH_n ⟨?_, ?_, ?_, ?_, ?_, ?_⟩ <;> simp -implicitDefEqProofs [hib, hb]
  · refine weak_mk ?_ ?_ ?_ ?_ ?_ ?_ <;> simp -implicitDefEqProofs
theorem tick_spec (n : Int) : Sp Tryz.prog gl 55 [i6 n] (.bool (decide (0 ≤ n) && decide (n ≤ 253402300799))) := by
  refine s55 rfl rfl ?_
  by_cases h : 0 ≤ n
  · simp -implicitDefEqProofs [c55, h]
  · simp -implicitDefEqProofs [c55, h]
set_option maxRecDepth 20000 in
theorem look0_spec : Sp Tryz.prog gl 18 [.agg M0] (.sl [[i6 1, .str []], [i6 2, .str []]]) := by
  refine s18 rfl rfl ?_
  have T1 := tick_spec (-1)
  have hf : (decide ((0 : Int) ≤ -1) && decide ((-1 : Int) ≤ 253402300799)) = false := by decide
  rw [hf] at T1
  have SR := right_spec ⟨[], 0, 0, 0, 0, 0⟩ ⟨by simp, by simp⟩
  have hr : rightP ⟨[], 0, 0, 0, 0, 0⟩ = false := by decide
  rw [hr] at SR
  have hc : (Cf.row ⟨[], 0, 0, 0, 0, 0⟩) = [.sl [], i6 0, i6 0, i6 0, i6 0, i6 0] := rfl
  rw [hc] at SR
  have S1 := fun (e : Nat) (he : (Id.n 9).isNw e = false) => say_spec M0 rfl rfl [] (by simp) false 1 [] e (.n 9) rfl he
  have S2 := fun (e : Nat) (he : (Id.n 9).isNw e = false) => say_spec M0 rfl rfl [⟨1, []⟩] (by simp) false 2 [] e (.n 9) rfl he
  have GO := fun (e : Nat) (he : (Id.n 9).isNw e = false) => goals0_spec [[i6 1, .str []], [i6 2, .str []]] e (.n 9) rfl he
  have BO := fun (e : Nat) (he : (Id.n 9).isNw e = false) => boxes0_spec [⟨1, []⟩, ⟨2, []⟩] (by simp) e (.n 9) rfl he
  have e1 : (fadd [] false 1 []).map Fd.row = [[i6 1, .str []]] := rfl
  have e2 : (fadd [⟨1, []⟩] false 2 []).map Fd.row = [[i6 1, .str []], [i6 2, .str []]] := rfl
  rw [e1] at S1
  rw [e2] at S2
  simp only [List.map_cons, List.map_nil, Fd.row] at S1 S2 BO
  unfold M0 at *
  simp only [List.cons_append, List.nil_append] at S1 S2 GO BO
  simp -implicitDefEqProofs [c18]
  refine onC_mk _ T1 ?_
  simp -implicitDefEqProofs
  refine onH_mk _ _ (S1 _ rfl) ⟨?_, ?_, ?_, ?_, ?_, ?_, ?_⟩ ?_
  iterate 7 (· simp -implicitDefEqProofs)
  simp -implicitDefEqProofs
  refine onC_mk _ SR ?_
  simp -implicitDefEqProofs
  refine onH_mk _ _ (S2 _ rfl) ⟨?_, ?_, ?_, ?_, ?_, ?_, ?_⟩ ?_
  iterate 7 (· simp -implicitDefEqProofs)
  simp -implicitDefEqProofs
  refine onH_mk _ _ (GO _ rfl) ⟨?_, ?_, ?_, ?_, ?_, ?_, ?_⟩ ?_
  iterate 7 (· simp -implicitDefEqProofs)
  simp -implicitDefEqProofs
  refine onH_mk _ _ (BO _ rfl) ⟨?_, ?_, ?_, ?_, ?_, ?_, ?_⟩ ?_
  iterate 7 (· simp -implicitDefEqProofs)
  simp -implicitDefEqProofs
  refine wp_lpk (α := Nat) (fun i => ⟨[(3, .ptr (.n 9) 0), (27, .sl []), (28, i6 0), (29, i6 0)], [(.n 9, [i6 (-1), u 0, .sl [], i6 0, i6 0, i6 0, i6 0, i6 0, .sl [], u 0, .sl [], .sl [[i6 1, .str []], [i6 2, .str []]]])], []⟩)
    (fun i => True) (fun i => 0) ?_ 0 trivial ?_
  · rintro K i hK h1
    clear hK
    simp -implicitDefEqProofs
  · refine weak_mk ?_ ?_ ?_ ?_ ?_ ?_ <;> simp -implicitDefEqProofs
end Go.Ai
set_option linter.unusedSimpArgs false
set_option linter.unusedVariables false
namespace Go.Ai
open Go.Proofs
/-- A finding's word. -/
def wordF (k : Int) : List UInt8 :=
  if k = 1 then [99, 108, 111, 99, 107] else if k = 2 then [110, 111, 116, 105, 102, 121] else if k = 3 then [103, 111, 97, 108] else if k = 4 then [119, 105, 110, 100, 111, 119, 115]
  else if k = 5 then [112, 101, 114, 105, 111, 100] else if k = 6 then [97, 108, 101, 114, 116, 115] else if k = 7 then [101, 112, 105, 115, 111, 100, 101] else if k = 8 then [98, 111, 120]
  else if k = 9 then [101, 110, 116, 114, 121] else if k = 10 then [97, 99, 107, 101, 100] else if k = 11 then [115, 105, 108, 101, 110, 99, 101] else [63]
def printF (k : Int) (n : List UInt8) : List UInt8 := if n = [] then wordF k else wordF k ++ 32 :: n
theorem wordF_le (k : Int) : (wordF k).length ≤ 7 := by
  unfold wordF
  repeat' split
  all_goals decide
theorem k_cases {k : Int} (h1 : 1 ≤ k) (h2 : k ≤ 11) : k = 1 ∨ k = 2 ∨ k = 3 ∨ k = 4 ∨ k = 5 ∨ k = 6 ∨ k = 7 ∨ k = 8 ∨ k = 9 ∨ k = 10 ∨ k = 11 := by omega
theorem wordF_none {k : Int} (h : ¬ (1 ≤ k ∧ k ≤ 11)) : wordF k = [63] := by
  unfold wordF
  rw [if_neg (by omega), if_neg (by omega), if_neg (by omega), if_neg (by omega), if_neg (by omega), if_neg (by omega), if_neg (by omega), if_neg (by omega), if_neg (by omega), if_neg (by omega), if_neg (by omega)]
set_option maxRecDepth 20000 in
theorem aprint_tail (k : Int) (n : List UInt8) (hn : n.length ≤ 1000000) (e : List (Nat × AV)) (bx : List (Id × List AV)) (pm : List (Pl × Nat)) (e1 : lk e 1 = .ptr (.n 1) 0) (e4 : lk e 4 = .str (wordF k)) (hb : lkB bx (.n 1) = some [i6 k, .str n]) :
    wpA (SpH Tryz.prog gl) (AC.tl 4 c16) (postA [.t 2] (.str (printF k n))) ⟨e, bx, pm⟩ := by
  simp only [c16, AC.tl]
  have hw := wordF_le k
  unfold printF
  generalize wordF k = w at *
  have q1 : 1 + n.length ≤ 9223372036854775807 := by omega
  have q2 : w.length + (1 + n.length) ≤ 9223372036854775807 := by omega
  have q3 : w.length + (n.length + 1) ≤ 9223372036854775807 := by omega
  have q4 : n.length + 1 ≤ 9223372036854775807 := by omega
  cases n with
  | nil => simp -implicitDefEqProofs [e1, e4, hb]
  | cons c n =>
    rw [if_neg (by simp)]
    simp only [List.length_cons] at q1 q2 q3 q4
    have q5 : w.length + (1 + (n.length + 1)) ≤ 9223372036854775807 := by omega
    have q6 : w.length + (n.length + 1 + 1) ≤ 9223372036854775807 := by omega
    have q7 : 1 + (n.length + 1) ≤ 9223372036854775807 := by omega
    have q8 : n.length + 1 + 1 ≤ 9223372036854775807 := by omega
    have q9 : n.length + 1 ≤ 9223372036854775806 := by omega
    have q0 : n.length ≤ 9223372036854775805 := by omega
    simp -implicitDefEqProofs [e1, e4, hb, q1, q2, q3, q4, q5, q6, q7, q8, q9, q0]
def wordsA : List AV := [.str [], .str [99, 108, 111, 99, 107], .str [110, 111, 116, 105, 102, 121], .str [103, 111, 97, 108], .str [119, 105, 110, 100, 111, 119, 115], .str [112, 101, 114, 105, 111, 100], .str [97, 108, 101, 114, 116, 115], .str [101, 112, 105, 115, 111, 100, 101], .str [98, 111, 120], .str [101, 110, 116, 114, 121], .str [97, 99, 107, 101, 100], .str [115, 105, 108, 101, 110, 99, 101]]
theorem wordsA_at {k : Int} (h1 : 1 ≤ k) (h2 : k ≤ 11) : wordsA[k.toNat]? = some (.str (wordF k)) := by
  rcases k_cases h1 h2 with rfl | rfl | rfl | rfl | rfl | rfl | rfl | rfl | rfl | rfl | rfl <;> rfl
set_option maxRecDepth 20000 in
theorem aprint_tail3 (k : Int) (n : List UInt8) (hn : n.length ≤ 1000000) (e : List (Nat × AV)) (bx : List (Id × List AV)) (pm : List (Pl × Nat)) (W : List AV) (hW : 1 ≤ k → k ≤ 11 → W[k.toNat]? = some (.str (wordF k)))
    (e1 : lk e 1 = .ptr (.n 1) 0) (e3 : lk e 3 = .ptr (.n 3) 0) (e4 : lk e 4 = .str [63]) (hb : lkB bx (.n 1) = some [i6 k, .str n]) (hb3 : lkB bx (.n 3) = some W) :
    wpA (SpH Tryz.prog gl) (AC.tl 3 c16) (postA [.t 2] (.str (printF k n))) ⟨e, bx, pm⟩ := by
  have tail := aprint_tail k n hn
  have ec : AC.tl 3 c16 = AC.cutAt 1 (AC.tl 4 c16) (AC.tl 3 c16) := rfl
  rw [ec]
  generalize AC.tl 4 c16 = t at tail ⊢
  simp only [c16, AC.tl, AC.cutAt]
  by_cases h1 : 1 ≤ k
  · by_cases h2 : k ≤ 11
    · have h3 : 0 ≤ k := by omega
      have h4 : k < 12 := by omega
      have hW := hW h1 h2
      simp -implicitDefEqProofs [e1, e3, e4, hb, hb3, h1, h2, h3, h4, hW]
      refine tail _ _ _ ?_ ?_ ?_ <;> simp -implicitDefEqProofs [e1, e3, e4, hb]
    · have hw := wordF_none (k := k) (by omega)
      simp -implicitDefEqProofs [e1, e3, e4, hb, h1, h2]
      refine tail _ _ _ ?_ ?_ ?_ <;> simp -implicitDefEqProofs [hw, e1, e3, e4, hb]
  · have hw := wordF_none (k := k) (by omega)
    simp -implicitDefEqProofs [e1, e3, e4, hb, h1]
    refine tail _ _ _ ?_ ?_ ?_ <;> simp -implicitDefEqProofs [hw, e1, e3, e4, hb]
set_option maxHeartbeats 4000000 in
set_option maxRecDepth 20000 in
theorem aprint_spec (k : Int) (n : List UInt8) (hn : n.length ≤ 1000000) : Sp Tryz.prog gl 16 [.agg [i6 k, .str n]] (.str (printF k n)) := by
  refine s16 rfl rfl ?_
  have tail := fun e bx pm => aprint_tail3 k n hn e bx pm wordsA wordsA_at
  have ec : c16 = AC.cutAt 3 (AC.tl 3 c16) c16 := rfl
  rw [ec]
  generalize AC.tl 3 c16 = t at tail ⊢
  simp only [c16, AC.cutAt]
  simp -implicitDefEqProofs
  refine tail _ _ _ ?_ ?_ ?_ ?_ ?_ <;> simp -implicitDefEqProofs [wordsA]
theorem awake35_spec : Sp Tryz.prog gl 15 [] (.bool true) := by
  refine s15 rfl rfl ?_
  have LK := look0_spec
  have P1 := aprint_spec 1 [] (by simp)
  have P2 := aprint_spec 2 [] (by simp)
  have w1 : printF 1 [] = [99, 108, 111, 99, 107] := rfl
  have w2 : printF 2 [] = [110, 111, 116, 105, 102, 121] := rfl
  rw [w1] at P1
  rw [w2] at P2
  unfold M0 at LK
  simp -implicitDefEqProofs [c15]
  refine onC_mk _ LK ?_
  simp -implicitDefEqProofs
  refine onC_mk _ P1 ?_
  simp -implicitDefEqProofs
  refine onC_mk _ P2 ?_
  simp -implicitDefEqProofs
set_option maxRecDepth 20000 in
theorem auditPrints_tail (k : Int) (n : List UInt8) (hn : n.length ≤ 1000) (e : List (Nat × AV)) (bx : List (Id × List AV)) (e1 : lk e 1 = .ptr (.n 1) 0) (e4 : lk e 4 = .str (wordF k)) (hb : lkB bx (.n 1) = some [i6 k, .str n]) (pm : List (Pl × Nat)) :
    wpA (SpH Tryz.prog gl) (AC.tl 6 c4) (postA [.t 2] (.bool true)) ⟨e, bx, pm⟩ := by
  simp only [c4, AC.tl]
  have P := aprint_spec k n (by omega)
  have hw := wordF_le k
  unfold printF at P
  generalize wordF k = w at *
  have q1 : w.length + 1 ≤ 9223372036854775807 := by omega
  have q2 : w.length + 1 + n.length ≤ 9223372036854775807 := by omega
  have q3 : w.length ≤ 9223372036854775806 := by omega
  have q4 : w.length + (n.length + 1) ≤ 9223372036854775807 := by omega
  have q5 : w.length + (1 + n.length) ≤ 9223372036854775807 := by omega
  cases n with
  | nil =>
    rw [if_pos rfl] at P
    simp -implicitDefEqProofs [e1, e4, hb]
    refine onC_mk _ P ?_
    simp -implicitDefEqProofs [e4]
  | cons c n =>
    rw [if_neg (by simp)] at P
    simp only [List.length_cons] at q1 q2 q3 q4 q5 hn
    have r1 : w.length + 1 + (n.length + 1) ≤ 9223372036854775807 := by omega
    have r2 : w.length + (n.length + 1 + 1) ≤ 9223372036854775807 := by omega
    have r3 : w.length + 1 ≤ 9223372036854775807 := by omega
    simp -implicitDefEqProofs [e1, e4, hb, q1, q2, q3, q4, q5, r1, r2, r3]
    refine onC_mk _ P ?_
    simp -implicitDefEqProofs [e4]
def wordsR : List (List AV) := [[.str [63]], [.str [99, 108, 111, 99, 107]], [.str [110, 111, 116, 105, 102, 121]], [.str [103, 111, 97, 108]], [.str [119, 105, 110, 100, 111, 119, 115]], [.str [112, 101, 114, 105, 111, 100]], [.str [97, 108, 101, 114, 116, 115]], [.str [101, 112, 105, 115, 111, 100, 101]], [.str [98, 111, 120]], [.str [101, 110, 116, 114, 121]], [.str [97, 99, 107, 101, 100]], [.str [115, 105, 108, 101, 110, 99, 101]]]
theorem wordsR_at {k : Int} (h1 : 1 ≤ k) (h2 : k ≤ 11) : wordsR[k.toNat]? = some [.str (wordF k)] := by
  rcases k_cases h1 h2 with rfl | rfl | rfl | rfl | rfl | rfl | rfl | rfl | rfl | rfl | rfl <;> rfl
set_option maxRecDepth 20000 in
theorem auditPrints_tail5 (k : Int) (n : List UInt8) (hn : n.length ≤ 1000) (e : List (Nat × AV)) (bx : List (Id × List AV)) (pm : List (Pl × Nat)) (W : List (List AV)) (hW : 1 ≤ k → k ≤ 11 → W[k.toNat]? = some [.str (wordF k)])
    (e1 : lk e 1 = .ptr (.n 1) 0) (e3 : lk e 3 = .sl W) (e4 : lk e 4 = .str [63]) (hb : lkB bx (.n 1) = some [i6 k, .str n]) :
    wpA (SpH Tryz.prog gl) (AC.tl 5 c4) (postA [.t 2] (.bool true)) ⟨e, bx, pm⟩ := by
  have tail := auditPrints_tail k n hn
  have ec : AC.tl 5 c4 = AC.cutAt 1 (AC.tl 6 c4) (AC.tl 5 c4) := rfl
  rw [ec]
  generalize AC.tl 6 c4 = t at tail ⊢
  simp only [c4, AC.tl, AC.cutAt]
  by_cases h1 : 1 ≤ k
  · have h1' : (0 : Int) < k := by omega
    by_cases h2 : k ≤ 11
    · have h3 : 0 ≤ k := by omega
      have h2' : k < 12 := by omega
      have hW := hW h1 h2
      simp -implicitDefEqProofs [e1, e3, e4, hb, h1', h2', h3, hW]
      refine tail _ _ ?_ ?_ ?_ _ <;> simp -implicitDefEqProofs [e1, e3, e4, hb]
    · have h2' : ¬ k < 12 := by omega
      have hw := wordF_none (k := k) (by omega)
      simp -implicitDefEqProofs [e1, e3, e4, hb, h1', h2']
      refine tail _ _ ?_ ?_ ?_ _ <;> simp -implicitDefEqProofs [hw, e1, e3, e4, hb]
  · have h1' : ¬ (0 : Int) < k := by omega
    have hw := wordF_none (k := k) (by omega)
    simp -implicitDefEqProofs [e1, e3, e4, hb, h1']
    refine tail _ _ ?_ ?_ ?_ _ <;> simp -implicitDefEqProofs [hw, e1, e3, e4, hb]
set_option maxRecDepth 40000 in
theorem auditPrints_spec (k : Int) (n : List UInt8) : Sp Tryz.prog gl 4 [.agg [i6 k, .str n]] (.bool true) := by
  refine s4 rfl rfl ?_
  have A := awake35_spec
  by_cases hn : 1000 < n.length
  · have hn' : (1000 : Int) < n.length := by omega
    simp -implicitDefEqProofs [c4]
    refine onC_mk _ A ?_
    simp -implicitDefEqProofs [hn, hn']
  · have hn' : ¬ (1000 : Int) < n.length := by omega
    have tail := fun e bx pm => auditPrints_tail5 k n (by omega) e bx pm wordsR wordsR_at
    have ec : c4 = AC.cutAt 5 (AC.tl 5 c4) c4 := rfl
    rw [ec]
    generalize AC.tl 5 c4 = t at tail ⊢
    simp only [c4, AC.cutAt]
    simp -implicitDefEqProofs
    refine onC_mk _ A ?_
    simp -implicitDefEqProofs [hn, hn']
    refine tail _ _ _ ?_ ?_ ?_ ?_ <;> simp -implicitDefEqProofs [wordsR]
end Go.Ai
set_option linter.unusedSimpArgs false
set_option linter.unusedVariables false
namespace Go.Ai
open Go.Proofs Go.Lib
set_option maxRecDepth 100000
/-! ### The listed tables of unicode/utf8, as cells -/
def accCells : List Value := (List.range 32).map fun o => Value.int .u8 (if o % 2 = 0 then (accLo (o / 2) : Int) else (accHi (o / 2) : Int))
def firstCells : List Value := firstTab.map fun z => Value.int .u8 z
theorem first_cell {W : World} (h : VarReads Tryz.prog W "unicode/utf8.first" firstData) (o : Nat) (u : Value) (hu : firstCells[o]? = some u) : W.cell? ⟨1, o, none⟩ = some u ∧ u.oneCell' = true := by
  have hg0 : Tryz.prog.globalNamed "unicode/utf8.first" = some 1 := by kernel_rfl
  have ht0 : (Tryz.prog.globals[1]?).map (·.type) = some 299 := by kernel_rfl
  obtain ⟨g, t, cs, fuel, p, hg, hty, hvar, hd⟩ := h
  obtain rfl := Option.some.inj (hg0.symm.trans hg)
  obtain rfl := Option.some.inj (ht0.symm.trans hty)
  have hcs := cells_of_tab (t := 299) (e := 5) (n := 256) (by kernel_rfl) (by kernel_rfl) (by kernel_rfl) (by kernel_rfl) hd
  refine ⟨?_, ?_⟩
  · rw [World.var?_cell hg hvar o, ← Array.getElem?_toList, hcs]
    exact hu
  · obtain ⟨z, _, rfl⟩ := List.mem_map.1 (List.mem_of_getElem? hu)
    rfl
theorem acc_cell {W : World} (h : VarReads Tryz.prog W "unicode/utf8.acceptRanges" acceptData) (o : Nat) (u : Value) (hu : accCells[o]? = some u) : W.cell? ⟨2, o, none⟩ = some u ∧ u.oneCell' = true := by
  have hg0 : Tryz.prog.globalNamed "unicode/utf8.acceptRanges" = some 2 := by kernel_rfl
  have ht0 : (Tryz.prog.globals[2]?).map (·.type) = some 314 := by kernel_rfl
  have hc0 : Tryz.prog.cellsOf 313 = 2 := by kernel_rfl
  obtain ⟨g, t, cs, fuel, p, hg, hty, hvar, hd⟩ := h
  obtain rfl := Option.some.inj (hg0.symm.trans hg)
  obtain rfl := Option.some.inj (ht0.symm.trans hty)
  have ho : o < 32 := by have := (List.getElem?_eq_some_iff.1 hu).1; simpa [accCells] using this
  simp only [accCells, List.getElem?_map, List.getElem?_range ho, Option.map_some, Option.some.injEq] at hu
  subst hu
  refine ⟨?_, by split <;> rfl⟩
  have hi : o / 2 < 16 := by omega
  obtain ⟨fuel', d, q, hdi, he⟩ := array_elem (t := 314) (e := 313) (n := 16) (by kernel_rfl) hd (o / 2) hi
  simp only [List.getElem?_map, List.getElem?_range hi, Option.map_some, Option.some.injEq] at hdi
  subst hdi
  rw [hc0] at he
  obtain ⟨fs, hfs, hsz, hf⟩ : ∃ fs : Array Field, Tryz.prog.underlying 313 = some (.struct fs) ∧ fs.size = 2 ∧ ∀ (i : Nat) (f : Field), fs[i]? = some f → Tryz.prog.underlying f.type = some (.int .u8) ∧ f.offset = i ∧ Tryz.prog.cellsOf f.type = 1 := by
    refine ⟨_, (by kernel_rfl : Tryz.prog.underlying 313 = some (.struct #[Field.mk "lo" 5 0 false "" "unicode/utf8" 0, Field.mk "hi" 5 1 false "" "unicode/utf8" 1])), rfl, fun j f hj => ?_⟩
    match j, hj with
    | 0, hj => simp at hj; subst hj; exact ⟨by kernel_rfl, rfl, by kernel_rfl⟩
    | 1, hj => simp at hj; subst hj; exact ⟨by kernel_rfl, rfl, by kernel_rfl⟩
    | j + 2, hj => simp at hj
  have hcs := ints_of_struct hfs hf (by rw [hc0, hsz]) he
  have e0 := congrArg (·[0]?) hcs
  have e1 := congrArg (·[1]?) hcs
  simp only [List.getElem?_take, List.getElem?_drop] at e0 e1
  rw [World.var?_cell hg hvar o, ← Array.getElem?_toList]
  by_cases hp : o % 2 = 0
  · rw [if_pos hp]
    have eo : o / 2 * 2 + 0 = o := by omega
    rw [eo] at e0
    simpa using e0
  · rw [if_neg hp]
    have eo : o / 2 * 2 + 1 = o := by omega
    rw [eo] at e1
    simpa using e1
end Go.Ai
