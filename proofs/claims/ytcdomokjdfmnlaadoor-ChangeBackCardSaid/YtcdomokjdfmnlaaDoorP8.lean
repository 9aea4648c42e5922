/- YtcdomokjdfmnlaaDoorP8: part of the abstract interpreter library (values, rules, soundness against the model) or of what a function of the seat computes. Conditions: as each theorem says. -/
import Derived.Test.YtcdomokjdfmnlaaDoorP7
import Derived.Test.YtcdomokjdfmnlaaDoorP3
import Derived.Test.YtcdomokjdfmnlaaDoorP4
import Derived.Test.YtcdomokjdfmnlaaDoorCode
import Derived.Lib.LaidU8
import GoSem.PinnedTables
set_option linter.unusedSimpArgs false
set_option linter.unusedVariables false
namespace Go.Ai
open Go.Proofs
theorem nameT_ne {s : List UInt8} (h : nameT s = true) : s ≠ [] := by
  intro e
  subst e
  have : nameT [] = false := by decide +kernel
  rw [this] at h; cases h
theorem goal_nm {x : Gl} (h : goalP x = true) : NmOk x := by
  unfold goalP rulesP at h
  simp only [Bool.and_eq_true, List.all_eq_true] at h
  obtain ⟨_, _, _, _, _, _, _, _, h1, _, h2⟩ := h
  refine ⟨fun r hr => ?_, by simpa [uniq] using h2⟩
  have := h1 r hr
  unfold ruP at this
  simp only [Bool.and_eq_true] at this
  exact nameT_ne this.2.2.2.1
theorem right_ok {c : Cf} (h : rightP c = true) : CfOk c.gs := by
  unfold rightP at h
  simp only [Bool.and_eq_true, List.all_eq_true] at h
  obtain ⟨h1, _, _, _, _, _, _, h2⟩ := h
  exact ⟨by simpa [uniq] using h2, fun x hx => goal_nm (h1 x hx)⟩
theorem planP_len (a b : List Gl) (ha : a.length ≤ 10) (hb : b.length ≤ 10) (hra : ∀ x ∈ a, x.ru.length ≤ 10) (hrb : ∀ x ∈ b, x.ru.length ≤ 10) : (planQ a b).length ≤ 320 := by
  have h0 : (planP a b).length = (planQ a b).length := by rw [planQ_row]; simp
  rw [← h0]
  unfold planP
  have h1 := flatMap_len (newT a) 21 b (fun x hx => goalT_len _ _ _ (hrb x hx) (wasG_len _ hra _))
  have h2 := flatMap_len (oldT b) 11 a (fun x hx => oldT_len _ _ (hra x hx))
  rw [List.length_append]; omega
set_option maxRecDepth 20000 in
theorem changePlans_spec (a b : Cf) (g r : List UInt8) : Sp Tryd.prog gl 6 [.agg a.row, .agg b.row, .str g, .str r] (.bool true) := by
  refine s6 rfl rfl ?_
  have A := awake_spec
  have H1 := heavyC_spec a
  have H2 := heavyC_spec b
  have P1 : a.row.length = 6 := rfl
  have P2 : idsL a.row = [] := rfl
  have P3 : shutL a.row = some a.row := rfl
  have Q1 : b.row.length = 6 := rfl
  have Q2 : idsL b.row = [] := rfl
  have Q3 : shutL b.row = some b.row := rfl
  have e8 : List.take 6 a.row = a.row := List.take_of_length_le (by omega)
  have f8 : List.take 6 b.row = b.row := List.take_of_length_le (by omega)
  cases ha : heavyC a with
  | true =>
    rw [ha] at H1
    generalize a.row = P at *
    generalize b.row = Q at *
    simp -implicitDefEqProofs [c6]
    refine onC_mk _ (A) ?_
    simp -implicitDefEqProofs [P1, e8, P3]
    refine onC_mk _ (H1) ?_
    simp -implicitDefEqProofs
  | false =>
  rw [ha] at H1
  cases hb : heavyC b with
  | true =>
    rw [hb] at H2
    generalize a.row = P at *
    generalize b.row = Q at *
    simp -implicitDefEqProofs [c6]
    refine onC_mk _ (A) ?_
    simp -implicitDefEqProofs [P1, e8, P3]
    refine onC_mk _ (H1) ?_
    simp -implicitDefEqProofs [Q1, f8, Q3]
    refine onC_mk _ (H2) ?_
    simp -implicitDefEqProofs
  | false =>
  rw [hb] at H2
  by_cases g1 : (2000 : Int) < g.length
  · generalize a.row = P at *
    generalize b.row = Q at *
    simp -implicitDefEqProofs [c6]
    refine onC_mk _ (A) ?_
    simp -implicitDefEqProofs [P1, e8, P3]
    refine onC_mk _ (H1) ?_
    simp -implicitDefEqProofs [Q1, f8, Q3]
    refine onC_mk _ (H2) ?_
    simp -implicitDefEqProofs [g1]
  by_cases g2 : (2000 : Int) < r.length
  · generalize a.row = P at *
    generalize b.row = Q at *
    simp -implicitDefEqProofs [c6]
    refine onC_mk _ (A) ?_
    simp -implicitDefEqProofs [P1, e8, P3]
    refine onC_mk _ (H1) ?_
    simp -implicitDefEqProofs [Q1, f8, Q3]
    refine onC_mk _ (H2) ?_
    simp -implicitDefEqProofs [g1, g2]
  have fa := heavyC_fit ha
  have fb := heavyC_fit hb
  have na := fa.n
  have nb := fb.n
  have L := plan_spec a b fa fb
  have M := rplan_spec a b (by omega) (by omega) (fun x hx => (fa.gs x hx).ru) (fun x hx => (fb.gs x hx).ru)
  have R1 := qright_spec a fa
  have R2 := qright_spec b fb
  cases ra : rightP a with
  | false =>
    rw [ra] at L R1
    simp only [Bool.false_and, Bool.false_eq_true, if_false] at L
    generalize a.row = P at *
    generalize b.row = Q at *
    simp -implicitDefEqProofs [c6]
    refine onC_mk _ (A) ?_
    simp -implicitDefEqProofs [P1, e8, P3]
    refine onC_mk _ (H1) ?_
    simp -implicitDefEqProofs [Q1, f8, Q3]
    refine onC_mk _ (H2) ?_
    simp -implicitDefEqProofs [g1, g2, P1, e8, P3, Q1, f8, Q3]
    refine onC_mk _ (L) ?_
    simp -implicitDefEqProofs [P1, e8, P3, Q1, f8, Q3]
    refine onC_mk _ (R1) ?_
    simp -implicitDefEqProofs
  | true =>
  rw [ra] at L R1
  cases rb : rightP b with
  | false =>
    rw [rb] at L R2
    simp only [Bool.and_false, Bool.false_eq_true, if_false] at L
    generalize a.row = P at *
    generalize b.row = Q at *
    simp -implicitDefEqProofs [c6]
    refine onC_mk _ (A) ?_
    simp -implicitDefEqProofs [P1, e8, P3]
    refine onC_mk _ (H1) ?_
    simp -implicitDefEqProofs [Q1, f8, Q3]
    refine onC_mk _ (H2) ?_
    simp -implicitDefEqProofs [g1, g2, P1, e8, P3, Q1, f8, Q3]
    refine onC_mk _ (L) ?_
    simp -implicitDefEqProofs [P1, e8, P3, Q1, f8, Q3]
    refine onC_mk _ (R1) ?_
    simp -implicitDefEqProofs [P1, e8, P3, Q1, f8, Q3]
    refine onC_mk _ (R2) ?_
    simp -implicitDefEqProofs
  | true =>
  rw [rb] at L R2
  simp only [Bool.and_self, if_true] at L
  have AP := planQ_apart a.gs b.gs (right_ok ra) (right_ok rb)
  have ll := planP_len a.gs b.gs na nb (fun x hx => (fa.gs x hx).ru) (fun x hx => (fb.gs x hx).ru)
  rw [planQ_row] at L M
  generalize planQ a.gs b.gs = l at *
  have ST := sameT_spec l (by omega)
  have F1 := find_spec l g r (by omega)
  have F2 := rfind_spec l g r (by omega)
  have F := fun g r => find_spec l g r (by omega)
  have hfk : ∀ i (h : i < l.length), findQ l l[i].1 l[i].2.1 = l[i].2.2 := fun i h => by
    have := find_key l[i].1 l[i].2.1 l AP l[i] (List.getElem_mem _) rfl rfl
    unfold findQ
    have e : isT l[i].1 l[i].2.1 = fun s : Tr => s.1 == l[i].1 && s.2.1 == l[i].2.1 := rfl
    rw [e, this]
  have rl : (l.map trow).length = l.length := by simp
  have rat : ∀ i (h : i < l.length), ∀ h2, (l.map trow)[i]'h2 = [.str l[i].1, .str l[i].2.1, i6 l[i].2.2] := fun i h h2 => by simp [trow, tn]
  generalize l.map trow = RR at *
  generalize findQ l g r = z0 at *
  generalize a.row = P at *
  generalize b.row = Q at *
  simp -implicitDefEqProofs [c6]
  refine onC_mk _ (A) ?_
  simp -implicitDefEqProofs [P1, e8, P3]
  refine onC_mk _ (H1) ?_
  simp -implicitDefEqProofs [Q1, f8, Q3]
  refine onC_mk _ (H2) ?_
  simp -implicitDefEqProofs [g1, g2, P1, e8, P3, Q1, f8, Q3]
  refine onC_mk _ (L) ?_
  simp -implicitDefEqProofs [P1, e8, P3, Q1, f8, Q3]
  refine onC_mk _ (R1) ?_
  simp -implicitDefEqProofs [P1, e8, P3, Q1, f8, Q3]
  refine onC_mk _ (R2) ?_
  simp -implicitDefEqProofs [P1, e8, P3, Q1, f8, Q3]
  refine onC_mk _ (M) ?_
  simp -implicitDefEqProofs
  refine onC_mk _ (ST) ?_
  simp -implicitDefEqProofs
  refine onC_mk _ (F1) ?_
  simp -implicitDefEqProofs
  refine onC_mk _ (F2) ?_
  simp -implicitDefEqProofs
  refine wp_lpk (α := Nat) (fun i => ⟨[(9, .sl RR), (11, .sl RR), (12, i6 i)], [], []⟩) (fun i => i ≤ l.length) (fun i => l.length - i) ?_ 0 ?_ ?_
  · rintro K i hK h1
    by_cases q : i < l.length
    · have t1 : IntKind.i64.wrap ((i : Int) + 1) = (i + 1 : Nat) := by rw [wrap_i64] <;> omega
      have rq := rat i q
      have gR : i < RR.length := by omega
      have F := F l[i].1 l[i].2.1
      rw [hfk i q] at F
      have fin : ∀ σ', Weak σ' ⟨[(9, .sl RR), (11, .sl RR), (12, i6 (i + 1 : Nat))], [], []⟩ → K σ' :=
        fun σ' hσ => hK (i + 1) σ' (by omega) (by omega) hσ
      clear hK rat hfk
      generalize l[i] = x at *
      simp -implicitDefEqProofs [q, gR, rq, rl]
      refine onC_mk _ (F) ?_
      simp -implicitDefEqProofs [q, gR, rq, rl, t1]
      refine fin _ ?_
      refine weak_mk ?_ ?_ ?_ ?_ ?_ ?_ <;> simp -implicitDefEqProofs [t1]
    · obtain rfl : i = l.length := by omega
      clear hK
      simp -implicitDefEqProofs [rl]
  · exact Nat.zero_le _
  · refine weak_mk ?_ ?_ ?_ ?_ ?_ ?_ <;> simp -implicitDefEqProofs
end Go.Ai
set_option linter.unusedSimpArgs false
set_option linter.unusedVariables false
namespace Go.Ai
open Go.Proofs
/-! ### There and back, no program in sight -/
def backK (k : Int) : Int := if k = 1 then 4 else if k = 4 then 1 else k
theorem gF_uniq {l : List Gl} (h : CfOk l) {x : Gl} (hx : x ∈ l) : gF l x.n = some x := by
  obtain ⟨y, hy⟩ := Option.isSome_iff_exists.1 (gF_mem hx)
  have hm : y ∈ l := List.mem_of_find?_eq_some hy
  have hn : y.n = x.n := by simpa using List.find?_some hy
  have np : l.Pairwise fun x y => x.n ≠ y.n := by have := h.nd; rw [List.Nodup, List.pairwise_map] at this; exact this
  have : y = x := by
    obtain ⟨i, hi, rfl⟩ := List.getElem_of_mem hm
    obtain ⟨j, hj, rfl⟩ := List.getElem_of_mem hx
    rcases Nat.lt_trichotomy i j with q | q | q
    · exact absurd hn (List.pairwise_iff_getElem.1 np i j hi hj q)
    · subst q; rfl
    · exact absurd hn.symm (List.pairwise_iff_getElem.1 np j i hj hi q)
  rw [hy, this]
theorem rF_uniq {x : Gl} (h : NmOk x) {r : Ru} (hr : r ∈ x.ru) : rF (some x) r.n = some r := by
  have hs : (rF (some x) r.n).isSome = true := by
    unfold rF ruOf
    rw [List.find?_isSome]
    exact ⟨r, hr, by simp⟩
  obtain ⟨y, hy⟩ := Option.isSome_iff_exists.1 hs
  have hm : y ∈ x.ru := List.mem_of_find?_eq_some hy
  have hn : y.n = r.n := by simpa using List.find?_some hy
  have np := nd_pair h.nd
  have : y = r := by
    obtain ⟨i, hi, rfl⟩ := List.getElem_of_mem hm
    obtain ⟨j, hj, rfl⟩ := List.getElem_of_mem hr
    rcases Nat.lt_trichotomy i j with q | q | q
    · exact absurd hn (List.pairwise_iff_getElem.1 np i j hi hj q)
    · subst q; rfl
    · exact absurd hn.symm (List.pairwise_iff_getElem.1 np j i hj hi q)
  rw [hy, this]
theorem stP_symm (x y : Gl) : stP x y = stP y x := by
  unfold stP
  rw [Bool.eq_iff_iff]
  simp only [Bool.and_eq_true, beq_iff_eq, decide_eq_true_eq]
  constructor <;> rintro ⟨h1, h2, h3⟩ <;> exact ⟨h1.symm, h2.symm, h3.symm⟩
theorem stP_self (x : Gl) : stP x x = true := by unfold stP; simp
theorem new_mem {a b : List Gl} {x : Gl} {t : Tr} (hx : x ∈ b) (h : t ∈ newQ a x) : t ∈ planQ a b := by
  unfold planQ; exact List.mem_append_left _ (List.mem_flatMap.2 ⟨x, hx, h⟩)
theorem old_mem {a b : List Gl} {x : Gl} {t : Tr} (hx : x ∈ a) (h : t ∈ oldQ b x) : t ∈ planQ a b := by
  unfold planQ; exact List.mem_append_right _ (List.mem_flatMap.2 ⟨x, hx, h⟩)
theorem rF_nil (n : List UInt8) : rF (some Gl.zero) n = none := rfl
theorem newQ_none {a : List Gl} {x : Gl} (h : gF a x.n = none) : newQ a x = [(x.n, [], 1)] ++ x.ru.map fun r => (x.n, r.n, 1) := by
  unfold newQ goalTr wasG
  rw [h]
  simp [kindP, goneQ, Gl.zero, ruTr, rF, ruOf]
theorem oldQ_none {b : List Gl} {x : Gl} (h : gF b x.n = none) : oldQ b x = [(x.n, [], 4)] ++ x.ru.map fun r => (x.n, r.n, 4) := by
  unfold oldQ goneQ
  rw [h]
  simp only [Option.isSome_none, Bool.false_eq_true, if_false]
  congr 1
  induction x.ru with
  | nil => rfl
  | cons r l ih => rw [List.flatMap_cons, ih]; simp [rF, ruOf]
theorem newQ_some {a : List Gl} {x y : Gl} (h : gF a x.n = some y) : newQ a x = goalTr x y true := by
  unfold newQ wasG
  rw [h]; rfl
theorem goneQ_in {nm : List UInt8} {o : Option Gl} {l : List Ru} {r : Ru} (hr : r ∈ l) (h : rF o r.n = none) : (nm, r.n, (4 : Int)) ∈ goneQ nm o l := by
  unfold goneQ
  exact List.mem_flatMap.2 ⟨r, hr, by rw [h]; simp⟩
theorem back_mem (a b : List Gl) (ha : CfOk a) (hb : CfOk b) : ∀ t ∈ planQ a b, 1 ≤ t.2.2 ∧ t.2.2 ≤ 4 ∧ (t.1, t.2.1, backK t.2.2) ∈ planQ b a := by
  intro t ht
  have h0 := ht
  unfold planQ at ht
  rcases List.mem_append.1 ht with ht | ht
  · obtain ⟨x, hx, ht⟩ := List.mem_flatMap.1 ht
    cases hg : gF a x.n with
    | none =>
      rw [newQ_none hg] at ht
      simp only [List.mem_append, List.mem_singleton, List.mem_map] at ht
      have ho := fun t => old_mem (a := b) (b := a) (t := t) hx
      rw [oldQ_none hg] at ho
      rcases ht with rfl | ⟨r, hr, rfl⟩
      · exact ⟨by simp, by simp, ho _ (by simp [backK])⟩
      · refine ⟨by simp, by simp, ho _ ?_⟩
        simp only [List.mem_append, List.mem_map]
        exact .inr ⟨r, hr, by simp [backK]⟩
    | some y =>
      rw [newQ_some hg] at ht
      have hy : y ∈ a := List.mem_of_find?_eq_some hg
      have hn : y.n = x.n := by simpa using List.find?_some hg
      have hg2 : gF b y.n = some x := by rw [hn]; exact gF_uniq hb hx
      have hM := fun t => new_mem (a := b) (b := a) (t := t) hy
      rw [newQ_some hg2] at hM
      unfold goalTr at ht hM
      simp only [Bool.true_and] at ht hM
      rw [stP_symm x y] at hM
      generalize stP y x = S at *
      have k23 : ∀ w : Bool, 1 ≤ kindP true w ∧ kindP true w ≤ 4 ∧ backK (kindP true w) = kindP true w := by intro w; cases w <;> decide
      have kf : ∀ w : Bool, kindP false w = 1 := fun w => rfl
      simp only [List.mem_append, List.mem_singleton, List.mem_map] at ht hM
      rcases ht with (rfl | ⟨r, hr, rfl⟩) | ht
      · obtain ⟨k1, k2, k3⟩ := k23 S
        refine ⟨k1, k2, hM _ (.inl (.inl ?_))⟩
        simp only [k3, hn]
      · unfold ruTr
        cases hq : rF (some y) r.n with
        | none =>
          simp only [Option.isSome_none, kf]
          refine ⟨by decide, by decide, hM _ (.inr ?_)⟩
          exact goneQ_in hr hq
        | some q =>
          have hqm : q ∈ y.ru := List.mem_of_find?_eq_some hq
          have hqn : q.n = r.n := by simpa using List.find?_some hq
          simp only [Option.isSome_some, Option.getD_some]
          obtain ⟨k1, k2, k3⟩ := k23 (S && decide (q = r))
          refine ⟨k1, k2, hM _ (.inl (.inr ⟨q, hqm, ?_⟩))⟩
          unfold ruTr
          rw [hqn, rF_uniq (hb.ok x hx) hr, k3, hn]
          simp only [Option.isSome_some, Option.getD_some]
          have : decide (r = q) = decide (q = r) := by rw [Bool.eq_iff_iff]; simp only [decide_eq_true_eq, eq_comm]
          rw [this]
      · have hmm := ht
        unfold goneQ at hmm
        obtain ⟨r, hr, hmm⟩ := List.mem_flatMap.1 hmm
        split at hmm
        · simp at hmm
        · rename_i hnn
          simp only [List.mem_singleton] at hmm
          subst hmm
          refine ⟨by simp, by simp, hM _ (.inl (.inr ⟨r, hr, ?_⟩))⟩
          unfold ruTr
          have : (rF (some x) r.n).isSome = false := by simpa using hnn
          rw [this, kf]
          simp [backK]
  · obtain ⟨x, hx, ht⟩ := List.mem_flatMap.1 ht
    have hs := (oldQ_first ht).2
    have hg : gF b x.n = none := by
      cases h : gF b x.n with
      | none => rfl
      | some y => rw [h] at hs; cases hs
    rw [oldQ_none hg] at ht
    have hM := fun t => new_mem (a := b) (b := a) (t := t) hx
    rw [newQ_none hg] at hM
    simp only [List.mem_append, List.mem_singleton, List.mem_map] at ht hM
    rcases ht with rfl | ⟨r, hr, rfl⟩
    · exact ⟨by simp, by simp, hM _ (.inl (by simp [backK]))⟩
    · exact ⟨by simp, by simp, hM _ (.inr ⟨r, hr, by simp [backK]⟩)⟩
theorem nodup_le {α : Type} : ∀ (l m : List α), l.Nodup → (∀ x ∈ l, x ∈ m) → l.length ≤ m.length
  | [], m, _, _ => by simp
  | x :: l, m, h, hs => by
    have hx := hs x (by simp)
    obtain ⟨s, t, rfl⟩ := List.append_of_mem hx
    simp only [List.nodup_cons] at h
    have := nodup_le l (s ++ t) h.2 (fun y hy => by
      have := hs y (by simp [hy])
      simp only [List.mem_append, List.mem_cons] at this ⊢
      rcases this with q | q | q
      · exact .inl q
      · subst q; exact absurd hy h.1
      · exact .inr q)
    simp only [List.length_append, List.length_cons] at this ⊢; omega
theorem key_nodup {l : List Tr} (h : l.Pairwise Apart) : (l.map fun t => (t.1, t.2.1)).Nodup := by
  rw [List.Nodup, List.pairwise_map]
  refine h.imp ?_
  intro s t hh e
  simp only [Prod.mk.injEq] at e
  exact hh e
theorem plan_le (a b : List Gl) (ha : CfOk a) (hb : CfOk b) : (planQ a b).length ≤ (planQ b a).length := by
  have := nodup_le _ ((planQ b a).map fun t => (t.1, t.2.1)) (key_nodup (planQ_apart a b ha hb)) (fun k hk => by
    obtain ⟨t, ht, rfl⟩ := List.mem_map.1 hk
    exact List.mem_map.2 ⟨_, (back_mem a b ha hb t ht).2.2, rfl⟩)
  simpa using this
theorem plan_len_eq (a b : List Gl) (ha : CfOk a) (hb : CfOk b) : (planQ a b).length = (planQ b a).length :=
  Nat.le_antisymm (plan_le a b ha hb) (plan_le b a hb ha)
theorem back_find (a b : List Gl) (ha : CfOk a) (hb : CfOk b) (t : Tr) (ht : t ∈ planQ a b) : (planQ b a).find? (fun s => s.1 == t.1 && s.2.1 == t.2.1) = some (t.1, t.2.1, backK t.2.2) :=
  find_key t.1 t.2.1 _ (planQ_apart b a hb ha) _ (back_mem a b ha hb t ht).2.2 rfl rfl
/-- In its own place all stays. -/
def selfQ (x : Gl) : List Tr := (x.n, [], 2) :: x.ru.map fun r => (x.n, r.n, 2)
theorem self_new (a : List Gl) (ha : CfOk a) (x : Gl) (hx : x ∈ a) : newQ a x = selfQ x := by
  rw [newQ_some (gF_uniq ha hx)]
  unfold goalTr selfQ
  have hg : goneQ x.n (some x) x.ru = [] := by
    unfold goneQ
    rw [List.flatMap_eq_nil_iff]
    intro r hr
    rw [rF_uniq (ha.ok x hx) hr]; rfl
  rw [hg, stP_self]
  simp only [Bool.and_self, List.append_nil, List.cons_append, List.nil_append]
  congr 1
  refine List.map_congr_left fun r hr => ?_
  unfold ruTr
  rw [rF_uniq (ha.ok x hx) hr]
  simp [kindP]
theorem self_plan (a : List Gl) (ha : CfOk a) : planQ a a = a.flatMap selfQ := by
  unfold planQ
  have h2 : a.flatMap (oldQ a) = [] := by
    rw [List.flatMap_eq_nil_iff]
    intro x hx
    unfold oldQ
    rw [gF_mem hx]; rfl
  rw [h2, List.append_nil]
  have : ∀ l : List Gl, (∀ x ∈ l, x ∈ a) → l.flatMap (newQ a) = l.flatMap selfQ := by
    intro l
    induction l with
    | nil => intro _; rfl
    | cons x l ih => intro h; rw [List.flatMap_cons, List.flatMap_cons, self_new a ha x (h x (by simp)), ih (fun y hy => h y (by simp [hy]))]
  exact this a (fun x hx => hx)
theorem self_two (a : List Gl) : ∀ t ∈ a.flatMap selfQ, t.2.2 = 2 := by
  intro t ht
  obtain ⟨x, _, ht⟩ := List.mem_flatMap.1 ht
  unfold selfQ at ht
  rcases List.mem_cons.1 ht with rfl | ht
  · rfl
  · obtain ⟨r, _, rfl⟩ := List.mem_map.1 ht
    rfl
/-- How many rules all goals have. -/
def ruSum : List Gl → Nat
  | [] => 0
  | x :: l => x.ru.length + ruSum l
theorem self_len : ∀ a : List Gl, (a.flatMap selfQ).length = a.length + ruSum a
  | [] => rfl
  | x :: l => by
    rw [List.flatMap_cons, List.length_append, self_len l]
    simp only [selfQ, ruSum, List.length_cons, List.length_map]; omega
end Go.Ai
set_option linter.unusedSimpArgs false
set_option linter.unusedVariables false
namespace Go.Ai
open Go.Proofs
theorem ruSum_le : ∀ l : List Gl, (∀ x ∈ l, x.ru.length ≤ 10) → ruSum l ≤ 10 * l.length
  | [], _ => by simp [ruSum]
  | x :: l, h => by
    have := ruSum_le l (fun y hy => h y (by simp [hy]))
    have := h x (by simp)
    simp only [ruSum, List.length_cons]; omega
theorem ruSum_snoc : ∀ (l : List Gl) (i : Nat) (h : i < l.length), ruSum (l.take (i + 1)) = ruSum (l.take i) + l[i].ru.length
  | x :: l, 0, _ => by simp [ruSum]
  | x :: l, i + 1, h => by
    have := ruSum_snoc l i (by simpa using h)
    simp only [List.take_succ_cons, ruSum, List.getElem_cons_succ, this]; omega
theorem back_cases {k : Int} (h1 : 1 ≤ k) (h2 : k ≤ 4) : (k = 1 ∧ backK k = 4) ∨ (k = 2 ∧ backK k = 2) ∨ (k = 3 ∧ backK k = 3) ∨ (k = 4 ∧ backK k = 1) := by
  have : k = 1 ∨ k = 2 ∨ k = 3 ∨ k = 4 := by omega
  rcases this with rfl | rfl | rfl | rfl <;> decide
set_option maxRecDepth 20000 in
/-- The last loop, and the count. -/
theorem back_self (l : List Tr) (hl : l.length ≤ 1000) (h2 : ∀ t ∈ l, t.2.2 = 2) (e : List (Nat × AV)) (bx : List (Id × List AV)) (pm : List (Pl × Nat)) (l9 : lk e 9 = .sl (l.map trow)) (l13 : lk e 13 = i6 l.length) :
    wpA (SpH Tryd.prog gl) (AC.tl 11 c4) (postA [.t 4] (.bool true)) ⟨e, bx, pm⟩ := by
  have rl : (l.map trow).length = l.length := by simp
  have rat : ∀ i (h : i < l.length), ∀ h2, (l.map trow)[i]'h2 = [.str l[i].1, .str l[i].2.1, i6 l[i].2.2] := fun i h h2 => by simp [trow, tn]
  have hk : ∀ i (h : i < l.length), l[i].2.2 = 2 := fun i h => h2 _ (List.getElem_mem _)
  generalize l.map trow = RR at *
  simp only [c4, AC.tl]
  simp -implicitDefEqProofs [l9, l13]
  refine wp_lpk (α := Nat) (fun i => ⟨[(9, .sl RR), (13, i6 l.length), (15, i6 i)], [], []⟩) (fun i => i ≤ l.length) (fun i => l.length - i) ?_ 0 ?_ ?_
  · rintro K i hK h1
    by_cases q : i < l.length
    · have t1 : IntKind.i64.wrap ((i : Int) + 1) = (i + 1 : Nat) := by rw [wrap_i64] <;> omega
      have rq := rat i q
      rw [hk i q] at rq
      have gR : i < RR.length := by omega
      have fin : ∀ σ', Weak σ' ⟨[(9, .sl RR), (13, i6 l.length), (15, i6 (i + 1 : Nat))], [], []⟩ → K σ' :=
        fun σ' hσ => hK (i + 1) σ' (by omega) (by omega) hσ
      clear hK rat hk
      generalize l[i] = x at *
      simp -implicitDefEqProofs [q, gR, rq, rl, t1]
      refine fin _ ?_
      refine weak_mk ?_ ?_ ?_ ?_ ?_ ?_ <;> simp -implicitDefEqProofs [t1]
    · obtain rfl : i = l.length := by omega
      clear hK
      simp -implicitDefEqProofs [rl]
  · exact Nat.zero_le _
  · refine weak_mk ?_ ?_ ?_ ?_ ?_ ?_ <;> simp -implicitDefEqProofs [l9, l13]
set_option maxRecDepth 20000 in
theorem back_sum (a : Cf) (ha : a.gs.length ≤ 10) (hra : ∀ x ∈ a.gs, x.ru.length ≤ 10) (l : List Tr) (hl : l.length = a.gs.length + ruSum a.gs) (h2 : ∀ t ∈ l, t.2.2 = 2) (e : List (Nat × AV)) (l9 : lk e 9 = .sl (l.map trow)) (l2 : lk e 2 = .ptr (.n 2) 0) :
    wpA (SpH Tryd.prog gl) (AC.tl 9 c4) (postA [.t 4] (.bool true)) ⟨e, [(.n 2, a.row)], []⟩ := by
  have exa : a.row = [.sl (a.gs.map Gl.row), i6 a.r, i6 a.v, i6 a.i, i6 a.x, i6 a.y] := rfl
  have hsum := ruSum_le a.gs hra
  have T := back_self l (by omega) h2
  have ec : AC.tl 9 c4 = AC.cutAt 2 (AC.tl 11 c4) (AC.tl 9 c4) := rfl
  rw [ec]
  rw [hl] at T
  have rl : (a.gs.map Gl.row).length = a.gs.length := by simp
  have rat : ∀ i (h : i < a.gs.length), ∀ h2, (a.gs.map Gl.row)[i]'h2 = [.str a.gs[i].n, .int .u32 a.gs[i].t, i6 a.gs[i].g, i6 a.gs[i].a, i6 a.gs[i].o, i6 a.gs[i].c, .sl (a.gs[i].lb.map Lb.row), .sl (a.gs[i].ru.map Ru.row)] := fun i h h2 => by simp [Gl.row]
  have snoc := ruSum_snoc a.gs
  have ssum : ruSum a.gs = ruSum (a.gs.take a.gs.length) := by rw [List.take_length]
  have sle : ∀ i, i ≤ a.gs.length → ruSum (a.gs.take i) ≤ 100 := fun i h => by
    have := ruSum_le (a.gs.take i) (fun x hx => hra x (List.mem_of_mem_take hx))
    rw [List.length_take] at this; omega
  generalize AC.tl 11 c4 = TT at T ⊢
  rw [exa]
  have hids : idsL [AV.sl (a.gs.map Gl.row), i6 a.r, i6 a.v, i6 a.i, i6 a.x, i6 a.y] = [] := rfl
  generalize l.map trow = RR at *
  generalize a.gs.map Gl.row = RU at *
  simp only [c4, AC.tl, AC.cutAt]
  simp -implicitDefEqProofs [l9, l2, rl]
  refine wp_lpk (α := Nat) (fun i => ⟨[(2, .ptr (.n 2) 0), (9, .sl RR), (13, i6 (a.gs.length + ruSum (a.gs.take i) : Nat)), (14, i6 i)], [(.n 2, [.sl RU, i6 a.r, i6 a.v, i6 a.i, i6 a.x, i6 a.y])], []⟩) (fun i => i ≤ a.gs.length) (fun i => a.gs.length - i) ?_ 0 ?_ ?_
  · rintro K i hK h1
    by_cases q : i < a.gs.length
    · have t1 : IntKind.i64.wrap ((i : Int) + 1) = (i + 1 : Nat) := by rw [wrap_i64] <;> omega
      have rq := rat i q
      have gR : i < RU.length := by omega
      have sn := snoc i q
      have sl1 := sle i h1
      have hx := hra a.gs[i] (List.getElem_mem _)
      obtain ⟨m, hm⟩ : ∃ m, m = a.gs.length + ruSum (a.gs.take i) := ⟨_, rfl⟩
      have fin : ∀ σ', Weak σ' ⟨[(2, .ptr (.n 2) 0), (9, .sl RR), (13, i6 (m + a.gs[i].ru.length : Nat)), (14, i6 (i + 1 : Nat))], [(.n 2, [.sl RU, i6 a.r, i6 a.v, i6 a.i, i6 a.x, i6 a.y])], []⟩ → K σ' :=
        fun σ' hσ => hK (i + 1) σ' (by omega) (by omega) (by rw [sn, ← Nat.add_assoc, ← hm]; exact hσ)
      rw [← hm]
      have hrr : (a.gs[i].ru.map Ru.row).length = a.gs[i].ru.length := by simp
      have t2 : IntKind.i64.wrap ((m : Int) + (a.gs[i].ru.length : Nat)) = (m + a.gs[i].ru.length : Nat) := by rw [wrap_i64] <;> omega
      clear hK rat sn snoc hm T
      generalize a.gs[i].ru.map Ru.row = RV at *
      generalize a.gs[i].lb.map Lb.row = LB at *
      generalize a.gs[i].ru.length = z at *
      generalize a.gs[i] = x at *
      simp -implicitDefEqProofs [q, gR, rq, rl, t1, t2, hrr]
      refine fin _ ?_
      refine weak_mk ?_ ?_ ?_ ?_ ?_ ?_ <;> simp -implicitDefEqProofs [t1, t2, hids]
    · obtain rfl : i = a.gs.length := by omega
      clear hK
      rw [← ssum]
      simp -implicitDefEqProofs [rl]
      refine T _ _ _ ?_ ?_ <;> simp -implicitDefEqProofs
  · exact Nat.zero_le _
  · simp only [List.take_zero, ruSum, Nat.add_zero]
    refine weak_mk ?_ ?_ ?_ ?_ ?_ ?_ <;> simp -implicitDefEqProofs [l9, l2, rl, hids]
set_option maxRecDepth 20000 in
theorem back_loop (a b : Cf) (ha : a.gs.length ≤ 10) (hra : ∀ x ∈ a.gs, x.ru.length ≤ 10) (oa : CfOk a.gs) (ob : CfOk b.gs) (lp : (planQ a.gs b.gs).length ≤ 320) (lm : (planQ b.gs a.gs).length ≤ 320) (e : List (Nat × AV)) (B : List AV) (hB : idsL B = [])
    (l5 : lk e 5 = .sl ((planQ a.gs b.gs).map trow)) (l7 : lk e 7 = .sl ((planQ b.gs a.gs).map trow)) (l9 : lk e 9 = .sl ((planQ a.gs a.gs).map trow)) (l2 : lk e 2 = .ptr (.n 2) 0) :
    wpA (SpH Tryd.prog gl) (AC.tl 7 c4) (postA [.t 4] (.bool true)) ⟨e, [(.n 3, B), (.n 2, a.row)], []⟩ := by
  have T := back_sum a ha hra (planQ a.gs a.gs) (by rw [self_plan _ oa]; exact self_len _) (by rw [self_plan _ oa]; exact self_two _)
  have ec : AC.tl 7 c4 = AC.cutAt 2 (AC.tl 9 c4) (AC.tl 7 c4) := rfl
  rw [ec]
  have rl : ((planQ a.gs b.gs).map trow).length = (planQ a.gs b.gs).length := by simp
  have rat : ∀ i (h : i < (planQ a.gs b.gs).length), ∀ h2, ((planQ a.gs b.gs).map trow)[i]'h2 = [.str (planQ a.gs b.gs)[i].1, .str (planQ a.gs b.gs)[i].2.1, i6 (planQ a.gs b.gs)[i].2.2] := fun i h h2 => by simp [trow, tn]
  have hk : ∀ i (h : i < (planQ a.gs b.gs).length), 1 ≤ (planQ a.gs b.gs)[i].2.2 ∧ (planQ a.gs b.gs)[i].2.2 ≤ 4 ∧ findQ (planQ b.gs a.gs) (planQ a.gs b.gs)[i].1 (planQ a.gs b.gs)[i].2.1 = backK (planQ a.gs b.gs)[i].2.2 := fun i h => by
    obtain ⟨h1, h2, _⟩ := back_mem a.gs b.gs oa ob _ (List.getElem_mem h)
    refine ⟨h1, h2, ?_⟩
    have := back_find a.gs b.gs oa ob _ (List.getElem_mem h)
    unfold findQ
    have e : ∀ t : Tr, isT t.1 t.2.1 = fun s : Tr => s.1 == t.1 && s.2.1 == t.2.1 := fun _ => rfl
    rw [e, this]
  have F := fun g r => rfind_spec (planQ b.gs a.gs) g r (by omega)
  have hids : idsL a.row = [] := rfl
  generalize AC.tl 9 c4 = TT at T ⊢
  generalize planQ a.gs b.gs = l at *
  generalize planQ b.gs a.gs = m at *
  generalize planQ a.gs a.gs = s at *
  generalize l.map trow = RL at *
  generalize m.map trow = RM at *
  generalize s.map trow = RS at *
  generalize a.row = P at *
  simp only [c4, AC.tl, AC.cutAt]
  simp -implicitDefEqProofs [l5, l7, l9, l2]
  refine wp_lpk (α := Nat) (fun i => ⟨[(2, .ptr (.n 2) 0), (5, .sl RL), (7, .sl RM), (9, .sl RS), (11, .sl [[i6 0], [i6 4], [i6 2], [i6 3], [i6 1]]), (12, i6 i)], [(.n 2, P)], []⟩) (fun i => i ≤ l.length) (fun i => l.length - i) ?_ 0 ?_ ?_
  · rintro K i hK h1
    by_cases q : i < l.length
    · have t1 : IntKind.i64.wrap ((i : Int) + 1) = (i + 1 : Nat) := by rw [wrap_i64] <;> omega
      have rq := rat i q
      have gR : i < RL.length := by omega
      obtain ⟨k1, k2, k3⟩ := hk i q
      have F := F l[i].1 l[i].2.1
      rw [k3] at F
      have fin : ∀ σ', Weak σ' ⟨[(2, .ptr (.n 2) 0), (5, .sl RL), (7, .sl RM), (9, .sl RS), (11, .sl [[i6 0], [i6 4], [i6 2], [i6 3], [i6 1]]), (12, i6 (i + 1 : Nat))], [(.n 2, P)], []⟩ → K σ' :=
        fun σ' hσ => hK (i + 1) σ' (by omega) (by omega) hσ
      clear hK rat hk k3 T
      rcases back_cases k1 k2 with ⟨e1, e2⟩ | ⟨e1, e2⟩ | ⟨e1, e2⟩ | ⟨e1, e2⟩
      all_goals
        rw [e1] at rq
        rw [e2] at F
        clear e1 e2 k1 k2
        generalize l[i] = x at *
        simp -implicitDefEqProofs [q, gR, rq, rl]
        refine onC_mk _ (F) ?_
        simp -implicitDefEqProofs [q, gR, rq, rl, t1]
        refine fin _ ?_
        refine weak_mk ?_ ?_ ?_ ?_ ?_ ?_ <;> simp -implicitDefEqProofs [t1, hids]
    · obtain rfl : i = l.length := by omega
      clear hK
      simp -implicitDefEqProofs [rl]
      refine T _ ?_ ?_ <;> simp -implicitDefEqProofs
  · exact Nat.zero_le _
  · refine weak_mk ?_ ?_ ?_ ?_ ?_ ?_ <;> simp -implicitDefEqProofs [l5, l7, l9, l2, hids]
end Go.Ai
set_option linter.unusedSimpArgs false
set_option linter.unusedVariables false
namespace Go.Ai
open Go.Proofs
set_option maxRecDepth 20000 in
theorem changeBack_spec (a b : Cf) : Sp Tryd.prog gl 4 [.agg a.row, .agg b.row] (.bool true) := by
  refine s4 rfl rfl ?_
  have A := awake_spec
  have H1 := heavyC_spec a
  have H2 := heavyC_spec b
  have P1 : a.row.length = 6 := rfl
  have P3 : shutL a.row = some a.row := rfl
  have Q1 : b.row.length = 6 := rfl
  have Q2 : idsL b.row = [] := rfl
  have Q3 : shutL b.row = some b.row := rfl
  have e8 : List.take 6 a.row = a.row := List.take_of_length_le (by omega)
  have f8 : List.take 6 b.row = b.row := List.take_of_length_le (by omega)
  have ec : c4 = AC.cutAt 7 (AC.tl 7 c4) c4 := rfl
  cases ha : heavyC a with
  | true =>
    rw [ha] at H1
    clear ec
    generalize a.row = P at *
    generalize b.row = Q at *
    simp -implicitDefEqProofs [c4]
    refine onC_mk _ (A) ?_
    simp -implicitDefEqProofs [P1, e8, P3]
    refine onC_mk _ (H1) ?_
    simp -implicitDefEqProofs
  | false =>
  rw [ha] at H1
  cases hb : heavyC b with
  | true =>
    rw [hb] at H2
    clear ec
    generalize a.row = P at *
    generalize b.row = Q at *
    simp -implicitDefEqProofs [c4]
    refine onC_mk _ (A) ?_
    simp -implicitDefEqProofs [P1, e8, P3]
    refine onC_mk _ (H1) ?_
    simp -implicitDefEqProofs [Q1, f8, Q3]
    refine onC_mk _ (H2) ?_
    simp -implicitDefEqProofs
  | false =>
  rw [hb] at H2
  have fa := heavyC_fit ha
  have fb := heavyC_fit hb
  have R1 := qright_spec a fa
  have R2 := qright_spec b fb
  cases ra : rightP a with
  | false =>
    rw [ra] at R1
    clear ec
    generalize a.row = P at *
    generalize b.row = Q at *
    simp -implicitDefEqProofs [c4]
    refine onC_mk _ (A) ?_
    simp -implicitDefEqProofs [P1, e8, P3]
    refine onC_mk _ (H1) ?_
    simp -implicitDefEqProofs [Q1, f8, Q3]
    refine onC_mk _ (H2) ?_
    simp -implicitDefEqProofs [P1, e8, P3, Q1, f8, Q3]
    refine onC_mk _ (R1) ?_
    simp -implicitDefEqProofs
  | true =>
  rw [ra] at R1
  cases rb : rightP b with
  | false =>
    rw [rb] at R2
    clear ec
    generalize a.row = P at *
    generalize b.row = Q at *
    simp -implicitDefEqProofs [c4]
    refine onC_mk _ (A) ?_
    simp -implicitDefEqProofs [P1, e8, P3]
    refine onC_mk _ (H1) ?_
    simp -implicitDefEqProofs [Q1, f8, Q3]
    refine onC_mk _ (H2) ?_
    simp -implicitDefEqProofs [P1, e8, P3, Q1, f8, Q3]
    refine onC_mk _ (R1) ?_
    simp -implicitDefEqProofs [P1, e8, P3, Q1, f8, Q3]
    refine onC_mk _ (R2) ?_
    simp -implicitDefEqProofs
  | true =>
  rw [rb] at R2
  have L1 := plan_spec a b fa fb
  have L2 := plan_spec b a fb fa
  have L3 := plan_spec a a fa fa
  rw [ra, rb] at L1 L2
  rw [ra] at L3
  simp only [Bool.and_self, if_true] at L1 L2 L3
  have la := planP_len a.gs b.gs fa.n fb.n (fun x hx => (fa.gs x hx).ru) (fun x hx => (fb.gs x hx).ru)
  have lb := planP_len b.gs a.gs fb.n fa.n (fun x hx => (fb.gs x hx).ru) (fun x hx => (fa.gs x hx).ru)
  have T := back_loop a b fa.n (fun x hx => (fa.gs x hx).ru) (right_ok ra) (right_ok rb) la lb
  have le := plan_len_eq a.gs b.gs (right_ok ra) (right_ok rb)
  have h1 : ((planQ a.gs b.gs).map trow).length = (planQ b.gs a.gs).length := by simp [le]
  have h2 : ((planQ b.gs a.gs).map trow).length = (planQ b.gs a.gs).length := by simp
  rw [planQ_row] at L1 L2 L3
  rw [ec]
  generalize AC.tl 7 c4 = TT at T ⊢
  clear ec
  generalize (planQ a.gs b.gs).map trow = U at *
  generalize (planQ b.gs a.gs).map trow = V at *
  generalize (planQ a.gs a.gs).map trow = W at *
  generalize a.row = P at *
  generalize b.row = Q at *
  simp only [c4, AC.cutAt]
  simp -implicitDefEqProofs [c4]
  refine onC_mk _ (A) ?_
  simp -implicitDefEqProofs [P1, e8, P3]
  refine onC_mk _ (H1) ?_
  simp -implicitDefEqProofs [Q1, f8, Q3]
  refine onC_mk _ (H2) ?_
  simp -implicitDefEqProofs [P1, e8, P3, Q1, f8, Q3]
  refine onC_mk _ (R1) ?_
  simp -implicitDefEqProofs [P1, e8, P3, Q1, f8, Q3]
  refine onC_mk _ (R2) ?_
  simp -implicitDefEqProofs [P1, e8, P3, Q1, f8, Q3]
  refine onC_mk _ (L1) ?_
  simp -implicitDefEqProofs [P1, e8, P3, Q1, f8, Q3]
  refine onC_mk _ (L2) ?_
  simp -implicitDefEqProofs [P1, e8, P3, Q1, f8, Q3]
  refine onC_mk _ (L3) ?_
  simp -implicitDefEqProofs [h1, h2]
  refine T _ _ Q2 ?_ ?_ ?_ ?_ <;> simp -implicitDefEqProofs
end Go.Ai
set_option linter.unusedSimpArgs false
set_option linter.unusedVariables false
namespace Go.Ai
open Go.Proofs Go.Lib
set_option maxRecDepth 100000
/-! ### The listed tables of unicode/utf8, as cells -/
def accCells : List Value := (List.range 32).map fun o => Value.int .u8 (if o % 2 = 0 then (accLo (o / 2) : Int) else (accHi (o / 2) : Int))
def firstCells : List Value := firstTab.map fun z => Value.int .u8 z
theorem gl_is : gl = [(2, firstCells), (3, accCells)] := by kernel_rfl
theorem first_cell {W : World} (h : VarReads Tryd.prog W "unicode/utf8.first" firstData) (o : Nat) (u : Value) (hu : firstCells[o]? = some u) : W.cell? ⟨2, o, none⟩ = some u ∧ u.oneCell' = true := by
  have hg0 : Tryd.prog.globalNamed "unicode/utf8.first" = some 2 := by kernel_rfl
  have ht0 : (Tryd.prog.globals[2]?).map (·.type) = some 242 := by kernel_rfl
  obtain ⟨g, t, cs, fuel, p, hg, hty, hvar, hd⟩ := h
  obtain rfl := Option.some.inj (hg0.symm.trans hg)
  obtain rfl := Option.some.inj (ht0.symm.trans hty)
  have hcs := cells_of_tab (t := 242) (e := 5) (n := 256) (by kernel_rfl) (by kernel_rfl) (by kernel_rfl) (by kernel_rfl) hd
  refine ⟨?_, ?_⟩
  · rw [World.var?_cell hg hvar o, ← Array.getElem?_toList, hcs]
    exact hu
  · obtain ⟨z, _, rfl⟩ := List.mem_map.1 (List.mem_of_getElem? hu)
    rfl
theorem acc_cell {W : World} (h : VarReads Tryd.prog W "unicode/utf8.acceptRanges" acceptData) (o : Nat) (u : Value) (hu : accCells[o]? = some u) : W.cell? ⟨3, o, none⟩ = some u ∧ u.oneCell' = true := by
  have hg0 : Tryd.prog.globalNamed "unicode/utf8.acceptRanges" = some 3 := by kernel_rfl
  have ht0 : (Tryd.prog.globals[3]?).map (·.type) = some 245 := by kernel_rfl
  have hc0 : Tryd.prog.cellsOf 244 = 2 := by kernel_rfl
  obtain ⟨g, t, cs, fuel, p, hg, hty, hvar, hd⟩ := h
  obtain rfl := Option.some.inj (hg0.symm.trans hg)
  obtain rfl := Option.some.inj (ht0.symm.trans hty)
  have ho : o < 32 := by have := (List.getElem?_eq_some_iff.1 hu).1; simpa [accCells] using this
  simp only [accCells, List.getElem?_map, List.getElem?_range ho, Option.map_some, Option.some.injEq] at hu
  subst hu
  refine ⟨?_, by split <;> rfl⟩
  have hi : o / 2 < 16 := by omega
  obtain ⟨fuel', d, q, hdi, he⟩ := array_elem (t := 245) (e := 244) (n := 16) (by kernel_rfl) hd (o / 2) hi
  simp only [List.getElem?_map, List.getElem?_range hi, Option.map_some, Option.some.injEq] at hdi
  subst hdi
  rw [hc0] at he
  obtain ⟨fs, hfs, hsz, hf⟩ : ∃ fs : Array Field, Tryd.prog.underlying 244 = some (.struct fs) ∧ fs.size = 2 ∧ ∀ (i : Nat) (f : Field), fs[i]? = some f → Tryd.prog.underlying f.type = some (.int .u8) ∧ f.offset = i ∧ Tryd.prog.cellsOf f.type = 1 := by
    refine ⟨_, (by kernel_rfl : Tryd.prog.underlying 244 = some (.struct #[Field.mk "lo" 5 0 false "" "unicode/utf8" 0, Field.mk "hi" 5 1 false "" "unicode/utf8" 1])), rfl, fun j f hj => ?_⟩
    match j, hj with
    | 0, hj => simp at hj; subst hj; exact ⟨by kernel_rfl, rfl, by kernel_rfl⟩
    | 1, hj => simp at hj; subst hj; exact ⟨by kernel_rfl, rfl, by kernel_rfl⟩
    | j + 2, hj => simp at hj
  have hcs := ints_of_struct hfs hf (by rw [hc0, hsz]) he
  have e0 := congrArg (·[0]?) hcs
  have e1 := congrArg (·[1]?) hcs
  simp only [List.getElem?_take, List.getElem?_drop] at e0 e1
  rw [World.var?_cell hg hvar o, ← Array.getElem?_toList]
  by_cases hp : o % 2 = 0
  · rw [if_pos hp]
    have eo : o / 2 * 2 + 0 = o := by omega
    rw [eo] at e0
    simpa using e0
  · rw [if_neg hp]
    have eo : o / 2 * 2 + 1 = o := by omega
    rw [eo] at e1
    simpa using e1
theorem u8_glo (W : World) (h : laidMet Tryd.prog [("unicode/utf8.acceptRanges", acceptData), ("unicode/utf8.first", firstData)] W) : ∀ i us, List.lookup i gl = some us → ∀ (o : Nat) (u : Value), us[o]? = some u → W.cell? ⟨i, o, none⟩ = some u ∧ u.oneCell' = true := by
  intro i us hi o u hu
  rw [gl_is] at hi
  simp only [List.lookup] at hi
  split at hi
  · rename_i e
    have e := eq_of_beq e
    subst e
    obtain rfl := Option.some.inj hi
    exact first_cell (laidMet.reads h (by simp)) o u hu
  · split at hi
    · rename_i e
      have e := eq_of_beq e
      subst e
      obtain rfl := Option.some.inj hi
      exact acc_cell (laidMet.reads h (by simp)) o u hu
    · cases hi
end Go.Ai
