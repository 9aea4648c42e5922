/- YtcdomokjdfmnlaaDoorP7: part of the abstract interpreter library (values, rules, soundness against the model) or of what a function of the seat computes. Conditions: as each theorem says. -/
import Derived.Test.YtcdomokjdfmnlaaDoorP6
set_option linter.unusedSimpArgs false
set_option linter.unusedVariables false
namespace Go.Ai
open Go.Proofs
theorem rF_cases (y : Gl) (n : List UInt8) : (ixN n (y.ru.map Ru.n) 0 = -1 ∧ rF (some y) n = none) ∨ ∃ j, ∃ h : j < y.ru.length, ixN n (y.ru.map Ru.n) 0 = (j : Int) ∧ rF (some y) n = some y.ru[j] := by
  rcases ixN_find Ru.n n y.ru 0 with ⟨h1, h2⟩ | ⟨j, hj, h1, h2⟩
  · exact .inl ⟨h1, h2⟩
  · exact .inr ⟨j, hj, by rw [h1]; simp, h2⟩
set_option maxRecDepth 20000 in
theorem rp_gone (A B : List AV) (x y : Gl) (L : List (List AV)) (hl : L.length ≤ 500000) (hx : x.ru.length ≤ 10) (hy : y.ru.length ≤ 10) (hL : ∀ r ∈ L, r.length = 3) (i0 : Int) (Q : AE → St → Prop) (e : List (Nat × AV)) (pm : List (Pl × Nat)) (hpm : lkP pm (.s 5) = some 3)
    (l2 : lk e 2 = .ptr (.n 2) 0) (l3 : lk e 3 = .ptr (.n 3) 0) (l5 : lk e 5 = .sl L) (l6 : lk e 6 = i6 i0) (l7 : lk e 7 = .ptr (.n 7) 0) (l10 : lk e 10 = .ptr (.n 10) 0) (l15 : lk e 15 = i6 0)
    (hQ : ∀ e', lk e' 2 = .ptr (.n 2) 0 → lk e' 3 = .ptr (.n 3) 0 → lk e' 5 = .sl (L ++ goneR x.n (some x) y.ru) → lk e' 6 = i6 i0 → Q (.x 6) ⟨e', [(.n 10, y.row), (.n 7, x.row), (.n 2, A), (.n 3, B)], [(.s 5, 3)]⟩) (hA : idsL A = []) (hB : idsL B = []) :
    wpA (SpH Tryd.prog gl) (AC.pk [1, 1, 0, 1, 0, 0, 1, 0, 0, 1, 1, 1, 1, 1, 1, 1, 1, 1, 0] c28) Q ⟨e, [(.n 10, y.row), (.n 7, x.row), (.n 2, A), (.n 3, B)], pm⟩ := by
  have hrow : x.row = [.str x.n, .int .u32 x.t, i6 x.g, i6 x.a, i6 x.o, i6 x.c, .sl (x.lb.map Lb.row), .sl (x.ru.map Ru.row)] := rfl
  have hrowy : y.row = [.str y.n, .int .u32 y.t, i6 y.g, i6 y.a, i6 y.o, i6 y.c, .sl (y.lb.map Lb.row), .sl (y.ru.map Ru.row)] := rfl
  have rl : (y.ru.map Ru.row).length = y.ru.length := by simp
  have rat : ∀ i (h : i < y.ru.length), ∀ h2, (y.ru.map Ru.row)[i]'h2 = [.str y.ru[i].n, .bool y.ru[i].p, i6 y.ru[i].l, i6 y.ru[i].s, u y.ru[i].f, i6 y.ru[i].w, i6 y.ru[i].k] := fun i h h2 => by simp [Ru.row]
  have hlim : lim = 140737488355328 := rfl
  have RS := fun n => rrule_spec x n (by omega)
  have hcs := fun n => rF_cases x n
  obtain ⟨LL, hLL⟩ : ∃ LL : Nat → List (List AV), LL = fun i => L ++ goneR x.n (some x) (y.ru.take i) := ⟨_, rfl⟩
  have s0 : L = LL 0 := by rw [hLL]; simp [goneR]
  have sN : L ++ goneR x.n (some x) y.ru = LL y.ru.length := by rw [hLL]; simp
  have s1 : ∀ i (h : i < y.ru.length), LL (i + 1) = LL i ++ if (rF (some x) y.ru[i].n).isSome = true then [] else [tn x.n y.ru[i].n 4] := fun i h => by
    simp only [hLL, goneR_snoc x.n (some x) y.ru i h, List.append_assoc]
  have s2 : ∀ i, i ≤ y.ru.length → (LL i).length ≤ L.length + i := fun i h => by
    have := goneR_len x.n (some x) (y.ru.take i)
    rw [List.length_take] at this
    simp only [hLL, List.length_append]; omega
  have s3 : ∀ i, ∀ r ∈ LL i, r.length = 3 := fun i r hr => by
    simp only [hLL, List.mem_append] at hr
    exact hr.elim (hL r) (goneR_three _ _ _ r)
  clear hLL hL
  rw [sN] at hQ
  rw [s0] at l5
  rw [hrow] at RS
  rw [hrow, hrowy] at hQ ⊢
  have hids : idsL [AV.str x.n, .int .u32 x.t, i6 x.g, i6 x.a, i6 x.o, i6 x.c, .sl (x.lb.map Lb.row), .sl (x.ru.map Ru.row)] = [] := rfl
  have hids2 : idsL [AV.str y.n, .int .u32 y.t, i6 y.g, i6 y.a, i6 y.o, i6 y.c, .sl (y.lb.map Lb.row), .sl (y.ru.map Ru.row)] = [] := rfl
  generalize x.lb.map Lb.row = LB at *
  generalize x.ru.map Ru.row = RX at *
  generalize y.lb.map Lb.row = LC at *
  generalize y.ru.map Ru.row = RU at *
  simp only [c28, AC.pk, if_true, if_false, Nat.one_ne_zero]
  refine wp_lpk (α := Nat) (fun i => ⟨[(2, .ptr (.n 2) 0), (3, .ptr (.n 3) 0), (5, .sl (LL i)), (6, i6 i0), (7, .ptr (.n 7) 0), (10, .ptr (.n 10) 0), (15, i6 i)], [(.n 10, [.str y.n, .int .u32 y.t, i6 y.g, i6 y.a, i6 y.o, i6 y.c, .sl LC, .sl RU]), (.n 7, [.str x.n, .int .u32 x.t, i6 x.g, i6 x.a, i6 x.o, i6 x.c, .sl LB, .sl RX]), (.n 2, A), (.n 3, B)], [(.s 5, 3)]⟩)
    (fun i => i ≤ y.ru.length) (fun i => y.ru.length - i) ?_ 0 ?_ ?_
  · rintro K i hK h1
    by_cases g : i < y.ru.length
    · have t1 : IntKind.i64.wrap ((i : Int) + 1) = (i + 1 : Nat) := by rw [wrap_i64] <;> omega
      have ra := rat i g
      have gR : i < RU.length := by omega
      have s1 := s1 i g
      have s3 := s3 i
      have hll : ((LL i).length + 1) * 40 ≤ 140737488355328 := by have := s2 i h1; omega
      have RS := RS y.ru[i].n
      have hcs := hcs y.ru[i].n
      have fin : ∀ σ', Weak σ' ⟨[(2, .ptr (.n 2) 0), (3, .ptr (.n 3) 0), (5, .sl (LL (i + 1))), (6, i6 i0), (7, .ptr (.n 7) 0), (10, .ptr (.n 10) 0), (15, i6 (i + 1 : Nat))], [(.n 10, [.str y.n, .int .u32 y.t, i6 y.g, i6 y.a, i6 y.o, i6 y.c, .sl LC, .sl RU]), (.n 7, [.str x.n, .int .u32 x.t, i6 x.g, i6 x.a, i6 x.o, i6 x.c, .sl LB, .sl RX]), (.n 2, A), (.n 3, B)], [(.s 5, 3)]⟩ → K σ' :=
        fun σ' hσ => hK (i + 1) σ' (by omega) (by omega) hσ
      clear hK rat hQ s2
      rw [s1] at fin
      generalize y.ru[i] = r at *
      generalize LL i = M at *
      rcases hcs with ⟨q1, q2⟩ | ⟨j, hj, q1, q2⟩
      · rw [q2] at fin
        simp only [Option.isSome_none, Bool.false_eq_true, if_false] at fin
        rw [q1] at RS
        simp -implicitDefEqProofs [g, gR, ra, rl]
        refine onC_mk _ (RS) ?_
        simp -implicitDefEqProofs [g, gR, ra, rl, hlim, hll]
        refine ⟨s3, ?_⟩
        simp -implicitDefEqProofs [t1]
        refine fin _ ?_
        refine weak_mk ?_ ?_ ?_ ?_ ?_ ?_ <;> simp -implicitDefEqProofs [t1, hA, hB, hids, hids2, tn]
      · rw [q2] at fin
        simp only [Option.isSome_some, if_true, List.append_nil] at fin
        rw [q1] at RS
        have q3 : ¬ ((j : Int) < 0) := by omega
        simp -implicitDefEqProofs [g, gR, ra, rl]
        refine onC_mk _ (RS) ?_
        simp -implicitDefEqProofs [q3, t1]
        refine fin _ ?_
        refine weak_mk ?_ ?_ ?_ ?_ ?_ ?_ <;> simp -implicitDefEqProofs [t1, hA, hB, hids, hids2]
    · obtain rfl : i = y.ru.length := by omega
      clear hK
      simp -implicitDefEqProofs [rl]
      refine hQ _ ?_ ?_ ?_ ?_ <;> simp -implicitDefEqProofs
  · exact Nat.zero_le _
  · refine weak_mk ?_ ?_ ?_ ?_ ?_ ?_ <;> simp -implicitDefEqProofs [hpm, hA, hB, hids, hids2, l2, l3, l5, l6, l7, l10, l15]
end Go.Ai
set_option linter.unusedSimpArgs false
set_option linter.unusedVariables false
namespace Go.Ai
open Go.Proofs
set_option maxRecDepth 20000 in
theorem rp_rules (A B : List AV) (x y : Gl) (S : Bool) (L : List (List AV)) (hl : L.length ≤ 500000) (hx : x.ru.length ≤ 10) (hy : y.ru.length ≤ 10) (hL : ∀ r ∈ L, r.length = 3) (i0 : Int) (Q : AE → St → Prop) (e : List (Nat × AV)) (pm : List (Pl × Nat)) (hpm : lkP pm (.s 5) = some 3)
    (l2 : lk e 2 = .ptr (.n 2) 0) (l3 : lk e 3 = .ptr (.n 3) 0) (l5 : lk e 5 = .sl L) (l6 : lk e 6 = i6 i0) (l7 : lk e 7 = .ptr (.n 7) 0) (l10 : lk e 10 = .ptr (.n 10) 0) (l11 : lk e 11 = i6 (if S = true then 2 else 3)) (l12 : lk e 12 = i6 0)
    (hQ : ∀ e', lk e' 2 = .ptr (.n 2) 0 → lk e' 3 = .ptr (.n 3) 0 → lk e' 5 = .sl (L ++ x.ru.map (ruT x y S)) → lk e' 6 = i6 i0 → lk e' 7 = .ptr (.n 7) 0 → lk e' 10 = .ptr (.n 10) 0 → Q (.x 4) ⟨e', [(.n 10, y.row), (.n 7, x.row), (.n 2, A), (.n 3, B)], [(.s 5, 3)]⟩) (hA : idsL A = []) (hB : idsL B = []) :
    wpA (SpH Tryd.prog gl) (AC.pk [1, 1, 0, 1, 0, 0, 1, 0, 0, 1, 1, 1, 1, 1, 1, 1, 0, 1, 0] c28) Q ⟨e, [(.n 10, y.row), (.n 7, x.row), (.n 2, A), (.n 3, B)], pm⟩ := by
  have hrow : x.row = [.str x.n, .int .u32 x.t, i6 x.g, i6 x.a, i6 x.o, i6 x.c, .sl (x.lb.map Lb.row), .sl (x.ru.map Ru.row)] := rfl
  have hrowy : y.row = [.str y.n, .int .u32 y.t, i6 y.g, i6 y.a, i6 y.o, i6 y.c, .sl (y.lb.map Lb.row), .sl (y.ru.map Ru.row)] := rfl
  have rl : (x.ru.map Ru.row).length = x.ru.length := by simp
  have ryl : (y.ru.map Ru.row).length = y.ru.length := by simp
  have rat : ∀ i (h : i < x.ru.length), ∀ h2, (x.ru.map Ru.row)[i]'h2 = [.str x.ru[i].n, .bool x.ru[i].p, i6 x.ru[i].l, i6 x.ru[i].s, u x.ru[i].f, i6 x.ru[i].w, i6 x.ru[i].k] := fun i h h2 => by simp [Ru.row]
  have ryt : ∀ i (h : i < y.ru.length), ∀ h2, (y.ru.map Ru.row)[i]'h2 = y.ru[i].row := fun i h h2 => by simp
  have hlim : lim = 140737488355328 := rfl
  have RS := fun n => rrule_spec y n (by omega)
  have hcs := fun n => rF_cases y n
  obtain ⟨LL, hLL⟩ : ∃ LL : Nat → List (List AV), LL = fun i => L ++ (x.ru.take i).map (ruT x y S) := ⟨_, rfl⟩
  have s0 : L = LL 0 := by rw [hLL]; simp
  have sN : L ++ x.ru.map (ruT x y S) = LL x.ru.length := by rw [hLL]; simp
  have s1 : ∀ i (h : i < x.ru.length), LL (i + 1) = LL i ++ [tn x.n x.ru[i].n (kindP (rF (some y) x.ru[i].n).isSome (S && decide ((rF (some y) x.ru[i].n).getD Ru.zero = x.ru[i])))] := fun i h => by
    simp only [hLL, List.take_succ_eq_append_getElem h, List.map_append, List.append_assoc, List.map_cons, List.map_nil]; rfl
  have s2 : ∀ i, i ≤ x.ru.length → (LL i).length ≤ L.length + i := fun i h => by
    simp only [hLL, List.length_append, List.length_map, List.length_take]; omega
  have s3 : ∀ i, ∀ r ∈ LL i, r.length = 3 := fun i r hr => by
    simp only [hLL, List.mem_append, List.mem_map] at hr
    rcases hr with h | ⟨z, _, h⟩
    · exact hL r h
    · subst h; rfl
  clear hLL hL
  rw [sN] at hQ
  rw [s0] at l5
  rw [hrowy] at RS
  rw [hrow, hrowy] at hQ ⊢
  have hids : idsL [AV.str x.n, .int .u32 x.t, i6 x.g, i6 x.a, i6 x.o, i6 x.c, .sl (x.lb.map Lb.row), .sl (x.ru.map Ru.row)] = [] := rfl
  have hids2 : idsL [AV.str y.n, .int .u32 y.t, i6 y.g, i6 y.a, i6 y.o, i6 y.c, .sl (y.lb.map Lb.row), .sl (y.ru.map Ru.row)] = [] := rfl
  generalize x.lb.map Lb.row = LB at *
  generalize x.ru.map Ru.row = RU at *
  generalize y.lb.map Lb.row = LC at *
  generalize y.ru.map Ru.row = RY at *
  obtain ⟨kk, hkk⟩ : ∃ kk : Int, kk = (if S = true then 2 else 3) := ⟨_, rfl⟩
  rw [← hkk] at l11
  simp only [c28, AC.pk, if_true, if_false, Nat.one_ne_zero]
  refine wp_lpk (α := Nat) (fun i => ⟨[(2, .ptr (.n 2) 0), (3, .ptr (.n 3) 0), (5, .sl (LL i)), (6, i6 i0), (7, .ptr (.n 7) 0), (10, .ptr (.n 10) 0), (11, i6 kk), (12, i6 i)], [(.n 10, [.str y.n, .int .u32 y.t, i6 y.g, i6 y.a, i6 y.o, i6 y.c, .sl LC, .sl RY]), (.n 7, [.str x.n, .int .u32 x.t, i6 x.g, i6 x.a, i6 x.o, i6 x.c, .sl LB, .sl RU]), (.n 2, A), (.n 3, B)], [(.s 5, 3)]⟩)
    (fun i => i ≤ x.ru.length) (fun i => x.ru.length - i) ?_ 0 ?_ ?_
  · rintro K i hK h1
    by_cases g : i < x.ru.length
    · have t1 : IntKind.i64.wrap ((i : Int) + 1) = (i + 1 : Nat) := by rw [wrap_i64] <;> omega
      have ra := rat i g
      have gR : i < RU.length := by omega
      have s1 := s1 i g
      have s3 := s3 i
      have hll : ((LL i).length + 1) * 40 ≤ 140737488355328 := by have := s2 i h1; omega
      have RS := RS x.ru[i].n
      have hcs := hcs x.ru[i].n
      have er : x.ru[i].row = [.str x.ru[i].n, .bool x.ru[i].p, i6 x.ru[i].l, i6 x.ru[i].s, u x.ru[i].f, i6 x.ru[i].w, i6 x.ru[i].k] := rfl
      have fin : ∀ σ', Weak σ' ⟨[(2, .ptr (.n 2) 0), (3, .ptr (.n 3) 0), (5, .sl (LL (i + 1))), (6, i6 i0), (7, .ptr (.n 7) 0), (10, .ptr (.n 10) 0), (11, i6 kk), (12, i6 (i + 1 : Nat))], [(.n 10, [.str y.n, .int .u32 y.t, i6 y.g, i6 y.a, i6 y.o, i6 y.c, .sl LC, .sl RY]), (.n 7, [.str x.n, .int .u32 x.t, i6 x.g, i6 x.a, i6 x.o, i6 x.c, .sl LB, .sl RU]), (.n 2, A), (.n 3, B)], [(.s 5, 3)]⟩ → K σ' :=
        fun σ' hσ => hK (i + 1) σ' (by omega) (by omega) hσ
      clear hK rat hQ s2
      rw [s1] at fin
      rcases hcs with ⟨q1, q2⟩ | ⟨j, hj, q1, q2⟩
      · rw [q2] at fin
        simp only [Option.isSome_none, kindP, Bool.false_eq_true, if_false] at fin
        rw [q1] at RS
        clear er
        generalize x.ru[i] = r at *
        generalize LL i = M at *
        simp -implicitDefEqProofs [g, gR, ra, rl]
        refine onC_mk _ (RS) ?_
        simp -implicitDefEqProofs [g, gR, ra, rl, hlim, hll]
        refine ⟨s3, ?_⟩
        simp -implicitDefEqProofs [t1]
        refine fin _ ?_
        refine weak_mk ?_ ?_ ?_ ?_ ?_ ?_ <;> simp -implicitDefEqProofs [t1, hA, hB, hids, hids2, tn]
      · rw [q2] at fin
        simp only [Option.isSome_some, Option.getD_some] at fin
        rw [q1] at RS
        have hq := ru_eq y.ru[j] x.ru[i]
        rw [er] at hq
        have rj := ryt j hj
        have gj : j < RY.length := by omega
        have j1 : (y.ru[j].row).length = 7 := rfl
        have q3 : ¬ ((j : Int) < 0) := by omega
        clear er ryt
        generalize decide (y.ru[j] = x.ru[i]) = w at *
        generalize y.ru[j].row = q at *
        generalize x.ru[i] = r at *
        generalize LL i = M at *
        have e7 : List.take 7 q = q := List.take_of_length_le (by omega)
        cases S
        · simp only [Bool.false_eq_true, if_false] at hkk
          simp only [Bool.false_and, kindP, if_true, Bool.false_eq_true, if_false] at fin
          subst hkk
          simp -implicitDefEqProofs [g, gR, ra, rl]
          refine onC_mk _ (RS) ?_
          simp -implicitDefEqProofs [g, gR, ra, rl, q3, hlim, hll]
          refine ⟨s3, ?_⟩
          simp -implicitDefEqProofs [t1]
          refine fin _ ?_
          refine weak_mk ?_ ?_ ?_ ?_ ?_ ?_ <;> simp -implicitDefEqProofs [t1, hA, hB, hids, hids2, tn]
        · simp only [if_true] at hkk
          simp only [Bool.true_and] at fin
          subst hkk
          cases w
          · simp only [kindP, if_true, Bool.false_eq_true, if_false] at fin
            simp -implicitDefEqProofs [g, gR, ra, rl]
            refine onC_mk _ (RS) ?_
            simp -implicitDefEqProofs [g, gR, ra, rl, q3, gj, rj, j1, e7, hq, ryl, hj, hlim, hll]
            refine ⟨s3, ?_⟩
            simp -implicitDefEqProofs [t1]
            refine fin _ ?_
            refine weak_mk ?_ ?_ ?_ ?_ ?_ ?_ <;> simp -implicitDefEqProofs [t1, hA, hB, hids, hids2, tn]
          · simp only [kindP, if_true] at fin
            simp -implicitDefEqProofs [g, gR, ra, rl]
            refine onC_mk _ (RS) ?_
            simp -implicitDefEqProofs [g, gR, ra, rl, q3, gj, rj, j1, e7, hq, ryl, hj, hlim, hll]
            refine ⟨s3, ?_⟩
            simp -implicitDefEqProofs [t1]
            refine fin _ ?_
            refine weak_mk ?_ ?_ ?_ ?_ ?_ ?_ <;> simp -implicitDefEqProofs [t1, hA, hB, hids, hids2, tn]
    · obtain rfl : i = x.ru.length := by omega
      clear hK
      simp -implicitDefEqProofs [rl]
      refine hQ _ ?_ ?_ ?_ ?_ ?_ ?_ <;> simp -implicitDefEqProofs
  · exact Nat.zero_le _
  · refine weak_mk ?_ ?_ ?_ ?_ ?_ ?_ <;> simp -implicitDefEqProofs [hpm, hA, hB, hids, hids2, l2, l3, l5, l6, l7, l10, l11, l12]
end Go.Ai
set_option linter.unusedSimpArgs false
set_option linter.unusedVariables false
namespace Go.Ai
open Go.Proofs
theorem goneR_none (nm : List UInt8) (l : List Ru) : goneR nm none l = allT nm 4 l := by
  unfold goneR allT
  induction l with
  | nil => rfl
  | cons r l ih =>
    simp only [List.flatMap_cons, List.map_cons, ih]
    simp [rF, ruOf]
theorem oldT_eq (b : List Gl) (x : Gl) : oldT b x = if (gF b x.n).isSome = true then [] else [tn x.n [] 4] ++ allT x.n 4 x.ru := by
  unfold oldT; rw [goneR_none]
theorem newT_none (a : List Gl) (x : Gl) (h : gF a x.n = none) : newT a x = [tn x.n [] 1] ++ allT x.n 1 x.ru := by
  unfold newT goalT wasG
  rw [h]
  simp [kindP, goneR, Gl.zero, ruT, allT, rF, ruOf]
theorem newT_some (a : List Gl) (x y : Gl) (h : gF a x.n = some y) : newT a x = [tn x.n [] (kindP true (stP y x))] ++ x.ru.map (ruT x y (stP y x)) ++ goneR x.n (some x) y.ru := by
  have hn : y.n = x.n := by
    have := List.find?_some h
    simpa using this
  unfold newT goalT wasG
  rw [h]
  simp only [Option.getD_some, Option.isSome_some, Bool.true_and, hn]
set_option maxRecDepth 20000 in
theorem rplan_tail (a b : Cf) (ha : a.gs.length ≤ 100) (hb : b.gs.length ≤ 100) (hra : ∀ x ∈ a.gs, x.ru.length ≤ 10) (L : List (List AV)) (hl : L.length ≤ 5000) (hL : ∀ r ∈ L, r.length = 3)
    (e : List (Nat × AV)) (l2 : lk e 2 = .ptr (.n 2) 0) (l3 : lk e 3 = .ptr (.n 3) 0) (l5 : lk e 5 = .sl L) :
    wpA (SpH Tryd.prog gl) (AC.tl 3 c28) (postA [.t 4] (.sl (L ++ a.gs.flatMap (oldT b.gs))))
      ⟨e, [(.n 2, a.row), (.n 3, b.row)], [(.s 5, 3)]⟩ := by
  have exa : a.row = [.sl (a.gs.map Gl.row), i6 a.r, i6 a.v, i6 a.i, i6 a.x, i6 a.y] := rfl
  have rat : ∀ i (h : i < a.gs.length), ∀ h2, (a.gs.map Gl.row)[i]'h2 = [.str a.gs[i].n, .int .u32 a.gs[i].t, i6 a.gs[i].g, i6 a.gs[i].a, i6 a.gs[i].o, i6 a.gs[i].c, .sl (a.gs[i].lb.map Lb.row), .sl (a.gs[i].ru.map Ru.row)] := fun i h h2 => by simp [Gl.row]
  have rl : (a.gs.map Gl.row).length = a.gs.length := by simp
  have hlim : lim = 140737488355328 := rfl
  have P1 : b.row.length = 6 := rfl
  have P2 : idsL b.row = [] := rfl
  have P4 : shutL b.row = some b.row := rfl
  have hw := fun n => rgoal_spec b n (by omega)
  have hcs := fun n => ixN_find Gl.n n b.gs 0
  obtain ⟨LL, hLL⟩ : ∃ LL : Nat → List (List AV), LL = fun i => L ++ (a.gs.take i).flatMap (oldT b.gs) := ⟨_, rfl⟩
  have s0 : L = LL 0 := by rw [hLL]; simp
  have sN : L ++ a.gs.flatMap (oldT b.gs) = LL a.gs.length := by rw [hLL]; simp
  have s1 : ∀ i (h : i < a.gs.length), LL (i + 1) = LL i ++ oldT b.gs a.gs[i] := fun i h => by
    simp only [hLL, flatMap_snoc _ _ i h, List.append_assoc]
  have s2 : ∀ i, i ≤ a.gs.length → (LL i).length ≤ L.length + 11 * i := fun i h => by
    have := flatMap_len (oldT b.gs) 11 (a.gs.take i) (fun x hx => oldT_len _ _ (hra x (List.mem_of_mem_take hx)))
    rw [List.length_take, Nat.min_eq_left h] at this
    simp only [hLL, List.length_append]
    omega
  have s3 : ∀ i, ∀ r ∈ LL i, r.length = 3 := fun i r hr => by
    simp only [hLL, List.mem_append, List.mem_flatMap] at hr
    rcases hr with h | ⟨z, _, h⟩
    · exact hL r h
    · exact oldT_three _ _ r h
  clear hLL hL
  rw [sN, exa]
  rw [s0] at l5
  generalize b.row = P at *
  have hids : idsL [AV.sl (a.gs.map Gl.row), i6 a.r, i6 a.v, i6 a.i, i6 a.x, i6 a.y] = [] := rfl
  generalize a.gs.map Gl.row = RU at *
  have e8 : List.take 6 P = P := List.take_of_length_le (by omega)
  simp only [c28, AC.tl]
  simp -implicitDefEqProofs [l2, l3, l5, rl]
  refine wp_lpk (α := Nat) (fun i => ⟨[(2, .ptr (.n 2) 0), (3, .ptr (.n 3) 0), (5, .sl (LL i)), (16, i6 i)], [(.n 2, [.sl RU, i6 a.r, i6 a.v, i6 a.i, i6 a.x, i6 a.y]), (.n 3, P)], [(.s 5, 3)]⟩)
    (fun i => i ≤ a.gs.length) (fun i => a.gs.length - i) ?_ 0 ?_ ?_
  · rintro K i hK h1
    by_cases g : i < a.gs.length
    · have t1 : IntKind.i64.wrap ((i : Int) + 1) = (i + 1 : Nat) := by rw [wrap_i64] <;> omega
      have ra := rat i g
      have gR : i < RU.length := by omega
      have hw := hw a.gs[i].n
      have hcs := hcs a.gs[i].n
      have s1 := s1 i g
      have s3 := s3 i
      have hlen := s2 i h1
      have hru := hra a.gs[i] (List.getElem_mem _)
      have hll : ((LL i).length + 1) * 40 ≤ 140737488355328 := by omega
      have fin : ∀ σ', Weak σ' ⟨[(2, .ptr (.n 2) 0), (3, .ptr (.n 3) 0), (5, .sl (LL (i + 1))), (16, i6 (i + 1 : Nat))], [(.n 2, [.sl RU, i6 a.r, i6 a.v, i6 a.i, i6 a.x, i6 a.y]), (.n 3, P)], [(.s 5, 3)]⟩ → K σ' :=
        fun σ' hσ => hK (i + 1) σ' (by omega) (by omega) hσ
      clear hK rat
      rw [s1, oldT_eq] at fin
      generalize a.gs[i] = x at *
      generalize LL i = M at *
      rcases hcs with ⟨q1, q2⟩ | ⟨j, hj, q1, q2⟩
      · rw [show gF b.gs x.n = none from q2] at fin
        simp only [Option.isSome_none, Bool.false_eq_true, if_false] at fin
        rw [q1] at hw
        simp -implicitDefEqProofs [g, gR, ra, rl, P1, P4, e8]
        refine onC_mk _ (hw) ?_
        simp -implicitDefEqProofs [hlim, hll]
        refine ⟨s3, ?_⟩
        refine rp_old _ _ x (M ++ [tn x.n [] 4]) ?_ hru ?_ i _ _ _ ?_ ?_ ?_ ?_ ?_ ?_ ?_ ?_ hids P2
        · simp only [List.length_append, List.length_singleton]; omega
        · intro r hr
          rcases List.mem_append.1 hr with h | h
          · exact s3 r h
          · simp only [List.mem_singleton] at h; subst h; rfl
        iterate 7 (· simp -implicitDefEqProofs [tn])
        intro e' m2 m3 m5 m6
        simp -implicitDefEqProofs [m2, m3, m5, m6, t1]
        refine fin _ ?_
        refine weak_mk ?_ ?_ ?_ ?_ ?_ ?_ <;> simp -implicitDefEqProofs [t1, P2, hids, m2, m3, m5, m6, tn]
      · rw [show gF b.gs x.n = some b.gs[j] from q2] at fin
        simp only [Option.isSome_some, if_true, List.append_nil] at fin
        rw [q1] at hw
        have q3 : (0 : Int) ≤ (j : Int) := by omega
        simp -implicitDefEqProofs [g, gR, ra, rl, P1, P4, e8]
        refine onC_mk _ (hw) ?_
        simp -implicitDefEqProofs [q3, t1]
        refine fin _ ?_
        refine weak_mk ?_ ?_ ?_ ?_ ?_ ?_ <;> simp -implicitDefEqProofs [t1, P2, hids]
    · obtain rfl : i = a.gs.length := by omega
      clear hK
      simp -implicitDefEqProofs [rl]
  · exact Nat.zero_le _
  · refine weak_mk ?_ ?_ ?_ ?_ ?_ ?_ <;> simp -implicitDefEqProofs [P2, hids, l2, l3, l5]
end Go.Ai
set_option linter.unusedSimpArgs false
set_option linter.unusedVariables false
namespace Go.Ai
open Go.Proofs
/-! ### The turns, as triples -/
abbrev Tr := List UInt8 × List UInt8 × Int
def trow (t : Tr) : List AV := tn t.1 t.2.1 t.2.2
def goneQ (nm : List UInt8) (o : Option Gl) (l : List Ru) : List Tr := l.flatMap fun r => if (rF o r.n).isSome = true then [] else [(nm, r.n, 4)]
def ruTr (x y : Gl) (S : Bool) (r : Ru) : Tr := (x.n, r.n, kindP (rF (some y) r.n).isSome (S && decide ((rF (some y) r.n).getD Ru.zero = r)))
def goalTr (x y : Gl) (had : Bool) : List Tr := [(x.n, [], kindP had (had && stP y x))] ++ x.ru.map (ruTr x y (had && stP y x)) ++ goneQ y.n (some x) y.ru
def newQ (a : List Gl) (x : Gl) : List Tr := goalTr x (wasG a x.n) (gF a x.n).isSome
def oldQ (b : List Gl) (x : Gl) : List Tr := if (gF b x.n).isSome = true then [] else [(x.n, [], 4)] ++ goneQ x.n none x.ru
def planQ (a b : List Gl) : List Tr := b.flatMap (newQ a) ++ a.flatMap (oldQ b)
theorem goneQ_row (nm : List UInt8) (o : Option Gl) (l : List Ru) : goneR nm o l = (goneQ nm o l).map trow := by
  unfold goneR goneQ
  rw [List.map_flatMap]
  congr 1; funext r
  split <;> simp [trow]
theorem goalTr_row (x y : Gl) (had : Bool) : goalT x y had = (goalTr x y had).map trow := by
  unfold goalT goalTr
  rw [goneQ_row]
  simp only [List.map_append, List.map_cons, List.map_nil, List.map_map]
  rfl
theorem planQ_row (a b : List Gl) : planP a b = (planQ a b).map trow := by
  unfold planP planQ
  rw [List.map_append, List.map_flatMap, List.map_flatMap]
  congr 1
  · congr 1; funext x; exact goalTr_row _ _ _
  · congr 1; funext x
    unfold oldT oldQ
    rw [goneQ_row]
    split <;> simp [trow]
/-- Two turns of unlike names. -/
def Apart (s t : Tr) : Prop := ¬ (s.1 = t.1 ∧ s.2.1 = t.2.1)
theorem find_key (g r : List UInt8) : ∀ (l : List Tr), l.Pairwise Apart → ∀ t ∈ l, t.1 = g → t.2.1 = r → l.find? (fun s => s.1 == g && s.2.1 == r) = some t
  | [], _, t, ht, _, _ => by simp at ht
  | s :: l, hp, t, ht, h1, h2 => by
    simp only [List.pairwise_cons] at hp
    rw [List.find?_cons]
    rcases List.mem_cons.1 ht with e | ht
    · subst e; simp [h1, h2]
    · have := hp.1 t ht
      have hb : (s.1 == g && s.2.1 == r) = false := by
        rw [Bool.eq_false_iff]
        intro hh
        simp only [Bool.and_eq_true, beq_iff_eq] at hh
        exact this ⟨by rw [hh.1, h1], by rw [hh.2, h2]⟩
      rw [hb]
      exact find_key g r l hp.2 t ht h1 h2
/-- What a right goal's names are. -/
structure NmOk (x : Gl) : Prop where
  ne : ∀ r ∈ x.ru, r.n ≠ []
  nd : (x.ru.map Ru.n).Nodup
theorem rF_none {x : Gl} {n : List UInt8} (h : (rF (some x) n).isSome = false) : ∀ r ∈ x.ru, r.n ≠ n := by
  intro r hr e
  have : (rF (some x) n).isSome = true := by
    unfold rF ruOf
    rw [List.find?_isSome]
    exact ⟨r, hr, by simp [e]⟩
  rw [h] at this; cases this
theorem nd_pair {l : List Ru} (h : (l.map Ru.n).Nodup) : l.Pairwise fun r s => r.n ≠ s.n := by
  rw [List.Nodup, List.pairwise_map] at h; exact h
theorem goneQ_apart (nm : List UInt8) (o : Option Gl) (l : List Ru) (h : (l.map Ru.n).Nodup) : (goneQ nm o l).Pairwise Apart := by
  unfold goneQ
  rw [List.pairwise_flatMap]
  refine ⟨fun r _ => by split <;> simp, ?_⟩
  refine (nd_pair h).imp ?_
  intro r s hrs t ht u hu
  split at ht <;> simp at ht
  split at hu <;> simp at hu
  subst ht; subst hu
  rintro ⟨_, h2⟩
  exact hrs h2
theorem goneQ_mem {nm : List UInt8} {o : Option Gl} {l : List Ru} {t : Tr} (h : t ∈ goneQ nm o l) : t.1 = nm ∧ ∃ r ∈ l, t.2.1 = r.n ∧ (rF o r.n).isSome = false := by
  unfold goneQ at h
  obtain ⟨r, hr, ht⟩ := List.mem_flatMap.1 h
  split at ht
  · simp at ht
  · rename_i hn
    simp only [List.mem_singleton] at ht
    subst ht
    exact ⟨rfl, r, hr, rfl, by simpa using hn⟩
theorem goalTr_apart (x y : Gl) (had : Bool) (hx : NmOk x) (hy : NmOk y) : (goalTr x y had).Pairwise Apart := by
  unfold goalTr
  rw [List.pairwise_append, List.pairwise_append]
  refine ⟨⟨by simp, ?_, ?_⟩, goneQ_apart _ _ _ hy.nd, ?_⟩
  · rw [List.pairwise_map]
    exact (nd_pair hx.nd).imp fun h ⟨_, h2⟩ => h h2
  · intro s hs t ht
    simp only [List.mem_singleton] at hs
    obtain ⟨r, hr, rfl⟩ := List.mem_map.1 ht
    subst hs
    rintro ⟨_, h2⟩
    exact hx.ne r hr h2.symm
  · intro s hs t ht
    obtain ⟨h1, r, hr, h2, h3⟩ := goneQ_mem ht
    rcases List.mem_append.1 hs with hs | hs
    · simp only [List.mem_singleton] at hs
      subst hs
      rintro ⟨_, e⟩
      exact hy.ne r hr (by rw [← h2]; exact e.symm)
    · obtain ⟨q, hq, rfl⟩ := List.mem_map.1 hs
      rintro ⟨_, e⟩
      exact rF_none h3 q hq (by rw [← h2]; exact e)
theorem wasG_name {a : List Gl} {n : List UInt8} (h : (gF a n).isSome = true) : (wasG a n).n = n ∧ wasG a n ∈ a := by
  unfold wasG
  obtain ⟨y, hy⟩ := Option.isSome_iff_exists.1 h
  rw [hy]
  unfold gF at hy
  exact ⟨by simpa using List.find?_some hy, List.mem_of_find?_eq_some hy⟩
theorem zero_ok : NmOk Gl.zero := ⟨by simp [Gl.zero], by simp [Gl.zero]⟩
theorem newQ_first {a : List Gl} {x : Gl} {t : Tr} (h : t ∈ newQ a x) : t.1 = x.n := by
  unfold newQ goalTr at h
  simp only [List.mem_append, List.mem_singleton, List.mem_map] at h
  rcases h with (h | ⟨r, _, h⟩) | h
  · subst h; rfl
  · subst h; rfl
  · cases hs : (gF a x.n).isSome with
    | true => rw [(goneQ_mem h).1, (wasG_name hs).1]
    | false =>
      obtain ⟨_, r, hr, _⟩ := goneQ_mem h
      have : wasG a x.n = Gl.zero := by
        unfold wasG
        cases hg : gF a x.n with
        | none => rfl
        | some y => rw [hg] at hs; cases hs
      rw [this] at hr
      simp [Gl.zero] at hr
theorem oldQ_first {b : List Gl} {x : Gl} {t : Tr} (h : t ∈ oldQ b x) : t.1 = x.n ∧ (gF b x.n).isSome = false := by
  unfold oldQ at h
  split at h
  · simp at h
  · rename_i hn
    refine ⟨?_, by simpa using hn⟩
    simp only [List.mem_append, List.mem_singleton] at h
    rcases h with h | h
    · subst h; rfl
    · exact (goneQ_mem h).1
structure CfOk (l : List Gl) : Prop where
  nd : (l.map Gl.n).Nodup
  ok : ∀ x ∈ l, NmOk x
theorem wasG_ok {a : List Gl} (ha : CfOk a) (n : List UInt8) : NmOk (wasG a n) := by
  cases hs : (gF a n).isSome with
  | true => exact ha.ok _ (wasG_name hs).2
  | false =>
    have : wasG a n = Gl.zero := by
      unfold wasG
      cases hg : gF a n with
      | none => rfl
      | some y => rw [hg] at hs; cases hs
    rw [this]; exact zero_ok
theorem gF_mem {l : List Gl} {x : Gl} (h : x ∈ l) : (gF l x.n).isSome = true := by
  unfold gF
  rw [List.find?_isSome]
  exact ⟨x, h, by simp⟩
theorem planQ_apart (a b : List Gl) (ha : CfOk a) (hb : CfOk b) : (planQ a b).Pairwise Apart := by
  unfold planQ
  rw [List.pairwise_append, List.pairwise_flatMap, List.pairwise_flatMap]
  have na : a.Pairwise fun x y => x.n ≠ y.n := by have := ha.nd; rw [List.Nodup, List.pairwise_map] at this; exact this
  have nb : b.Pairwise fun x y => x.n ≠ y.n := by have := hb.nd; rw [List.Nodup, List.pairwise_map] at this; exact this
  refine ⟨⟨fun x hx => goalTr_apart _ _ _ (hb.ok x hx) (wasG_ok ha _), nb.imp ?_⟩, ⟨fun x hx => ?_, na.imp ?_⟩, ?_⟩
  · intro x y hxy s hs t ht ⟨h1, _⟩
    exact hxy (by rw [← newQ_first hs, ← newQ_first ht]; exact h1)
  · unfold oldQ
    split
    · simp
    · rw [List.pairwise_append]
      refine ⟨by simp, goneQ_apart _ _ _ (ha.ok x hx).nd, ?_⟩
      intro s hs t ht
      simp only [List.mem_singleton] at hs
      subst hs
      obtain ⟨h1, r, hr, h2, _⟩ := goneQ_mem ht
      rintro ⟨_, e⟩
      exact (ha.ok x hx).ne r hr (by rw [← h2]; exact e.symm)
  · intro x y hxy s hs t ht ⟨h1, _⟩
    exact hxy (by rw [← (oldQ_first hs).1, ← (oldQ_first ht).1]; exact h1)
  · intro s hs t ht ⟨h1, _⟩
    obtain ⟨x, hx, hs⟩ := List.mem_flatMap.1 hs
    obtain ⟨y, hy, ht⟩ := List.mem_flatMap.1 ht
    have e1 := newQ_first hs
    obtain ⟨e2, e3⟩ := oldQ_first ht
    have := gF_mem hx
    rw [← e1, h1, e2, e3] at this
    cases this
end Go.Ai
set_option linter.unusedSimpArgs false
set_option linter.unusedVariables false
namespace Go.Ai
open Go.Proofs
def isT (g r : List UInt8) (t : Tr) : Bool := t.1 == g && t.2.1 == r
def findQ (l : List Tr) (g r : List UInt8) : Int := match l.find? (isT g r) with | some t => t.2.2 | none => 0
def ixT (g r : List UInt8) : List Tr → Nat → Int
  | [], _ => -1
  | t :: l, i => if isT g r t = true then (i : Int) else ixT g r l (i + 1)
theorem ixT_find (g r : List UInt8) : ∀ (l : List Tr) (i0 : Nat),
    (ixT g r l i0 = -1 ∧ l.find? (isT g r) = none) ∨ ∃ j, ∃ h : j < l.length, ixT g r l i0 = ((i0 + j : Nat) : Int) ∧ l.find? (isT g r) = some l[j]
  | [], i0 => .inl ⟨rfl, rfl⟩
  | x :: l, i0 => by
    simp only [ixT, List.find?_cons]
    cases h : isT g r x with
    | true => exact .inr ⟨0, by simp, by simp, by simp⟩
    | false =>
      rcases ixT_find g r l (i0 + 1) with ⟨h1, h2⟩ | ⟨j, hj, h1, h2⟩
      · exact .inl ⟨by simpa using h1, h2⟩
      · refine .inr ⟨j + 1, by simp; omega, ?_, ?_⟩
        · rw [if_neg (by simp), h1]; congr 1; omega
        · simpa using h2
set_option maxRecDepth 20000 in
theorem sameT_spec (l : List Tr) (hl : l.length ≤ 1000000) : Sp Tryd.prog gl 29 [.sl (l.map trow), .sl (l.map trow)] (.bool true) := by
  refine s29 rfl rfl ?_
  have rl : (l.map trow).length = l.length := by simp
  have rat : ∀ i (h : i < l.length), ∀ h2, (l.map trow)[i]'h2 = [.str l[i].1, .str l[i].2.1, i6 l[i].2.2] := fun i h h2 => by simp [trow, tn]
  generalize l.map trow = RR at *
  simp -implicitDefEqProofs [c29, rl]
  refine wp_lpk (α := Nat) (fun i => ⟨[(0, .sl RR), (1, .sl RR), (5, i6 i)], [], []⟩) (fun i => i ≤ l.length) (fun i => l.length - i) ?_ 0 ?_ ?_
  · rintro K i hK h1
    by_cases g : i < l.length
    · have t1 : IntKind.i64.wrap ((i : Int) + 1) = (i + 1 : Nat) := by rw [wrap_i64] <;> omega
      have ra := rat i g
      have gR : i < RR.length := by omega
      have fin : ∀ σ', Weak σ' ⟨[(0, .sl RR), (1, .sl RR), (5, i6 (i + 1 : Nat))], [], []⟩ → K σ' :=
        fun σ' hσ => hK (i + 1) σ' (by omega) (by omega) hσ
      clear hK rat
      generalize l[i] = x at *
      simp -implicitDefEqProofs [g, gR, ra, rl, t1, cellsEq, cellEq]
      refine fin _ ?_
      refine weak_mk ?_ ?_ ?_ ?_ ?_ ?_ <;> simp -implicitDefEqProofs [t1]
    · obtain rfl : i = l.length := by omega
      clear hK
      simp -implicitDefEqProofs [rl]
  · exact Nat.zero_le _
  · refine weak_mk ?_ ?_ ?_ ?_ ?_ ?_ <;> simp -implicitDefEqProofs
set_option maxRecDepth 20000 in
theorem rfind_spec (l : List Tr) (g r : List UInt8) (hl : l.length ≤ 1000000) : Sp Tryd.prog gl 23 [.sl (l.map trow), .str g, .str r] (i6 (findQ l g r)) := by
  refine s23 rfl rfl ?_
  have rl : (l.map trow).length = l.length := by simp
  have rat : ∀ i (h : i < l.length), ∀ h2, (l.map trow)[i]'h2 = [.str l[i].1, .str l[i].2.1, i6 l[i].2.2] := fun i h h2 => by simp [trow, tn]
  obtain ⟨R, hR⟩ : ∃ R, R = findQ l g r := ⟨_, rfl⟩
  rw [← hR]
  generalize l.map trow = RR at *
  simp -implicitDefEqProofs [c23]
  refine wp_lpk (α := Nat) (fun i => ⟨[(0, .sl RR), (1, .str g), (2, .str r), (7, i6 i)], [], []⟩) (fun i => i ≤ l.length ∧ findQ (l.drop i) g r = R) (fun i => l.length - i) ?_ 0 ?_ ?_
  · rintro K i hK ⟨h1, h2⟩
    by_cases q : i < l.length
    · have t1 : IntKind.i64.wrap ((i : Int) + 1) = (i + 1 : Nat) := by rw [wrap_i64] <;> omega
      have ra := rat i q
      have gR : i < RR.length := by omega
      rw [List.drop_eq_getElem_cons q] at h2
      unfold findQ at h2
      rw [List.find?_cons] at h2
      have fin : isT g r l[i] = false → ∀ σ', Weak σ' ⟨[(0, .sl RR), (1, .str g), (2, .str r), (7, i6 (i + 1 : Nat))], [], []⟩ → K σ' :=
        fun hg σ' hσ => hK (i + 1) σ' ⟨by omega, by rw [hg] at h2; exact h2⟩ (by omega) hσ
      clear hK hR rat
      unfold isT at fin h2
      generalize l[i] = x at *
      cases b1 : (x.1 == g)
      · have fin := fin (by rw [b1]; rfl)
        simp -implicitDefEqProofs [q, gR, ra, rl, b1, t1]
        refine fin _ ?_
        refine weak_mk ?_ ?_ ?_ ?_ ?_ ?_ <;> simp -implicitDefEqProofs [t1]
      · cases b2 : (x.2.1 == r)
        · have fin := fin (by rw [b1, b2]; rfl)
          simp -implicitDefEqProofs [q, gR, ra, rl, b1, b2, t1]
          refine fin _ ?_
          refine weak_mk ?_ ?_ ?_ ?_ ?_ ?_ <;> simp -implicitDefEqProofs [t1]
        · rw [b1, b2] at h2
          simp only [Bool.and_self] at h2
          subst h2
          simp -implicitDefEqProofs [q, gR, ra, rl, b1, b2]
    · obtain rfl : i = l.length := by omega
      rw [List.drop_length] at h2
      simp only [findQ, List.find?_nil] at h2
      subst h2
      clear hK
      simp -implicitDefEqProofs [rl]
  · exact ⟨Nat.zero_le _, hR.symm⟩
  · refine weak_mk ?_ ?_ ?_ ?_ ?_ ?_ <;> simp -implicitDefEqProofs
theorem tC_spec (t : Tr) (g r : List UInt8) (d : Nat) (c k : Id) (hc : c.isIt = false) (hd : c.isNw d = false) (hk : k.isIt = false) (hkd : k.isNw d = false) (hck : c ≠ k) :
    SpH Tryd.prog gl 67 d ⟨[.agg (trow t), .ptr c 0, .ptr k 0], [(c, [.str g]), (k, [.str r])], []⟩ ⟨.bool (isT g r t), [(c, [.str g]), (k, [.str r])], []⟩ := by
  refine h67 rfl ?_
  have hi := inn_notNw hd
  have hj := inn_notNw hkd
  have hkc : k ≠ c := fun e => hck e.symm
  unfold trow tn isT
  cases b1 : (t.1 == g)
  · simp -implicitDefEqProofs [c67, b1, hck, hkc]
    refine postH_r ⟨?_, ?_, ?_, ?_, ?_, ?_⟩ <;> simp -implicitDefEqProofs [hi, hc, hj, hk, hck, hkc]
  · simp -implicitDefEqProofs [c67, b1, hck, hkc]
    refine postH_r ⟨?_, ?_, ?_, ?_, ?_, ?_⟩ <;> simp -implicitDefEqProofs [hi, hc, hj, hk, hck, hkc]
set_option maxRecDepth 20000 in
theorem tIx_spec (l : List Tr) (g r : List UInt8) (hl : l.length ≤ 1000000) (d : Nat) (c k : Id) (hc : c.isIt = false) (hcd : c.isNw d = false) (hk : k.isIt = false) (hkd : k.isNw d = false) (hck : c ≠ k) :
    SpH Tryd.prog gl 105 d ⟨[.sl (l.map trow), .fn 67 [.ptr c 0, .ptr k 0]], [(c, [.str g]), (k, [.str r])], []⟩ ⟨i6 (ixT g r l 0), [(c, [.str g]), (k, [.str r])], []⟩ := by
  refine h105 rfl ?_
  have hic := inn_notNw hcd
  have hik := inn_notNw hkd
  have hkc : k ≠ c := fun e => hck e.symm
  have C := fun t : Tr => tC_spec t g r 16 (.up c) (.up k) hc rfl hk rfl (by simpa using hck)
  have rl : (l.map trow).length = l.length := by simp
  have rat : ∀ i (h : i < l.length), ∀ h2, (l.map trow)[i]'h2 = trow l[i] := fun i h h2 => by simp
  obtain ⟨R, hR⟩ : ∃ R, R = ixT g r l 0 := ⟨_, rfl⟩
  rw [← hR]
  generalize l.map trow = RR at *
  simp only [inSt, mpB, mpL, AV.mp, mpP]
  simp -implicitDefEqProofs [c105, rl]
  refine wp_lpk (α := Nat) (fun i => ⟨[(0, .sl RR), (1, .fn 67 [.ptr (.up c) 0, .ptr (.up k) 0]), (7, i6 l.length), (8, i6 i)], [(.up c, [.str g]), (.up k, [.str r])], []⟩) (fun i => i ≤ l.length ∧ ixT g r (l.drop i) i = R) (fun i => l.length - i) ?_ 0 ?_ ?_
  · rintro K i hK ⟨h1, h2⟩
    by_cases q : i < l.length
    · have t1 : IntKind.i64.wrap ((i : Int) + 1) = (i + 1 : Nat) := by rw [wrap_i64] <;> omega
      have ra := rat i q
      have gR : i < RR.length := by omega
      rw [List.drop_eq_getElem_cons q] at h2
      simp only [ixT] at h2
      have hrl : (trow l[i]).length = 3 := rfl
      have C := C l[i]
      have fin : isT g r l[i] = false → ∀ σ', Weak σ' ⟨[(0, .sl RR), (1, .fn 67 [.ptr (.up c) 0, .ptr (.up k) 0]), (7, i6 l.length), (8, i6 (i + 1 : Nat))], [(.up c, [.str g]), (.up k, [.str r])], []⟩ → K σ' :=
        fun hg σ' hσ => hK (i + 1) σ' ⟨by omega, by rw [hg] at h2; simpa using h2⟩ (by omega) hσ
      have hids : idsL (trow l[i]) = [] := rfl
      have hmp : ∀ f, mpL f (trow l[i]) = trow l[i] := fun f => mpL_noids hids
      clear hK hR rat
      generalize isT g r l[i] = b at *
      generalize trow l[i] = x at *
      have e8 : List.take 3 x = x := List.take_of_length_le (by omega)
      simp -implicitDefEqProofs [q, gR, ra, hrl, e8, rl]
      refine onH_mk _ _ (C) ⟨?_, ?_, ?_, ?_, ?_, ?_, ?_⟩ ?_
      iterate 7 (· simp -implicitDefEqProofs [hids, hmp, hck, hkc])
      cases b
      · have fin := fin rfl
        simp -implicitDefEqProofs [t1, hck, hkc]
        refine fin _ ?_
        refine weak_mk ?_ ?_ ?_ ?_ ?_ ?_ <;> simp -implicitDefEqProofs [t1, hck, hkc]
      · simp only [if_true] at h2
        subst h2
        simp -implicitDefEqProofs [hck, hkc]
        refine postH_r ⟨?_, ?_, ?_, ?_, ?_, ?_⟩ <;> simp -implicitDefEqProofs [hic, hc, hik, hk, hck, hkc]
    · obtain rfl : i = l.length := by omega
      rw [List.drop_length] at h2
      simp only [ixT] at h2
      subst h2
      clear hK
      simp -implicitDefEqProofs
      refine postH_r ⟨?_, ?_, ?_, ?_, ?_, ?_⟩ <;> simp -implicitDefEqProofs [hic, hc, hik, hk, hck, hkc]
  · exact ⟨Nat.zero_le _, hR.symm⟩
  · refine weak_mk ?_ ?_ ?_ ?_ ?_ ?_ <;> simp -implicitDefEqProofs [hck, hkc]
theorem tFd_spec (l : List Tr) (g r : List UInt8) (hl : l.length ≤ 1000000) (d : Nat) (c k : Id) (hc : c.isIt = false) (hcd : c.isNw d = false) (hk : k.isIt = false) (hkd : k.isNw d = false) (hck : c ≠ k) :
    SpH Tryd.prog gl 66 d ⟨[.sl (l.map trow), .fn 67 [.ptr c 0, .ptr k 0]], [(c, [.str g]), (k, [.str r])], []⟩ ⟨i6 (ixT g r l 0), [(c, [.str g]), (k, [.str r])], []⟩ := by
  refine h66 rfl ?_
  have hic := inn_notNw hcd
  have hik := inn_notNw hkd
  have hkc : k ≠ c := fun e => hck e.symm
  have Q := tIx_spec l g r hl 7 (.up c) (.up k) hc rfl hk rfl (by simpa using hck)
  generalize l.map trow = RR at *
  generalize ixT g r l 0 = R at *
  simp only [inSt, mpB, mpL, AV.mp, mpP]
  simp -implicitDefEqProofs [c66]
  refine onH_mk _ _ (Q) ⟨?_, ?_, ?_, ?_, ?_, ?_, ?_⟩ ?_
  iterate 7 (· simp -implicitDefEqProofs [hck, hkc])
  simp -implicitDefEqProofs [hck, hkc]
  refine postH_r ⟨?_, ?_, ?_, ?_, ?_, ?_⟩ <;> simp -implicitDefEqProofs [hic, hc, hik, hk, hck, hkc]
set_option maxRecDepth 20000 in
theorem find_spec (l : List Tr) (g r : List UInt8) (hl : l.length ≤ 1000000) : Sp Tryd.prog gl 30 [.sl (l.map trow), .str g, .str r] (i6 (findQ l g r)) := by
  refine s30 rfl rfl ?_
  have Q := tFd_spec l g r hl 10 (.n 4) (.n 5) rfl rfl rfl rfl (by simp)
  have rl : (l.map trow).length = l.length := by simp
  have rat : ∀ i (h : i < l.length), ∀ h2, (l.map trow)[i]'h2 = [.str l[i].1, .str l[i].2.1, i6 l[i].2.2] := fun i h h2 => by simp [trow, tn]
  unfold findQ
  rcases ixT_find g r l 0 with ⟨h1, h2⟩ | ⟨j, hj, h1, h2⟩
  · rw [h2]
    rw [h1] at Q
    generalize l.map trow = RR at *
    simp -implicitDefEqProofs [c30]
    refine onH_mk _ _ (Q) ⟨?_, ?_, ?_, ?_, ?_, ?_, ?_⟩ ?_
    iterate 7 (· simp -implicitDefEqProofs)
    simp -implicitDefEqProofs
  · rw [h2]
    rw [h1] at Q
    simp only [Nat.zero_add] at Q
    have ra := rat j hj
    have gR : j < (l.map trow).length := by simpa using hj
    have q0 : ¬ ((j : Int) < 0) := by omega
    clear rat
    generalize l[j] = x at *
    generalize l.map trow = RR at *
    simp -implicitDefEqProofs [c30]
    refine onH_mk _ _ (Q) ⟨?_, ?_, ?_, ?_, ?_, ?_, ?_⟩ ?_
    iterate 7 (· simp -implicitDefEqProofs)
    simp -implicitDefEqProofs [q0, ra, gR, rl, hj]
end Go.Ai
set_option linter.unusedSimpArgs false
set_option linter.unusedVariables false
namespace Go.Ai
open Go.Proofs
set_option maxRecDepth 20000 in
theorem rplan_spec (a b : Cf) (ha : a.gs.length ≤ 100) (hb : b.gs.length ≤ 100) (hra : ∀ x ∈ a.gs, x.ru.length ≤ 10) (hrb : ∀ x ∈ b.gs, x.ru.length ≤ 10) :
    Sp Tryd.prog gl 28 [.agg a.row, .agg b.row] (.sl (planP a.gs b.gs)) := by
  refine s28 rfl rfl ?_
  have exa : a.row = [.sl (a.gs.map Gl.row), i6 a.r, i6 a.v, i6 a.i, i6 a.x, i6 a.y] := rfl
  have exb : b.row = [.sl (b.gs.map Gl.row), i6 b.r, i6 b.v, i6 b.i, i6 b.x, i6 b.y] := rfl
  have rat : ∀ i (h : i < b.gs.length), ∀ h2, (b.gs.map Gl.row)[i]'h2 = [.str b.gs[i].n, .int .u32 b.gs[i].t, i6 b.gs[i].g, i6 b.gs[i].a, i6 b.gs[i].o, i6 b.gs[i].c, .sl (b.gs[i].lb.map Lb.row), .sl (b.gs[i].ru.map Ru.row)] := fun i h h2 => by simp [Gl.row]
  have ryt : ∀ i (h : i < a.gs.length), ∀ h2, (a.gs.map Gl.row)[i]'h2 = a.gs[i].row := fun i h h2 => by simp
  have rl : (b.gs.map Gl.row).length = b.gs.length := by simp
  have ryl : (a.gs.map Gl.row).length = a.gs.length := by simp
  have hlim : lim = 140737488355328 := rfl
  have hw := fun n => rgoal_spec a n (by omega)
  have hcs := fun n => ixN_find Gl.n n a.gs 0
  obtain ⟨LL, hLL⟩ : ∃ LL : Nat → List (List AV), LL = fun i => (b.gs.take i).flatMap (newT a.gs) := ⟨_, rfl⟩
  have s0 : LL 0 = [] := by rw [hLL]; simp
  have sN : b.gs.flatMap (newT a.gs) = LL b.gs.length := by rw [hLL]; simp
  have s1 : ∀ i (h : i < b.gs.length), LL (i + 1) = LL i ++ newT a.gs b.gs[i] := fun i h => by
    simp only [hLL, flatMap_snoc _ _ i h]
  have s2 : ∀ i, i ≤ b.gs.length → (LL i).length ≤ 21 * i := fun i h => by
    have := flatMap_len (newT a.gs) 21 (b.gs.take i) (fun x hx => goalT_len _ _ _ (hrb x (List.mem_of_mem_take hx)) (wasG_len _ hra _))
    rw [List.length_take, Nat.min_eq_left h] at this
    simp only [hLL]
    omega
  have s3 : ∀ i, ∀ r ∈ LL i, r.length = 3 := fun i r hr => by
    simp only [hLL, List.mem_flatMap] at hr
    obtain ⟨z, _, h⟩ := hr
    exact goalT_three _ _ _ r h
  have T := rplan_tail a b ha hb hra (LL b.gs.length) (by have := s2 b.gs.length (Nat.le_refl _); omega) (s3 _)
  have hpp : planP a.gs b.gs = LL b.gs.length ++ a.gs.flatMap (oldT b.gs) := by unfold planP; rw [sN]
  clear hLL sN
  rw [hpp]
  have ec : c28 = AC.cutAt 3 (AC.tl 3 c28) c28 := rfl
  rw [ec]
  generalize AC.tl 3 c28 = TT at T ⊢
  generalize LL b.gs.length ++ a.gs.flatMap (oldT b.gs) = FIN at *
  rw [exa] at hw T ⊢
  rw [exb] at T ⊢
  have hids : idsL [AV.sl (a.gs.map Gl.row), i6 a.r, i6 a.v, i6 a.i, i6 a.x, i6 a.y] = [] := rfl
  have hids2 : idsL [AV.sl (b.gs.map Gl.row), i6 b.r, i6 b.v, i6 b.i, i6 b.x, i6 b.y] = [] := rfl
  generalize a.gs.map Gl.row = RA at *
  generalize b.gs.map Gl.row = RU at *
  simp only [c28, AC.cutAt]
  simp -implicitDefEqProofs [rl]
  refine wp_lpk (α := Nat) (fun i => ⟨[(2, .ptr (.n 2) 0), (3, .ptr (.n 3) 0), (5, .sl (LL i)), (6, i6 i)], [(.n 2, [.sl RA, i6 a.r, i6 a.v, i6 a.i, i6 a.x, i6 a.y]), (.n 3, [.sl RU, i6 b.r, i6 b.v, i6 b.i, i6 b.x, i6 b.y])], [(.s 5, 3)]⟩)
    (fun i => i ≤ b.gs.length) (fun i => b.gs.length - i) ?_ 0 ?_ ?_
  · rintro K i hK h1
    by_cases g : i < b.gs.length
    · have t1 : IntKind.i64.wrap ((i : Int) + 1) = (i + 1 : Nat) := by rw [wrap_i64] <;> omega
      have ra := rat i g
      have gR : i < RU.length := by omega
      have hw := hw b.gs[i].n
      have hcs := hcs b.gs[i].n
      have s1 := s1 i g
      have s3 := s3 i
      have hlen := s2 i h1
      have hru := hrb b.gs[i] (List.getElem_mem _)
      have hll : ((LL i).length + 1) * 40 ≤ 140737488355328 := by omega
      have fin : ∀ σ', Weak σ' ⟨[(2, .ptr (.n 2) 0), (3, .ptr (.n 3) 0), (5, .sl (LL (i + 1))), (6, i6 (i + 1 : Nat))], [(.n 2, [.sl RA, i6 a.r, i6 a.v, i6 a.i, i6 a.x, i6 a.y]), (.n 3, [.sl RU, i6 b.r, i6 b.v, i6 b.i, i6 b.x, i6 b.y])], [(.s 5, 3)]⟩ → K σ' :=
        fun σ' hσ => hK (i + 1) σ' (by omega) (by omega) hσ
      clear hK rat T
      rw [s1] at fin
      generalize b.gs[i] = x at *
      generalize LL i = M at *
      rcases hcs with ⟨q1, q2⟩ | ⟨j, hj, q1, q2⟩
      · rw [newT_none _ _ q2] at fin
        rw [q1] at hw
        simp -implicitDefEqProofs [g, gR, ra, rl]
        refine onC_mk _ (hw) ?_
        simp -implicitDefEqProofs [hlim, hll]
        refine ⟨s3, ?_⟩
        refine rp_new _ _ x (M ++ [tn x.n [] 1]) ?_ hru ?_ i _ _ _ ?_ ?_ ?_ ?_ ?_ ?_ ?_ ?_ hids hids2
        · simp only [List.length_append, List.length_singleton]; omega
        · intro r hr
          rcases List.mem_append.1 hr with h | h
          · exact s3 r h
          · simp only [List.mem_singleton] at h; subst h; rfl
        iterate 7 (· simp -implicitDefEqProofs [tn])
        intro e' m2 m3 m5 m6
        simp -implicitDefEqProofs [m2, m3, m5, m6, t1]
        refine fin _ ?_
        refine weak_mk ?_ ?_ ?_ ?_ ?_ ?_ <;> simp -implicitDefEqProofs [t1, hids, hids2, m2, m3, m5, m6, tn]
      · have hyr := hra a.gs[j] (List.getElem_mem _)
        have ry := ryt j hj
        have gj : j < RA.length := by omega
        have q3 : ¬ ((j : Int) < 0) := by omega
        rw [newT_some _ _ _ q2] at fin
        have ST := rstays_spec a.gs[j] x hyr hru
        rw [q1] at hw
        simp only [Nat.zero_add] at hw
        have ex : x.row = [.str x.n, .int .u32 x.t, i6 x.g, i6 x.a, i6 x.o, i6 x.c, .sl (x.lb.map Lb.row), .sl (x.ru.map Ru.row)] := rfl
        rw [ex] at ST
        have j1 : (a.gs[j].row).length = 8 := rfl
        have j2 : shutL a.gs[j].row = some a.gs[j].row := rfl
        have j3 : idsL a.gs[j].row = [] := rfl
        generalize a.gs[j] = y at *
        have e8 : List.take 8 y.row = y.row := List.take_of_length_le (by omega)
        simp -implicitDefEqProofs [g, gR, ra, rl]
        refine onC_mk _ (hw) ?_
        obtain ⟨S, hS⟩ : ∃ S, S = stP y x := ⟨_, rfl⟩
        rw [← hS] at ST fin
        have fin2 : ∀ (k : Int) (hk : k = if S = true then 2 else 3), kindP true S = k := fun k hk => by rw [hk]; simp [kindP]
        cases S
        · rw [fin2 3 rfl] at fin
          simp -implicitDefEqProofs [q3, gj, ry, ryl, hj, j1, j2, e8]
          refine onC_mk _ (ST) ?_
          simp -implicitDefEqProofs [hlim, hll]
          refine ⟨s3, ?_⟩
          refine rp_rules _ _ x y false (M ++ [tn x.n [] 3]) ?_ hru hyr ?_ i _ _ _ ?_ ?_ ?_ ?_ ?_ ?_ ?_ ?_ ?_ ?_ hids hids2
          · simp only [List.length_append, List.length_singleton]; omega
          · intro r hr
            rcases List.mem_append.1 hr with h | h
            · exact s3 r h
            · simp only [List.mem_singleton] at h; subst h; rfl
          iterate 9 (· simp -implicitDefEqProofs [tn])
          intro e' m2 m3 m5 m6 m7 m10
          simp -implicitDefEqProofs [m2, m3, m5, m6, m7, m10]
          refine rp_gone _ _ x y (M ++ [tn x.n [] 3] ++ x.ru.map (ruT x y false)) ?_ hru hyr ?_ i _ _ _ ?_ ?_ ?_ ?_ ?_ ?_ ?_ ?_ ?_ hids hids2
          · simp only [List.length_append, List.length_singleton, List.length_map]; omega
          · intro r hr
            simp only [List.mem_append, List.mem_singleton, List.mem_map] at hr
            rcases hr with (h | h) | ⟨z, _, h⟩
            · exact s3 r h
            · subst h; rfl
            · subst h; rfl
          iterate 8 (· simp -implicitDefEqProofs [m2, m3, m5, m6, m7, m10])
          intro e' n2 n3 n5 n6
          simp -implicitDefEqProofs [n2, n3, n5, n6, t1]
          refine fin _ ?_
          refine weak_mk ?_ ?_ ?_ ?_ ?_ ?_ <;> simp -implicitDefEqProofs [t1, hids, hids2, n2, n3, n5, n6, tn, List.append_assoc]
        · rw [fin2 2 rfl] at fin
          simp -implicitDefEqProofs [q3, gj, ry, ryl, hj, j1, j2, e8]
          refine onC_mk _ (ST) ?_
          simp -implicitDefEqProofs [hlim, hll]
          refine ⟨s3, ?_⟩
          refine rp_rules _ _ x y true (M ++ [tn x.n [] 2]) ?_ hru hyr ?_ i _ _ _ ?_ ?_ ?_ ?_ ?_ ?_ ?_ ?_ ?_ ?_ hids hids2
          · simp only [List.length_append, List.length_singleton]; omega
          · intro r hr
            rcases List.mem_append.1 hr with h | h
            · exact s3 r h
            · simp only [List.mem_singleton] at h; subst h; rfl
          iterate 9 (· simp -implicitDefEqProofs [tn])
          intro e' m2 m3 m5 m6 m7 m10
          simp -implicitDefEqProofs [m2, m3, m5, m6, m7, m10]
          refine rp_gone _ _ x y (M ++ [tn x.n [] 2] ++ x.ru.map (ruT x y true)) ?_ hru hyr ?_ i _ _ _ ?_ ?_ ?_ ?_ ?_ ?_ ?_ ?_ ?_ hids hids2
          · simp only [List.length_append, List.length_singleton, List.length_map]; omega
          · intro r hr
            simp only [List.mem_append, List.mem_singleton, List.mem_map] at hr
            rcases hr with (h | h) | ⟨z, _, h⟩
            · exact s3 r h
            · subst h; rfl
            · subst h; rfl
          iterate 8 (· simp -implicitDefEqProofs [m2, m3, m5, m6, m7, m10])
          intro e' n2 n3 n5 n6
          simp -implicitDefEqProofs [n2, n3, n5, n6, t1]
          refine fin _ ?_
          refine weak_mk ?_ ?_ ?_ ?_ ?_ ?_ <;> simp -implicitDefEqProofs [t1, hids, hids2, n2, n3, n5, n6, tn, List.append_assoc]
    · obtain rfl : i = b.gs.length := by omega
      clear hK
      simp -implicitDefEqProofs [rl]
      refine T _ ?_ ?_ ?_ <;> simp -implicitDefEqProofs
  · exact Nat.zero_le _
  · rw [s0]
    refine weak_mk ?_ ?_ ?_ ?_ ?_ ?_ <;> simp -implicitDefEqProofs [hids, hids2]
end Go.Ai
