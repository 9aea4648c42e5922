/- YtmbnoejneocmmaaGreatDoorP9: part of the abstract interpreter library (values, rules, soundness against the model) or of what a function of the seat computes. Conditions: as each theorem says. -/
import Derived.Test.YtmbnoejneocmmaaGreatDoorP8
set_option linter.unusedSimpArgs false
set_option linter.unusedVariables false
namespace Go.Ai
open Go.Proofs
/-! ### The windows of a goal, no program in sight -/
def ruW (l : List Ru) : List Int := l.flatMap fun r => [r.l, r.s]
def allW (x : Gl) : List Int := ruW x.ru ++ (if x.o = 0 then [] else [x.o])
def winP (x : Gl) : List Int := compactI (sortI (allW x))
theorem ruW_len (l : List Ru) : (ruW l).length = 2 * l.length := by
  induction l with
  | nil => rfl
  | cons x r ih => simp only [ruW, List.flatMap_cons, List.length_append, List.length_cons, List.length_nil] at ih ⊢; omega
theorem allW_len (x : Gl) : (allW x).length ≤ 2 * x.ru.length + 1 := by
  unfold allW
  rw [List.length_append, ruW_len]
  split <;> simp
def intRows (l : List Int) : List (List AV) := l.map fun z => [i6 z]
theorem intRows_flat (l : List Int) : (intRows l).flatten = intCells .i64 l := by
  induction l with
  | nil => rfl
  | cons x r ih => simp only [intRows, List.map_cons, List.flatten_cons] at ih ⊢; rw [ih]; rfl
theorem intRows_len (l : List Int) : (intRows l).length = l.length := by simp [intRows]
theorem intRows_one (l : List Int) : ∀ r ∈ intRows l, r.length = 1 := by
  intro r hr; simp only [intRows, List.mem_map] at hr; obtain ⟨z, _, rfl⟩ := hr; rfl
theorem intCells_ids (k : IntKind) (l : List Int) : idsL (intCells k l) = [] := by
  induction l with
  | nil => rfl
  | cons x r ih => simpa [intCells, idsL, AV.ids] using ih
theorem intCells_app (k : IntKind) (a b : List Int) : intCells k (a ++ b) = intCells k a ++ intCells k b := by simp [intCells]
/-- The state at the loop's head: what was gathered. -/
def stW (row : List AV) (RU : List (List AV)) (n i : Nat) : List Int → St
  | [] => ⟨[(1, .ptr (.n 1) 0), (3, .nils), (7, .sl RU), (8, i6 n), (9, i6 i)], [(.n 1, row)], []⟩
  | z :: r => ⟨[(1, .ptr (.n 1) 0), (3, .ms (.n 19) 0 (z :: r).length 1), (7, .sl RU), (8, i6 n), (9, i6 i)], [(.n 1, row), (.n 19, intCells .i64 (z :: r))], []⟩
theorem stW_ne {row : List AV} {RU : List (List AV)} {n i : Nat} {l : List Int} (h : l ≠ []) : stW row RU n i l = ⟨[(1, .ptr (.n 1) 0), (3, .ms (.n 19) 0 l.length 1), (7, .sl RU), (8, i6 n), (9, i6 i)], [(.n 1, row), (.n 19, intCells .i64 l)], []⟩ := by
  cases l with
  | nil => exact absurd rfl h
  | cons z r => rfl
set_option maxRecDepth 20000 in
/-- Sorted and compacted, out of what was gathered. -/
theorem win_tail (L : List Int) (hL : L.length ≤ 1000) (b : Id) (hb : b = .n 19 ∨ b = .n 28) (e : List (Nat × AV)) (row : List AV) (hrow : idsL row = []) (l3 : lk e 3 = .ms b 0 L.length 1) (bx : List (Id × List AV)) (pm : List (Pl × Nat)) (hbx : bx = [(.n 1, row), (b, intCells .i64 L)] ∨ bx = [(b, intCells .i64 L), (.n 1, row)]) :
    wpA (SpH Tryz.prog gl) (AC.tl 4 c172) (postF [.t 2] (.sl (intRows (compactI (sortI L))))) ⟨e, bx, pm⟩ := by
  have hit : b.isIt = false := by rcases hb with rfl | rfl <;> rfl
  have hnw : ∀ d, b.isNw d = false := by rcases hb with rfl | rfl <;> intro d <;> rfl
  have hn1 : b ≠ .n 1 := by rcases hb with rfl | rfl <;> decide
  have hn1' : Id.n 1 ≠ b := fun e => hn1 e.symm
  have hup : b.isUp = false := by rcases hb with rfl | rfl <;> rfl
  have S := sort_spec L (by omega) 30 b hit (hnw 30)
  have C := compact_spec (sortI L) (by rw [sortI_len]; omega) 32 b hit (hnw 32)
  rw [sortI_len] at C
  obtain ⟨W, hW⟩ : ∃ W, W = compactI (sortI L) := ⟨_, rfl⟩
  rw [← hW] at C ⊢
  rw [intCells_app] at C
  simp only [c172, AC.tl]
  have i1 := intCells_ids .i64 L
  have i2 := intCells_ids .i64 (sortI L)
  have hF : ∀ (e : List (Nat × AV)) pm, lk e 2 = .ms b 0 W.length 1 → postF [.t 2] (.sl (intRows W)) .r ⟨e, [(b, intCells .i64 W ++ intCells .i64 (List.replicate (L.length - W.length) 0)), (.n 1, row)], pm⟩ := by
    intro e pm l2
    refine .inr (.inr ⟨2, b, W.length, 1, intRows W, intCells .i64 (List.replicate (L.length - W.length) 0), ⟨l2, ?_, hup, intRows_len W, intRows_one W, ?_, ?_⟩, ?_⟩)
    · rw [intRows_flat]; simp [lkB]
    · rw [intRows_flat]; exact intCells_ids _ _
    · simp [hn1', hrow]
    · simp [frzSt]
  generalize intCells .i64 W ++ intCells .i64 (List.replicate (L.length - W.length) 0) = CW at *
  generalize intCells .i64 (sortI L) = CS at *
  generalize intCells .i64 L = CL at *
  rcases hbx with rfl | rfl
  · simp -implicitDefEqProofs [l3]
    refine onH_mk _ _ S ⟨?_, ?_, ?_, ?_, ?_, ?_, ?_⟩ ?_
    iterate 7 (· simp -implicitDefEqProofs [l3, hn1, hn1', hnw])
    simp -implicitDefEqProofs [l3, hn1, hn1']
    refine onH_mk _ _ C ⟨?_, ?_, ?_, ?_, ?_, ?_, ?_⟩ ?_
    iterate 7 (· simp -implicitDefEqProofs [l3, hn1, hn1', hnw])
    simp -implicitDefEqProofs [l3, hn1, hn1']
    refine hF _ _ ?_
    simp -implicitDefEqProofs
  · simp -implicitDefEqProofs [l3]
    refine onH_mk _ _ S ⟨?_, ?_, ?_, ?_, ?_, ?_, ?_⟩ ?_
    iterate 7 (· simp -implicitDefEqProofs [l3, hn1, hn1', hnw])
    simp -implicitDefEqProofs [l3, hn1, hn1']
    refine onH_mk _ _ C ⟨?_, ?_, ?_, ?_, ?_, ?_, ?_⟩ ?_
    iterate 7 (· simp -implicitDefEqProofs [l3, hn1, hn1', hnw])
    simp -implicitDefEqProofs [l3, hn1, hn1']
    refine hF _ _ ?_
    simp -implicitDefEqProofs
end Go.Ai
set_option linter.unusedSimpArgs false
set_option linter.unusedVariables false
namespace Go.Ai
open Go.Proofs
theorem idsL_appW (a b : List AV) : idsL (a ++ b) = idsL a ++ idsL b := by
  induction a with
  | nil => rfl
  | cons x r ih => simp only [List.cons_append, idsL, ih, List.append_assoc]
set_option maxRecDepth 20000 in
theorem win_nil (e : List (Nat × AV)) (row : List AV) (pm : List (Pl × Nat)) (l3 : lk e 3 = .nils) :
    wpA (SpH Tryz.prog gl) (AC.tl 4 c172) (postF [.t 2] (.sl [])) ⟨e, [(.n 1, row)], pm⟩ := by
  have S := Sp.h (d := 30) sortNil_spec
  have C := compactNil_spec 32
  simp only [c172, AC.tl]
  simp -implicitDefEqProofs [l3]
  refine onH_mk _ _ S ⟨?_, ?_, ?_, ?_, ?_, ?_, ?_⟩ ?_
  iterate 7 (· simp -implicitDefEqProofs [l3])
  simp -implicitDefEqProofs [l3]
  refine onH_mk _ _ C ⟨?_, ?_, ?_, ?_, ?_, ?_, ?_⟩ ?_
  iterate 7 (· simp -implicitDefEqProofs [l3])
  simp -implicitDefEqProofs [l3, postF]
theorem win_all (x : Gl) (hl : x.ru.length ≤ 10) (b : Id) (hb : b = .n 19 ∨ b = .n 28) (e : List (Nat × AV)) (bx : List (Id × List AV)) (pm : List (Pl × Nat)) (l3 : lk e 3 = .ms b 0 (allW x).length 1) (hbx : bx = [(.n 1, x.row), (b, intCells .i64 (allW x))] ∨ bx = [(b, intCells .i64 (allW x)), (.n 1, x.row)]) :
    wpA (SpH Tryz.prog gl) (AC.tl 4 c172) (postF [.t 2] (.sl (intRows (winP x)))) ⟨e, bx, pm⟩ :=
  win_tail (allW x) (by have := allW_len x; omega) b hb e x.row rfl l3 bx pm hbx
set_option maxRecDepth 20000 in
/-- The rolling window, behind the rules'. -/
theorem win_roll (x : Gl) (hl : x.ru.length ≤ 10) (e : List (Nat × AV)) (l1 : lk e 1 = .ptr (.n 1) 0)
    (h : (ruW x.ru = [] ∧ lk e 3 = .nils) ∨ (ruW x.ru ≠ [] ∧ lk e 3 = .ms (.n 19) 0 (ruW x.ru).length 1)) :
    wpA (SpH Tryz.prog gl) (AC.tl 3 c172) (postF [.t 2] (.sl (intRows (winP x)))) ⟨e, if ruW x.ru = [] then [(.n 1, x.row)] else [(.n 1, x.row), (.n 19, intCells .i64 (ruW x.ru))], []⟩ := by
  have ec : AC.tl 3 c172 = AC.cutAt 1 (AC.tl 4 c172) (AC.tl 3 c172) := rfl
  rw [ec]
  have TA := win_all x hl
  have TN := fun e pm => win_nil e x.row pm
  have hx : x.row = [.str x.n, .int .u32 x.t, i6 x.g, i6 x.a, i6 x.o, i6 x.c, .sl (x.lb.map Lb.row), .sl (x.ru.map Ru.row)] := rfl
  have hlim : lim = 140737488355328 := rfl
  have hrow : idsL x.row = [] := rfl
  have hw : allW x = ruW x.ru ++ (if x.o = 0 then [] else [x.o]) := rfl
  have hwn : x.o = 0 → ruW x.ru = [] → winP x = [] := fun h1 h2 => by
    unfold winP allW
    rw [h2, if_pos h1]
    simp [sortI, compactI, Lib.compact, Lib.compactUpTo]
  have hlen := ruW_len x.ru
  generalize AC.tl 4 c172 = T at *
  simp only [c172, AC.tl, AC.cutAt]
  rw [hx] at TA TN hrow ⊢
  generalize winP x = W at *
  generalize x.lb.map Lb.row = LB at *
  generalize x.ru.map Ru.row = RU at *
  generalize ruW x.ru = L at *
  generalize allW x = AL at *
  rcases h with ⟨h1, h3⟩ | ⟨h1, h3⟩
  · subst h1
    simp only [if_true]
    by_cases h0 : x.o = 0
    · have hW := hwn h0 rfl
      subst hW
      rw [h0] at TN ⊢
      simp -implicitDefEqProofs [l1, h3]
      refine TN _ _ ?_
      simp -implicitDefEqProofs [h3]
    · rw [if_neg h0, List.nil_append] at hw
      subst hw
      have TA := TA (.n 28) (.inr rfl)
      have hne : (x.o != 0) = true := by simpa using h0
      have ei : intCells .i64 [x.o] = [i6 x.o] := rfl
      rw [ei] at TA
      simp -implicitDefEqProofs [l1, h0, h3, hlim, hne]
      refine TA _ _ _ ?_ (.inr rfl)
      simp -implicitDefEqProofs
  · rw [if_neg h1]
    by_cases h0 : x.o = 0
    · rw [if_pos h0, List.append_nil] at hw
      subst hw
      have TA := TA (.n 19) (.inl rfl)
      rw [h0] at TA ⊢
      simp -implicitDefEqProofs [l1, h3]
      refine TA _ _ _ ?_ (.inl rfl)
      simp -implicitDefEqProofs [h3]
    · rw [if_neg h0] at hw
      subst hw
      have TA := TA (.n 28) (.inr rfl)
      rw [intCells_app, List.length_append] at TA
      have ei : intCells .i64 [x.o] = [i6 x.o] := rfl
      rw [ei] at TA
      have hcl := intCells_len .i64 L
      have hci := intCells_ids .i64 L
      have hne : (x.o != 0) = true := by simpa using h0
      have hll : (L.length + 1) * 8 ≤ 140737488355328 := by omega
      generalize intCells .i64 L = CL at *
      simp -implicitDefEqProofs [l1, h0, h3, hlim, hcl, hci, hne, hll]
      refine TA _ _ _ ?_ (.inr rfl)
      simp -implicitDefEqProofs
set_option maxRecDepth 20000 in
theorem win_spec (x : Gl) (hl : x.ru.length ≤ 10) : Sp Tryz.prog gl 172 [.agg x.row] (.sl (intRows (winP x))) := by
  refine s172 rfl rfl ?_
  have ec : c172 = AC.cutAt 3 (AC.tl 3 c172) c172 := rfl
  rw [ec]
  have T := win_roll x hl
  generalize AC.tl 3 c172 = TT at T ⊢
  have hx : x.row = [.str x.n, .int .u32 x.t, i6 x.g, i6 x.a, i6 x.o, i6 x.c, .sl (x.lb.map Lb.row), .sl (x.ru.map Ru.row)] := rfl
  have hlim : lim = 140737488355328 := rfl
  have rat : ∀ i (h : i < x.ru.length), ∀ h2, (x.ru.map Ru.row)[i]'h2 = [.str x.ru[i].n, .bool x.ru[i].p, i6 x.ru[i].l, i6 x.ru[i].s, u x.ru[i].f, i6 x.ru[i].w, i6 x.ru[i].k] := fun i h h2 => by simp [Ru.row]
  have rl : (x.ru.map Ru.row).length = x.ru.length := by simp
  generalize winP x = W at *
  rw [hx] at T ⊢
  generalize x.lb.map Lb.row = LB at *
  generalize x.ru.map Ru.row = RU at *
  generalize x.ru = ru at *
  simp only [c172, AC.cutAt]
  simp -implicitDefEqProofs [rl]
  refine wp_lpk (α := Nat × List Int) (fun z => stW [.str x.n, .int .u32 x.t, i6 x.g, i6 x.a, i6 x.o, i6 x.c, .sl LB, .sl RU] RU ru.length z.1 z.2) (fun z => z.1 ≤ ru.length ∧ z.2 = ruW (ru.take z.1)) (fun z => ru.length - z.1) ?_ (0, []) ?_ ?_
  · rintro K ⟨i, acc⟩ hK ⟨h1, h2⟩
    simp only at h1 h2
    by_cases g : i < ru.length
    · have t1 : IntKind.i64.wrap ((i : Int) + 1) = (i + 1 : Nat) := by rw [wrap_i64] <;> omega
      have ra := rat i g
      have gR : i < RU.length := by omega
      have es : ruW (ru.take (i + 1)) = acc ++ [ru[i].l, ru[i].s] := by
        rw [List.take_succ_eq_append_getElem g, h2]
        simp only [ruW, List.flatMap_append, List.flatMap_cons, List.flatMap_nil, List.append_nil]
      have fin : ∀ σ', Weak σ' (stW [.str x.n, .int .u32 x.t, i6 x.g, i6 x.a, i6 x.o, i6 x.c, .sl LB, .sl RU] RU ru.length (i + 1) (acc ++ [ru[i].l, ru[i].s])) → K σ' :=
        fun σ' hσ => hK (i + 1, acc ++ [ru[i].l, ru[i].s]) σ' ⟨by simp only; omega, es.symm⟩ (by simp only; omega) hσ
      have al : acc.length ≤ 2 * i := by
        rw [h2, ruW_len, List.length_take]; omega
      rw [stW_ne (by simp)] at fin
      rw [intCells_app, List.length_append] at fin
      have ei : intCells .i64 [ru[i].l, ru[i].s] = [i6 ru[i].l, i6 ru[i].s] := rfl
      rw [ei] at fin
      clear hK T rat h2 es
      by_cases ha : acc = []
      · subst ha
        simp only [stW]
        have e0 : intCells .i64 [] = [] := rfl
        rw [e0] at fin
        simp -implicitDefEqProofs [g, gR, ra, hlim]
        refine fin _ ?_
        refine weak_mk ?_ ?_ ?_ ?_ ?_ ?_ <;> simp -implicitDefEqProofs [t1]
      · rw [stW_ne ha]
        have hcl := intCells_len .i64 acc
        have hci := intCells_ids .i64 acc
        have hll : (acc.length + 2) * 8 ≤ 140737488355328 := by omega
        generalize intCells .i64 acc = CL at *
        have hci2 : idsL (CL ++ [i6 ru[i].l, i6 ru[i].s]) = [] := by rw [idsL_appW, hci]; rfl
        simp -implicitDefEqProofs [g, gR, ra, hlim, hcl, hci, hll]
        refine fin _ ?_
        refine weak_mk ?_ ?_ ?_ ?_ ?_ ?_ <;> simp -implicitDefEqProofs [t1, hci2]
    · obtain rfl : i = ru.length := by omega
      rw [List.take_length] at h2
      clear hK rat
      subst h2
      by_cases ha : ruW ru = []
      · have T := fun e l1 l3 => T e l1 (.inl ⟨ha, l3⟩)
        simp only [ha, if_true] at T
        rw [ha]
        simp only [stW]
        simp -implicitDefEqProofs
        refine T _ ?_ ?_ <;> simp -implicitDefEqProofs
      · have T := fun e l1 l3 => T e l1 (.inr ⟨ha, l3⟩)
        simp only [ha, if_false] at T
        rw [stW_ne ha]
        simp -implicitDefEqProofs
        refine T _ ?_ ?_ <;> simp -implicitDefEqProofs
  · exact ⟨Nat.zero_le _, by simp [ruW]⟩
  · simp only [stW]
    refine weak_mk ?_ ?_ ?_ ?_ ?_ ?_ <;> simp -implicitDefEqProofs
end Go.Ai
set_option linter.unusedSimpArgs false
set_option linter.unusedVariables false
namespace Go.Ai
open Go.Proofs
/-- Where a name stands among names; -1: nowhere. -/
def ixN (n : List UInt8) : List (List UInt8) → Nat → Int
  | [], _ => -1
  | m :: r, i => if (m == n) = true then (i : Int) else ixN n r (i + 1)
theorem goC_spec (x : Gl) (n : List UInt8) (d : Nat) (c : Id) (hc : c.isIt = false) (hd : c.isNw d = false) : SpH Tryz.prog gl 205 d ⟨[.agg x.row, .ptr c 0], [(c, [.str n])], []⟩ ⟨.bool (x.n == n), [(c, [.str n])], []⟩ := by
  refine h205 rfl ?_
  have hi := inn_notNw hd
  unfold Gl.row
  simp -implicitDefEqProofs [c205]
  refine postH_r ⟨?_, ?_, ?_, ?_, ?_, ?_⟩ <;> simp -implicitDefEqProofs [hi, hc]
set_option maxRecDepth 20000 in
theorem goIx_spec (l : List Gl) (n : List UInt8) (hl : l.length ≤ 1000000) (d : Nat) (c : Id) (hc : c.isIt = false) (hcd : c.isNw d = false) :
    SpH Tryz.prog gl 252 d ⟨[.sl (l.map Gl.row), .fn 205 [.ptr c 0]], [(c, [.str n])], []⟩ ⟨i6 (ixN n (l.map Gl.n) 0), [(c, [.str n])], []⟩ := by
  refine h252 rfl ?_
  have hic := inn_notNw hcd
  have C := fun x : Gl => goC_spec x n 16 (.up c) hc rfl
  have rl : (l.map Gl.row).length = l.length := by simp
  have rat : ∀ i (h : i < l.length), ∀ h2, (l.map Gl.row)[i]'h2 = l[i].row := fun i h h2 => by simp
  obtain ⟨R, hR⟩ : ∃ R, R = ixN n (l.map Gl.n) 0 := ⟨_, rfl⟩
  rw [← hR]
  generalize l.map Gl.row = RR at *
  simp only [inSt, mpB, mpL, AV.mp, mpP]
  simp -implicitDefEqProofs [c252, rl]
  refine wp_lpk (α := Nat) (fun i => ⟨[(0, .sl RR), (1, .fn 205 [.ptr (.up c) 0]), (7, i6 l.length), (8, i6 i)], [(.up c, [.str n])], []⟩) (fun i => i ≤ l.length ∧ ixN n ((l.drop i).map Gl.n) i = R) (fun i => l.length - i) ?_ 0 ?_ ?_
  · rintro K i hK ⟨h1, h2⟩
    by_cases g : i < l.length
    · have t1 : IntKind.i64.wrap ((i : Int) + 1) = (i + 1 : Nat) := by rw [wrap_i64] <;> omega
      have ra := rat i g
      have gR : i < RR.length := by omega
      rw [List.drop_eq_getElem_cons g, List.map_cons] at h2
      simp only [ixN] at h2
      have hrl : (l[i].row).length = 8 := rfl
      have C := C l[i]
      have fin : (l[i].n == n) = false → ∀ σ', Weak σ' ⟨[(0, .sl RR), (1, .fn 205 [.ptr (.up c) 0]), (7, i6 l.length), (8, i6 (i + 1 : Nat))], [(.up c, [.str n])], []⟩ → K σ' :=
        fun hg σ' hσ => hK (i + 1) σ' ⟨by omega, by rw [hg] at h2; simpa using h2⟩ (by omega) hσ
      have hids : idsL l[i].row = [] := rfl
      have hmp : ∀ f, mpL f l[i].row = l[i].row := fun f => mpL_noids hids
      clear hK hR rat
      generalize l[i].row = x at *
      generalize (l[i].n == n) = b at *
      have e8 : List.take 8 x = x := List.take_of_length_le (by omega)
      simp -implicitDefEqProofs [g, gR, ra, hrl, e8, rl]
      refine onH_mk _ _ (C) ⟨?_, ?_, ?_, ?_, ?_, ?_, ?_⟩ ?_
      iterate 7 (· simp -implicitDefEqProofs [hids, hmp])
      cases b
      · have fin := fin rfl
        simp -implicitDefEqProofs [t1]
        refine fin _ ?_
        refine weak_mk ?_ ?_ ?_ ?_ ?_ ?_ <;> simp -implicitDefEqProofs [t1]
      · simp only [if_true] at h2
        subst h2
        simp -implicitDefEqProofs
        refine postH_r ⟨?_, ?_, ?_, ?_, ?_, ?_⟩ <;> simp -implicitDefEqProofs [hic, hc]
    · obtain rfl : i = l.length := by omega
      rw [List.drop_length] at h2
      simp only [List.map_nil, ixN] at h2
      subst h2
      clear hK
      simp -implicitDefEqProofs
      refine postH_r ⟨?_, ?_, ?_, ?_, ?_, ?_⟩ <;> simp -implicitDefEqProofs [hic, hc]
  · exact ⟨Nat.zero_le _, hR.symm⟩
  · refine weak_mk ?_ ?_ ?_ ?_ ?_ ?_ <;> simp -implicitDefEqProofs
set_option maxRecDepth 20000 in
theorem goFd_spec (l : List Gl) (n : List UInt8) (hl : l.length ≤ 1000000) (d : Nat) (c : Id) (hc : c.isIt = false) (hcd : c.isNw d = false) :
    SpH Tryz.prog gl 204 d ⟨[.sl (l.map Gl.row), .fn 205 [.ptr c 0]], [(c, [.str n])], []⟩ ⟨i6 (ixN n (l.map Gl.n) 0), [(c, [.str n])], []⟩ := by
  refine h204 rfl ?_
  have hic := inn_notNw hcd
  have Q := goIx_spec l n hl 7 (.up c) hc rfl
  generalize l.map Gl.row = RR at *
  generalize ixN n (l.map Gl.n) 0 = R at *
  simp only [inSt, mpB, mpL, AV.mp, mpP]
  simp -implicitDefEqProofs [c204]
  refine onH_mk _ _ (Q) ⟨?_, ?_, ?_, ?_, ?_, ?_, ?_⟩ ?_
  iterate 7 (· simp -implicitDefEqProofs)
  simp -implicitDefEqProofs
  refine postH_r ⟨?_, ?_, ?_, ?_, ?_, ?_⟩ <;> simp -implicitDefEqProofs [hic, hc]
theorem ruC_spec (x : Ru) (n : List UInt8) (d : Nat) (c : Id) (hc : c.isIt = false) (hd : c.isNw d = false) : SpH Tryz.prog gl 254 d ⟨[.agg x.row, .ptr c 0], [(c, [.str n])], []⟩ ⟨.bool (x.n == n), [(c, [.str n])], []⟩ := by
  refine h254 rfl ?_
  have hi := inn_notNw hd
  unfold Ru.row
  simp -implicitDefEqProofs [c254]
  refine postH_r ⟨?_, ?_, ?_, ?_, ?_, ?_⟩ <;> simp -implicitDefEqProofs [hi, hc]
set_option maxRecDepth 20000 in
theorem ruIx_spec (l : List Ru) (n : List UInt8) (hl : l.length ≤ 1000000) (d : Nat) (c : Id) (hc : c.isIt = false) (hcd : c.isNw d = false) :
    SpH Tryz.prog gl 292 d ⟨[.sl (l.map Ru.row), .fn 254 [.ptr c 0]], [(c, [.str n])], []⟩ ⟨i6 (ixN n (l.map Ru.n) 0), [(c, [.str n])], []⟩ := by
  refine h292 rfl ?_
  have hic := inn_notNw hcd
  have C := fun x : Ru => ruC_spec x n 16 (.up c) hc rfl
  have rl : (l.map Ru.row).length = l.length := by simp
  have rat : ∀ i (h : i < l.length), ∀ h2, (l.map Ru.row)[i]'h2 = l[i].row := fun i h h2 => by simp
  obtain ⟨R, hR⟩ : ∃ R, R = ixN n (l.map Ru.n) 0 := ⟨_, rfl⟩
  rw [← hR]
  generalize l.map Ru.row = RR at *
  simp only [inSt, mpB, mpL, AV.mp, mpP]
  simp -implicitDefEqProofs [c292, rl]
  refine wp_lpk (α := Nat) (fun i => ⟨[(0, .sl RR), (1, .fn 254 [.ptr (.up c) 0]), (7, i6 l.length), (8, i6 i)], [(.up c, [.str n])], []⟩) (fun i => i ≤ l.length ∧ ixN n ((l.drop i).map Ru.n) i = R) (fun i => l.length - i) ?_ 0 ?_ ?_
  · rintro K i hK ⟨h1, h2⟩
    by_cases g : i < l.length
    · have t1 : IntKind.i64.wrap ((i : Int) + 1) = (i + 1 : Nat) := by rw [wrap_i64] <;> omega
      have ra := rat i g
      have gR : i < RR.length := by omega
      rw [List.drop_eq_getElem_cons g, List.map_cons] at h2
      simp only [ixN] at h2
      have hrl : (l[i].row).length = 7 := rfl
      have C := C l[i]
      have fin : (l[i].n == n) = false → ∀ σ', Weak σ' ⟨[(0, .sl RR), (1, .fn 254 [.ptr (.up c) 0]), (7, i6 l.length), (8, i6 (i + 1 : Nat))], [(.up c, [.str n])], []⟩ → K σ' :=
        fun hg σ' hσ => hK (i + 1) σ' ⟨by omega, by rw [hg] at h2; simpa using h2⟩ (by omega) hσ
      have hids : idsL l[i].row = [] := rfl
      have hmp : ∀ f, mpL f l[i].row = l[i].row := fun f => mpL_noids hids
      clear hK hR rat
      generalize l[i].row = x at *
      generalize (l[i].n == n) = b at *
      have e8 : List.take 7 x = x := List.take_of_length_le (by omega)
      simp -implicitDefEqProofs [g, gR, ra, hrl, e8, rl]
      refine onH_mk _ _ (C) ⟨?_, ?_, ?_, ?_, ?_, ?_, ?_⟩ ?_
      iterate 7 (· simp -implicitDefEqProofs [hids, hmp])
      cases b
      · have fin := fin rfl
        simp -implicitDefEqProofs [t1]
        refine fin _ ?_
        refine weak_mk ?_ ?_ ?_ ?_ ?_ ?_ <;> simp -implicitDefEqProofs [t1]
      · simp only [if_true] at h2
        subst h2
        simp -implicitDefEqProofs
        refine postH_r ⟨?_, ?_, ?_, ?_, ?_, ?_⟩ <;> simp -implicitDefEqProofs [hic, hc]
    · obtain rfl : i = l.length := by omega
      rw [List.drop_length] at h2
      simp only [List.map_nil, ixN] at h2
      subst h2
      clear hK
      simp -implicitDefEqProofs
      refine postH_r ⟨?_, ?_, ?_, ?_, ?_, ?_⟩ <;> simp -implicitDefEqProofs [hic, hc]
  · exact ⟨Nat.zero_le _, hR.symm⟩
  · refine weak_mk ?_ ?_ ?_ ?_ ?_ ?_ <;> simp -implicitDefEqProofs
set_option maxRecDepth 20000 in
theorem ruFd_spec (l : List Ru) (n : List UInt8) (hl : l.length ≤ 1000000) (d : Nat) (c : Id) (hc : c.isIt = false) (hcd : c.isNw d = false) :
    SpH Tryz.prog gl 253 d ⟨[.sl (l.map Ru.row), .fn 254 [.ptr c 0]], [(c, [.str n])], []⟩ ⟨i6 (ixN n (l.map Ru.n) 0), [(c, [.str n])], []⟩ := by
  refine h253 rfl ?_
  have hic := inn_notNw hcd
  have Q := ruIx_spec l n hl 7 (.up c) hc rfl
  generalize l.map Ru.row = RR at *
  generalize ixN n (l.map Ru.n) 0 = R at *
  simp only [inSt, mpB, mpL, AV.mp, mpP]
  simp -implicitDefEqProofs [c253]
  refine onH_mk _ _ (Q) ⟨?_, ?_, ?_, ?_, ?_, ?_, ?_⟩ ?_
  iterate 7 (· simp -implicitDefEqProofs)
  simp -implicitDefEqProofs
  refine postH_r ⟨?_, ?_, ?_, ?_, ?_, ?_⟩ <;> simp -implicitDefEqProofs [hic, hc]
end Go.Ai
set_option linter.unusedSimpArgs false
set_option linter.unusedVariables false
namespace Go.Ai
open Go.Proofs
/-! ### Rising lists of the same numbers are the same -/
def Rising (l : List Int) : Prop := l.Pairwise (· < ·)
end Go.Ai
set_option linter.unusedSimpArgs false
set_option linter.unusedVariables false
namespace Go.Ai
open Go.Proofs
def candP (last : Option Int) (z : Int) : Prop := ∀ y, last = some y → y < z
/-- The least one above the last one, among the first. -/
def BInv (all : List Int) (last : Option Int) (j : Nat) (b : Int) : Prop :=
  (b = -1 ∧ ∀ k, k < j → ∀ z, all[k]? = some z → ¬ candP last z) ∨ ∃ n : Nat, b = n ∧ n < j ∧ ∃ m, all[n]? = some m ∧ candP last m ∧ ∀ k, k < j → ∀ z, all[k]? = some z → candP last z → m ≤ z
theorem BInv.skip {all : List Int} {last : Option Int} {j : Nat} {b : Int} (h : BInv all last j b) (hj : ∀ z, all[j]? = some z → candP last z → ∃ n : Nat, b = n ∧ ∃ m, all[n]? = some m ∧ m ≤ z) : BInv all last (j + 1) b := by
  rcases h with ⟨h1, h2⟩ | ⟨n, h1, h2, m, h3, h4, h5⟩
  · left
    refine ⟨h1, fun k hk z hz hc => ?_⟩
    rcases Nat.lt_or_ge k j with q | q
    · exact h2 k q z hz hc
    · obtain rfl : k = j := by omega
      obtain ⟨n, hn, _⟩ := hj z hz hc
      omega
  · right
    refine ⟨n, h1, by omega, m, h3, h4, fun k hk z hz hc => ?_⟩
    rcases Nat.lt_or_ge k j with q | q
    · exact h5 k q z hz hc
    · obtain rfl : k = j := by omega
      obtain ⟨n', hn', m', hm', hle⟩ := hj z hz hc
      have : n' = n := by omega
      subst this
      rw [h3] at hm'; cases hm'; exact hle
theorem BInv.take {all : List Int} {last : Option Int} {j : Nat} {b : Int} (h : BInv all last j b) {z : Int} (hz : all[j]? = some z) (hc : candP last z) (hb : b < 0 ∨ ∃ n : Nat, b = n ∧ ∃ m, all[n]? = some m ∧ z < m) : BInv all last (j + 1) j := by
  right
  refine ⟨j, rfl, by omega, z, hz, hc, fun k hk y hy hcy => ?_⟩
  rcases Nat.lt_or_ge k j with q | q
  · rcases h with ⟨h1, h2⟩ | ⟨n, h1, h2, m, h3, h4, h5⟩
    · exact absurd hcy (h2 k q y hy)
    · rcases hb with hb | ⟨n', hn', m', hm', hlt⟩
      · omega
      · have : n' = n := by omega
        subst this
        rw [h3] at hm'; cases hm'
        have := h5 k q y hy hcy
        omega
  · obtain rfl : k = j := by omega
    rw [hz] at hy; cases hy; exact Int.le_refl _
/-- What was taken out so far. -/
structure OInv (all out : List Int) : Prop where
  r : Rising out
  s : ∀ z ∈ out, z ∈ all
  d : ∀ z ∈ all, (∃ y, out.getLast? = some y ∧ z ≤ y) → z ∈ out
theorem OInv.next {all out : List Int} (h : OInv all out) {n : Nat} {m : Int} (hm : all[n]? = some m) (hc : candP out.getLast? m) (hmin : ∀ (k : Nat) z, all[k]? = some z → candP out.getLast? z → m ≤ z) : OInv all (out ++ [m]) := by
  refine ⟨?_, ?_, ?_⟩
  · unfold Rising
    rw [List.pairwise_append]
    refine ⟨h.r, by simp, fun a ha b hb => ?_⟩
    simp only [List.mem_singleton] at hb
    subst hb
    obtain ⟨y, hy⟩ : ∃ y, out.getLast? = some y := by
      cases hl : out.getLast? with
      | none => rw [List.getLast?_eq_none_iff] at hl; subst hl; simp at ha
      | some y => exact ⟨y, rfl⟩
    have hcy := hc y hy
    obtain ⟨pre, rfl⟩ : ∃ pre, out = pre ++ [y] := by
      rw [List.getLast?_eq_some_iff] at hy; exact hy
    rcases List.mem_append.1 ha with ha | ha
    · have := (List.pairwise_append.1 h.r).2.2 a ha y (by simp)
      omega
    · simp only [List.mem_singleton] at ha; omega
  · intro z hz
    rcases List.mem_append.1 hz with hz | hz
    · exact h.s z hz
    · simp only [List.mem_singleton] at hz; subst hz; exact List.mem_of_getElem? hm
  · rintro z hz ⟨y, hy, hle⟩
    simp only [List.getLast?_append, List.getLast?_singleton, Option.some_or, Option.some.injEq] at hy
    subst hy
    rw [List.mem_append]
    by_cases hcz : candP out.getLast? z
    · obtain ⟨k, hk⟩ := List.getElem?_of_mem hz
      have := hmin k z hk hcz
      right; simp; omega
    · left
      unfold candP at hcz
      obtain ⟨y', hy'⟩ : ∃ y', out.getLast? = some y' ∧ ¬ y' < z := by
        apply Classical.byContradiction
        intro hn
        exact hcz (fun y hy => Classical.byContradiction fun hlt => hn ⟨y, hy, hlt⟩)
      exact h.d z hz ⟨y', hy'.1, by omega⟩
theorem OInv.done {all out : List Int} (h : OInv all out) (hno : ∀ (k : Nat) z, all[k]? = some z → ¬ candP out.getLast? z) : ∀ z, z ∈ out ↔ z ∈ all := by
  intro z
  refine ⟨h.s z, fun hz => ?_⟩
  obtain ⟨k, hk⟩ := List.getElem?_of_mem hz
  have hcz := hno k z hk
  unfold candP at hcz
  obtain ⟨y', hy'⟩ : ∃ y', out.getLast? = some y' ∧ ¬ y' < z := by
    apply Classical.byContradiction
    intro hn
    exact hcz (fun y hy => Classical.byContradiction fun hlt => hn ⟨y, hy, hlt⟩)
  exact h.d z hz ⟨y', hy'.1, by omega⟩
theorem intRows_at (l : List Int) (i : Nat) (h : i < l.length) : ∀ h2, (intRows l)[i]'h2 = [i6 l[i]] := fun h2 => by simp [intRows]
end Go.Ai
set_option linter.unusedSimpArgs false
set_option linter.unusedVariables false
namespace Go.Ai
open Go.Proofs
end Go.Ai
