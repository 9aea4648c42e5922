/- YtmbnoejneocmmaaGreatDoorP13: part of the abstract interpreter library (values, rules, soundness against the model) or of what a function of the seat computes. Conditions: as each theorem says. -/
import Derived.Test.YtmbnoejneocmmaaGreatDoorP12
import Derived.Test.YtmbnoejneocmmaaGreatDoorP11
set_option linter.unusedSimpArgs false
set_option linter.unusedVariables false
namespace Go.Ai
open Go.Proofs Go.Shelf
/-- How many of a kind. -/
def cntT (l : List Tu) (k : Int) : Nat := l.countP fun t => decide (t.2.2 = k)
theorem cntT_next (l : List Tu) (k : Int) (i : Nat) (h : i < l.length) : cntT (l.take (i + 1)) k = cntT (l.take i) k + (if l[i].2.2 = k then 1 else 0) := by
  unfold cntT
  rw [List.take_succ_eq_append_getElem h, List.countP_append, List.countP_cons, List.countP_nil]
  by_cases e : l[i].2.2 = k <;> simp [e]
theorem cntT_le (l : List Tu) (k : Int) (i : Nat) : cntT (l.take i) k ≤ i := by
  unfold cntT
  have h1 := List.countP_le_length (p := fun t : Tu => decide (t.2.2 = k)) (l := l.take i)
  have h2 : (l.take i).length ≤ i := by simp; omega
  omega
def cellsC (l : List Tu) : List AV := [i6 (cntT l 1), i6 (cntT l 2), i6 (cntT l 3), i6 (cntT l 4)]
set_option maxRecDepth 20000 in
theorem tally_spec (l : List Tu) (hl : l.length ≤ 1000000) : Sp Tryz.prog gl 36 [.sl (l.map trow)] (.agg (cellsC l)) := by
  refine s36 rfl rfl ?_
  have rl : (l.map trow).length = l.length := by simp
  have rat : ∀ i (h : i < l.length), ∀ h2, (l.map trow)[i]'h2 = [.str l[i].1, .str l[i].2.1, i6 l[i].2.2] := fun i h h2 => by simp [trow, tn]
  have fin0 : cellsC l = cellsC (l.take l.length) := by rw [List.take_length]
  rw [fin0]
  have z0 : cellsC (l.take 0) = [i6 0, i6 0, i6 0, i6 0] := rfl
  generalize l.map trow = RR at *
  simp -implicitDefEqProofs [c36, rl]
  refine wp_lpk (α := Nat) (fun i => ⟨[(2, .ptr (.n 2) 0), (3, .ptr (.n 3) 0), (6, .sl RR), (7, i6 l.length), (8, i6 i)], [(.n 3, cellsC (l.take i)), (.n 2, [i6 0, i6 0, i6 0, i6 0])], []⟩) (fun i => i ≤ l.length) (fun i => l.length - i) ?_ 0 ?_ ?_
  · rintro K i hK h1
    by_cases g : i < l.length
    · have t1 : IntKind.i64.wrap ((i : Int) + 1) = (i + 1 : Nat) := by rw [wrap_i64] <;> omega
      have ra := rat i g
      have gR : i < RR.length := by omega
      have g2 : (i : Int) < l.length := by omega
      have fin : ∀ σ', Weak σ' ⟨[(2, .ptr (.n 2) 0), (3, .ptr (.n 3) 0), (6, .sl RR), (7, i6 l.length), (8, i6 (i + 1 : Nat))], [(.n 3, cellsC (l.take (i + 1))), (.n 2, [i6 0, i6 0, i6 0, i6 0])], []⟩ → K σ' :=
        fun σ' hσ => hK (i + 1) σ' (by omega) (by omega) hσ
      have n1 := cntT_next l 1 i g
      have n2 := cntT_next l 2 i g
      have n3 := cntT_next l 3 i g
      have n4 := cntT_next l 4 i g
      have b1 := cntT_le l 1 i
      have b2 := cntT_le l 2 i
      have b3 := cntT_le l 3 i
      have b4 := cntT_le l 4 i
      have W := word_spec l[i].2.2
      clear hK rat z0 fin0
      unfold cellsC at fin ⊢
      rw [n1, n2, n3, n4] at fin
      clear n1 n2 n3 n4
      generalize l[i] = x at *
      generalize cntT (l.take i) 1 = c1 at *
      generalize cntT (l.take i) 2 = c2 at *
      generalize cntT (l.take i) 3 = c3 at *
      generalize cntT (l.take i) 4 = c4 at *
      obtain ⟨xg, xr, k⟩ := x
      simp only at W fin ra
      have hlN : ((l.length : Nat) : Int) = (l.length : Int) := rfl
      generalize l.length = N at *
      have w1 : IntKind.i64.wrap ((c1 : Int) + 1) = (c1 + 1 : Nat) := by rw [wrap_i64] <;> omega
      have w2 : IntKind.i64.wrap ((c2 : Int) + 1) = (c2 + 1 : Nat) := by rw [wrap_i64] <;> omega
      have w3 : IntKind.i64.wrap ((c3 : Int) + 1) = (c3 + 1 : Nat) := by rw [wrap_i64] <;> omega
      have w4 : IntKind.i64.wrap ((c4 : Int) + 1) = (c4 + 1 : Nat) := by rw [wrap_i64] <;> omega
      by_cases hk : 1 ≤ k ∧ k ≤ 4
      · have : k = 1 ∨ k = 2 ∨ k = 3 ∨ k = 4 := by omega
        rcases this with rfl | rfl | rfl | rfl
        · rw [show wdK 1 = [99, 111, 109, 101, 115] from rfl] at W
          have wk : IntKind.i64.wrap 0 = 0 := by decide
          simp only [show ((1 : Int) = 1) = True by simp, show ((1 : Int) = 2) = False by simp, show ((1 : Int) = 3) = False by simp, show ((1 : Int) = 4) = False by simp, if_true, if_false, Nat.add_zero] at fin
          generalize ((c1 + 1 : Nat) : Int) = m at *
          simp -implicitDefEqProofs [g2, gR, ra]
          refine onC_mk _ W ?_
          simp -implicitDefEqProofs [wk, w1]
          refine fin _ ?_
          refine weak_mk ?_ ?_ ?_ ?_ ?_ ?_ <;> simp -implicitDefEqProofs [t1]
        · rw [show wdK 2 = [115, 116, 97, 121, 115] from rfl] at W
          have wk : IntKind.i64.wrap 1 = 1 := by decide
          simp only [show ((2 : Int) = 1) = False by simp, show ((2 : Int) = 2) = True by simp, show ((2 : Int) = 3) = False by simp, show ((2 : Int) = 4) = False by simp, if_true, if_false, Nat.add_zero] at fin
          generalize ((c2 + 1 : Nat) : Int) = m at *
          simp -implicitDefEqProofs [g2, gR, ra]
          refine onC_mk _ W ?_
          simp -implicitDefEqProofs [wk, w2]
          refine fin _ ?_
          refine weak_mk ?_ ?_ ?_ ?_ ?_ ?_ <;> simp -implicitDefEqProofs [t1]
        · rw [show wdK 3 = [116, 117, 114, 110, 115] from rfl] at W
          have wk : IntKind.i64.wrap 2 = 2 := by decide
          simp only [show ((3 : Int) = 1) = False by simp, show ((3 : Int) = 2) = False by simp, show ((3 : Int) = 3) = True by simp, show ((3 : Int) = 4) = False by simp, if_true, if_false, Nat.add_zero] at fin
          generalize ((c3 + 1 : Nat) : Int) = m at *
          simp -implicitDefEqProofs [g2, gR, ra]
          refine onC_mk _ W ?_
          simp -implicitDefEqProofs [wk, w3]
          refine fin _ ?_
          refine weak_mk ?_ ?_ ?_ ?_ ?_ ?_ <;> simp -implicitDefEqProofs [t1]
        · rw [show wdK 4 = [103, 111, 101, 115] from rfl] at W
          have wk : IntKind.i64.wrap 3 = 3 := by decide
          simp only [show ((4 : Int) = 1) = False by simp, show ((4 : Int) = 2) = False by simp, show ((4 : Int) = 3) = False by simp, show ((4 : Int) = 4) = True by simp, if_true, if_false, Nat.add_zero] at fin
          generalize ((c4 + 1 : Nat) : Int) = m at *
          simp -implicitDefEqProofs [g2, gR, ra]
          refine onC_mk _ W ?_
          simp -implicitDefEqProofs [wk, w4]
          refine fin _ ?_
          refine weak_mk ?_ ?_ ?_ ?_ ?_ ?_ <;> simp -implicitDefEqProofs [t1]
      · have hb : wdK k = [] := by
          apply Classical.byContradiction
          intro hne
          exact hk (wdK_ne.1 hne)
        rw [hb] at W
        simp only [if_neg (show ¬ k = 1 by omega), if_neg (show ¬ k = 2 by omega), if_neg (show ¬ k = 3 by omega), if_neg (show ¬ k = 4 by omega), Nat.add_zero] at fin
        simp -implicitDefEqProofs [g2, gR, ra]
        refine onC_mk _ W ?_
        simp -implicitDefEqProofs
        refine fin _ ?_
        refine weak_mk ?_ ?_ ?_ ?_ ?_ ?_ <;> simp -implicitDefEqProofs [t1]
    · obtain rfl : i = l.length := by omega
      clear hK z0 fin0
      unfold cellsC
      simp -implicitDefEqProofs
  · exact Nat.zero_le _
  · rw [z0]
    refine weak_mk ?_ ?_ ?_ ?_ ?_ ?_ <;> simp -implicitDefEqProofs
theorem wrap1_one : IntKind.i64.wrap 1 = 1 := by decide
theorem bRows_nil : byteRows [] = [] := rfl
theorem st0_spec {d : Nat} {b : Id} (hit : b.isIt = false) (hnwb : b.isNw d = false) {c0 : AV} :
    SpH Tryz.prog gl 80 d ⟨[.ptr b 0], [(b, [c0, .nils])], []⟩ ⟨.str [], [(b, [c0, .nils])], []⟩ :=
  st0_shelf (L := { laysJoin with }) extraJ (by kernel_rfl) (by kernel_rfl) hit hnwb (rest := [])
theorem linesT_next (l : List Tu) (i : Nat) (h : i < l.length) : linesT (l.take (i + 1)) = linesT (l.take i) ++ lineT l[i] := by
  unfold linesT
  rw [List.take_succ_eq_append_getElem h, List.map_append]
  simp
theorem lineT_le (t : Tu) (h1 : t.1.length ≤ 5000) (h2 : t.2.1.length ≤ 5000) : (lineT t).length ≤ 10010 := by
  have hw : (wdK t.2.2).length ≤ 5 := by
    unfold wdK
    repeat' split
    all_goals simp
  unfold lineT bodyT headT
  split <;> simp <;> omega
theorem linesT_le (l : List Tu) (h : ∀ t ∈ l, t.1.length ≤ 5000 ∧ t.2.1.length ≤ 5000) : ∀ i, i ≤ l.length → (linesT (l.take i)).length ≤ 10010 * i
  | 0, _ => by simp [linesT]
  | i + 1, hi => by
    have ih := linesT_le l h i (by omega)
    have hm := h _ (List.getElem_mem (show i < l.length by omega))
    have := lineT_le l[i] hm.1 hm.2
    rw [linesT_next l i (by omega), List.length_append]; omega
theorem lineT_ne (t : Tu) : lineT t ≠ [] := by unfold lineT; simp
theorem linesT_ne (l : List Tu) (h : l ≠ []) : linesT l ≠ [] := by
  match l, h with
  | t :: r, _ =>
    intro e
    have : lineT t ++ linesT r = [] := e
    exact lineT_ne t (List.append_eq_nil_iff.1 this).1
def prV (l : List Tu) : AV := if l.all (rightT nameT) = true then .tup [.str (linesT l), i6 0] else .tup [.str [], i6 6]
set_option maxRecDepth 20000 in
theorem cprint_spec (l : List Tu) (hl : l.length ≤ 5000) (hf : ∀ t ∈ l, t.1.length ≤ 5000 ∧ t.2.1.length ≤ 5000) : Sp Tryz.prog gl 35 [.sl (l.map trow)] (prV l) := by
  refine s35 rfl rfl ?_
  have rl : (l.map trow).length = l.length := by simp
  have rat : ∀ i (h : i < l.length), ∀ h2, (l.map trow)[i]'h2 = [.str l[i].1, .str l[i].2.1, i6 l[i].2.2] := fun i h h2 => by simp [trow, tn]
  have WS := fun (d : Nat) (hb : (Id.n 4).isNw d = false) (c0 : AV) hc (l s : List UInt8) hl => ws_spec (d := d) (b := .n 4) rfl hb (c0 := c0) hc l s hl
  have WB := fun (d : Nat) (hb : (Id.n 4).isNw d = false) (l : List UInt8) (c : UInt8) hl => wb_spec (d := d) (b := .n 4) rfl hb (T := 146) (by unfold bldAt; kernel_rfl) (c0 := .ptr (.n 4) 0) (.inr rfl) l c hl
  obtain ⟨R, hR⟩ : ∃ R, R = prV l := ⟨_, rfl⟩
  rw [← hR]
  generalize l.map trow = RR at *
  obtain ⟨c0, hc0⟩ : ∃ c0 : Nat → AV, c0 = fun i => if i = 0 then .nilT (.n 4) 146 2 else .ptr (.n 4) 0 := ⟨_, rfl⟩
  obtain ⟨tx, htx⟩ : ∃ tx : Nat → AV, tx = fun i => if i = 0 then .nils else .sl (byteRows (linesT (l.take i))) := ⟨_, rfl⟩
  obtain ⟨pm, hpm⟩ : ∃ pm : Nat → List (Pl × Nat), pm = fun i => if i = 0 then [] else [(.b (.n 4) 1, bk 5)] := ⟨_, rfl⟩
  have c00 : c0 0 = .nilT (.n 4) 146 2 := by rw [hc0]; rfl
  have tx0 : tx 0 = .nils := by rw [htx]; rfl
  have pm0 : pm 0 = [] := by rw [hpm]; rfl
  have cS : ∀ i, c0 (i + 1) = .ptr (.n 4) 0 := fun i => by rw [hc0]; rfl
  have txS : ∀ i, tx (i + 1) = .sl (byteRows (linesT (l.take (i + 1)))) := fun i => by rw [htx]; rfl
  have pmS : ∀ i, pm (i + 1) = [(.b (.n 4) 1, bk 5)] := fun i => by rw [hpm]; rfl
  clear hc0 htx hpm
  simp -implicitDefEqProofs [c35, rl]
  refine wp_lpk (α := Nat) (fun i => ⟨[(4, .ptr (.n 4) 0), (7, .sl RR), (8, i6 l.length), (9, i6 i)], [(.n 4, [c0 i, tx i])], pm i⟩) (fun i => i ≤ l.length ∧ (l.take i).all (rightT nameT) = true) (fun i => l.length - i) ?_ 0 ?_ ?_
  · rintro K i hK ⟨h1, h2⟩
    by_cases g : i < l.length
    · have t1 : IntKind.i64.wrap ((i : Int) + 1) = (i + 1 : Nat) := by rw [wrap_i64] <;> omega
      have ra := rat i g
      have gR : i < RR.length := by omega
      have g2 : (i : Int) < l.length := by omega
      have fin : rightT nameT l[i] = true → ∀ σ', Weak σ' ⟨[(4, .ptr (.n 4) 0), (7, .sl RR), (8, i6 l.length), (9, i6 (i + 1 : Nat))], [(.n 4, [.ptr (.n 4) 0, .sl (byteRows (linesT (l.take i) ++ lineT l[i]))])], [(.b (.n 4) 1, bk 5)]⟩ → K σ' := by
        intro hr σ' hσ
        refine hK (i + 1) σ' ⟨by omega, ?_⟩ (by omega) ?_
        · rw [List.take_succ_eq_append_getElem g, List.all_append, h2]; simp [hr]
        · simp only [cS, txS, pmS, linesT_next l i g]; exact hσ
      have hm := hf _ (List.getElem_mem g)
      have RT := cright_spec l[i] (by omega) (by omega)
      have W := word_spec l[i].2.2
      have htl := linesT_le l hf i (by omega)
      have hw : (wdK l[i].2.2).length ≤ 5 := by
        unfold wdK
        repeat' split
        all_goals simp
      have hbad : rightT nameT l[i] = false → R = .tup [.str [], i6 6] := by
        intro hr
        rw [hR]
        unfold prV
        rw [if_neg]
        intro ha
        have := List.all_eq_true.1 ha _ (List.getElem_mem g)
        rw [hr] at this; cases this
      have hz : i = 0 → linesT (l.take i) = [] := by rintro rfl; simp [linesT]
      have hS : i ≠ 0 → c0 i = .ptr (.n 4) 0 ∧ tx i = .sl (byteRows (linesT (l.take i))) ∧ pm i = [(.b (.n 4) 1, bk 5)] := by
        intro hi
        obtain ⟨j, rfl⟩ : ∃ j, i = j + 1 := ⟨i - 1, by omega⟩
        exact ⟨cS j, txS j, pmS j⟩
      clear hK rat hf h2 hR
      unfold lineT bodyT headT at fin
      generalize linesT (l.take i) = TX at *
      generalize l[i] = x at *
      obtain ⟨xg, xr, k⟩ := x
      simp only at RT W fin hm hw ra hbad
      rw [trow3] at RT
      generalize l.length = N at *
      generalize rightT nameT (xg, xr, k) = ok at *
      cases ok
      · have hb := hbad rfl
        subst hb
        clear fin hbad WS WB
        simp -implicitDefEqProofs [g, g2, gR, ra]
        refine onC_mk _ RT ?_
        simp -implicitDefEqProofs
      · have fin := fin rfl
        clear hbad
        have W1 := fun d hd c hc => WS d hd c hc TX (wdK k ++ 32 :: xg) (by simp; omega)
        have W2 := fun d hd => WS d hd (.ptr (.n 4) 0) (.inr rfl) (TX ++ (wdK k ++ 32 :: xg)) (32 :: xr) (by simp; omega)
        have B1 := fun d hd => WB d hd (TX ++ (wdK k ++ 32 :: xg)) 10 (by simp; omega)
        have B2 := fun d hd => WB d hd (TX ++ (wdK k ++ 32 :: xg) ++ 32 :: xr) 10 (by simp; omega)
        clear WS WB
        have q1 : (wdK k).length + 1 ≤ 9223372036854775807 := by omega
        have q2 : (wdK k).length + 1 + xg.length ≤ 9223372036854775807 := by omega
        have q3 : (wdK k).length + (xg.length + 1) ≤ 9223372036854775807 := by omega
        have q4 : xr.length + 1 ≤ 9223372036854775807 := by omega
        have q5 : 1 + xr.length ≤ 9223372036854775807 := by omega
        have q6 : xr.length ≤ 9223372036854775806 := by omega
        have q7 : (wdK k).length ≤ 9223372036854775806 := by omega
        generalize wdK k = w at *
        by_cases hi : i = 0
        · have hT := hz hi
          subst hT
          subst hi
          rw [c00, tx0, pm0]
          clear c00 tx0 pm0 cS txS pmS hz hS
          by_cases hr : xr = []
          · subst hr
            simp only [if_true] at fin
            simp -implicitDefEqProofs [g, g2, gR, ra]
            refine onC_mk _ RT ?_
            simp -implicitDefEqProofs
            refine onC_mk _ W ?_
            simp -implicitDefEqProofs [q1, q2, q3, q7]
            refine onH_mk _ _ (W1 _ rfl _ (.inl rfl)) ⟨?_, ?_, ?_, ?_, ?_, ?_, ?_⟩ ?_
            iterate 7 (· simp -implicitDefEqProofs [bRows_nil])
            simp -implicitDefEqProofs
            refine onH_mk _ _ (B1 _ rfl) ⟨?_, ?_, ?_, ?_, ?_, ?_, ?_⟩ ?_
            iterate 7 (· simp -implicitDefEqProofs)
            simp -implicitDefEqProofs
            refine fin _ ?_
            refine weak_mk ?_ ?_ ?_ ?_ ?_ ?_ <;> simp -implicitDefEqProofs [t1, wrap1_one]
          · have hrb : (xr == []) = false := by rw [beq_eq_false_iff_ne]; exact hr
            simp only [if_neg hr] at fin
            simp -implicitDefEqProofs [g, g2, gR, ra]
            refine onC_mk _ RT ?_
            simp -implicitDefEqProofs
            refine onC_mk _ W ?_
            simp -implicitDefEqProofs [q1, q2, q3, q7]
            refine onH_mk _ _ (W1 _ rfl _ (.inl rfl)) ⟨?_, ?_, ?_, ?_, ?_, ?_, ?_⟩ ?_
            iterate 7 (· simp -implicitDefEqProofs [bRows_nil])
            simp -implicitDefEqProofs [hrb, q4, q5, q6]
            refine onH_mk _ _ (W2 _ rfl) ⟨?_, ?_, ?_, ?_, ?_, ?_, ?_⟩ ?_
            iterate 7 (· simp -implicitDefEqProofs)
            simp -implicitDefEqProofs
            refine onH_mk _ _ (B2 _ rfl) ⟨?_, ?_, ?_, ?_, ?_, ?_, ?_⟩ ?_
            iterate 7 (· simp -implicitDefEqProofs)
            simp -implicitDefEqProofs
            refine fin _ ?_
            refine weak_mk ?_ ?_ ?_ ?_ ?_ ?_ <;> simp -implicitDefEqProofs [t1, wrap1_one]
        · obtain ⟨cj, tj, pj⟩ := hS hi
          rw [cj, tj, pj]
          clear c00 tx0 pm0 cS txS pmS hz hS cj tj pj
          by_cases hr : xr = []
          · subst hr
            simp only [if_true] at fin
            simp -implicitDefEqProofs [g, g2, gR, ra]
            refine onC_mk _ RT ?_
            simp -implicitDefEqProofs
            refine onC_mk _ W ?_
            simp -implicitDefEqProofs [q1, q2, q3, q7]
            refine onH_mk _ _ (W1 _ rfl _ (.inr rfl)) ⟨?_, ?_, ?_, ?_, ?_, ?_, ?_⟩ ?_
            iterate 7 (· simp -implicitDefEqProofs)
            simp -implicitDefEqProofs
            refine onH_mk _ _ (B1 _ rfl) ⟨?_, ?_, ?_, ?_, ?_, ?_, ?_⟩ ?_
            iterate 7 (· simp -implicitDefEqProofs)
            simp -implicitDefEqProofs
            refine fin _ ?_
            refine weak_mk ?_ ?_ ?_ ?_ ?_ ?_ <;> simp -implicitDefEqProofs [t1, wrap1_one]
          · have hrb : (xr == []) = false := by rw [beq_eq_false_iff_ne]; exact hr
            simp only [if_neg hr] at fin
            simp -implicitDefEqProofs [g, g2, gR, ra]
            refine onC_mk _ RT ?_
            simp -implicitDefEqProofs
            refine onC_mk _ W ?_
            simp -implicitDefEqProofs [q1, q2, q3, q7]
            refine onH_mk _ _ (W1 _ rfl _ (.inr rfl)) ⟨?_, ?_, ?_, ?_, ?_, ?_, ?_⟩ ?_
            iterate 7 (· simp -implicitDefEqProofs)
            simp -implicitDefEqProofs [hrb, q4, q5, q6]
            refine onH_mk _ _ (W2 _ rfl) ⟨?_, ?_, ?_, ?_, ?_, ?_, ?_⟩ ?_
            iterate 7 (· simp -implicitDefEqProofs)
            simp -implicitDefEqProofs
            refine onH_mk _ _ (B2 _ rfl) ⟨?_, ?_, ?_, ?_, ?_, ?_, ?_⟩ ?_
            iterate 7 (· simp -implicitDefEqProofs)
            simp -implicitDefEqProofs
            refine fin _ ?_
            refine weak_mk ?_ ?_ ?_ ?_ ?_ ?_ <;> simp -implicitDefEqProofs [t1, wrap1_one]
    · obtain rfl : i = l.length := by omega
      clear hK rat
      rw [List.take_length] at h2
      have hRR : R = .tup [.str (linesT l), i6 0] := by rw [hR]; unfold prV; rw [if_pos h2]
      subst hRR
      by_cases hz : l.length = 0
      · have hn : l = [] := List.eq_nil_of_length_eq_zero hz
        subst hn
        have S0 := fun d (hd : (Id.n 4).isNw d = false) => st0_spec (d := d) (b := .n 4) rfl hd (c0 := .nilT (.n 4) 146 2)
        have e0 : linesT [] = [] := rfl
        rw [e0]
        simp only [List.length_nil] at *
        rw [c00, tx0, pm0]
        clear WS WB c00 tx0 pm0 cS txS pmS hf
        simp -implicitDefEqProofs
        refine onH_mk _ _ (S0 _ rfl) ⟨?_, ?_, ?_, ?_, ?_, ?_, ?_⟩ ?_
        iterate 7 (· simp -implicitDefEqProofs)
        simp -implicitDefEqProofs
      · obtain ⟨j, hj⟩ : ∃ j, l.length = j + 1 := ⟨l.length - 1, by omega⟩
        have ST := fun d (hd : (Id.n 4).isNw d = false) => st_spec (d := d) (b := .n 4) rfl hd (c0 := .ptr (.n 4) 0) (linesT l) (linesT_ne l (fun e => hz (by rw [e]; rfl)))
        have eT : linesT (l.take (j + 1)) = linesT l := by rw [← hj, List.take_length]
        have txj := txS j
        rw [eT] at txj
        rw [← hj] at txj
        have cj := cS j
        have pj := pmS j
        rw [← hj] at cj pj
        rw [cj, txj, pj]
        clear WS WB c00 tx0 pm0 cS txS pmS hf txj cj pj eT
        generalize linesT l = TX at *
        generalize l.length = N at *
        simp -implicitDefEqProofs
        refine onH_mk _ _ (ST _ rfl) ⟨?_, ?_, ?_, ?_, ?_, ?_, ?_⟩ ?_
        iterate 7 (· simp -implicitDefEqProofs)
        simp -implicitDefEqProofs
  · exact ⟨Nat.zero_le _, by simp⟩
  · rw [c00, tx0, pm0]
    refine weak_mk ?_ ?_ ?_ ?_ ?_ ?_ <;> simp -implicitDefEqProofs
end Go.Ai
set_option linter.unusedSimpArgs false
set_option linter.unusedVariables false
namespace Go.Ai
open Go.Proofs
def words5 : List (List AV) := [[.str []], [.str [99, 111, 109, 101, 115]], [.str [115, 116, 97, 121, 115]], [.str [116, 117, 114, 110, 115]], [.str [103, 111, 101, 115]]]
theorem rwords_spec : Sp Tryz.prog gl 96 [] (.sl words5) := by
  refine s96 rfl rfl ?_
  simp -implicitDefEqProofs [c96, words5]
theorem w5_at {k : Nat} (h1 : k ≤ 4) : ∀ h2, words5[k]'h2 = [.str (wdK (k : Int))] := by
  have : k = 0 ∨ k = 1 ∨ k = 2 ∨ k = 3 ∨ k = 4 := by omega
  rcases this with rfl | rfl | rfl | rfl | rfl <;> intro _ <;> rfl
theorem rright18_spec (t : Tu) (h1 : t.1.length ≤ 900000) (h2 : t.2.1.length ≤ 900000) : Sp Tryz.prog gl 33 [.agg (trow t)] (.bool (rightT nameT t)) := by
  refine s33 rfl rfl ?_
  obtain ⟨g, r, k⟩ := t
  have N1 := rname_spec g h1
  have N2 := rname_spec r h2
  rw [trow3]
  have e0 : rightT nameT (g, r, k) = (decide (1 ≤ k ∧ k ≤ 4) && (nameT g && (decide (r = []) || nameT r))) := rfl
  rw [e0]
  by_cases hk1 : 1 ≤ k
  · by_cases hk2 : k ≤ 4
    · have hd : decide (1 ≤ k ∧ k ≤ 4) = true := decide_eq_true ⟨hk1, hk2⟩
      rw [hd]
      generalize nameT g = b1 at *
      generalize nameT r = b2 at *
      simp -implicitDefEqProofs [c33, hk1, hk2]
      refine onC_mk _ N1 ?_
      cases b1
      · simp -implicitDefEqProofs
      · cases r with
        | nil => simp -implicitDefEqProofs
        | cons c r =>
          simp -implicitDefEqProofs
          refine onC_mk _ N2 ?_
          simp -implicitDefEqProofs
    · have hd : decide (1 ≤ k ∧ k ≤ 4) = false := decide_eq_false (fun h => hk2 h.2)
      rw [hd]
      simp -implicitDefEqProofs [c33, hk1, hk2]
  · have hd : decide (1 ≤ k ∧ k ≤ 4) = false := decide_eq_false (fun h => hk1 h.1)
    rw [hd]
    simp -implicitDefEqProofs [c33, hk1]
theorem rline_spec (t : Tu) (h1 : t.1.length ≤ 900000) (h2 : t.2.1.length ≤ 900000) (hk1 : 1 ≤ t.2.2) (hk2 : t.2.2 ≤ 4) : Sp Tryz.prog gl 34 [.agg (trow t)] (.str (lineT t)) := by
  refine s34 rfl rfl ?_
  obtain ⟨g, r, k⟩ := t
  simp only at h1 h2 hk1 hk2
  obtain ⟨n, rfl⟩ : ∃ n : Nat, k = n := ⟨k.toNat, by omega⟩
  have n4 : n ≤ 4 := by omega
  have W := rwords_spec
  have ra := @w5_at n n4
  have gR : n < words5.length := by simp [words5]; omega
  have hw : (wdK (n : Int)).length ≤ 5 := by
    unfold wdK
    repeat' split
    all_goals simp
  rw [trow3]
  have e0 : lineT (g, r, (n : Int)) = (if r = [] then wdK (n : Int) ++ 32 :: g else (wdK (n : Int) ++ 32 :: g) ++ 32 :: r) ++ [10] := rfl
  rw [e0]
  generalize words5 = W5 at *
  generalize wdK (n : Int) = w at *
  have q0 : (0 : Int) ≤ n := by omega
  have q1 : w.length + 1 ≤ 9223372036854775807 := by omega
  have q2 : w.length + 1 + g.length ≤ 9223372036854775807 := by omega
  have q3 : w.length + (g.length + 1) ≤ 9223372036854775807 := by omega
  have q7 : w.length ≤ 9223372036854775806 := by omega
  have q4 : w.length + (g.length + 1) + 1 ≤ 9223372036854775807 := by omega
  have q5 : w.length + (g.length + 1) ≤ 9223372036854775806 := by omega
  have q8 : w.length + (g.length + 1 + 1) ≤ 9223372036854775807 := by omega
  by_cases hr : r = []
  · subst hr
    rw [if_pos rfl]
    simp -implicitDefEqProofs [c34]
    refine onC_mk _ W ?_
    simp -implicitDefEqProofs [ra, gR, q0, q1, q2, q3, q4, q5, q7, q8]
  · rw [if_neg hr]
    have hrb : (r == []) = false := by rw [beq_eq_false_iff_ne]; exact hr
    have q6 : w.length + (g.length + 1) + 1 + r.length ≤ 9223372036854775807 := by omega
    have q9 : w.length + (g.length + (1 + 1)) + r.length ≤ 9223372036854775807 := by omega
    have q10 : w.length + (g.length + 1 + 1) + r.length ≤ 9223372036854775807 := by omega
    have q11 : w.length + (g.length + 1 + (r.length + 1)) ≤ 9223372036854775807 := by omega
    have q12 : w.length + (g.length + (r.length + 1) + 1) ≤ 9223372036854775806 := by omega
    have q13 : w.length + (g.length + (r.length + 1) + 1) + 1 ≤ 9223372036854775807 := by omega
    have q14 : w.length + (g.length + 1 + 1 + r.length) ≤ 9223372036854775807 := by omega
    have q15 : w.length + (g.length + (r.length + 1 + 1) + 1) ≤ 9223372036854775807 := by omega
    simp -implicitDefEqProofs [c34]
    refine onC_mk _ W ?_
    simp -implicitDefEqProofs [ra, gR, q0, q1, q2, q3, q4, q5, q6, q7, q8, q9, q10, q11, q12, q13, q14, q15, hrb]
theorem tw_at {p : UInt8 → Bool} : ∀ (u : List UInt8) (j : Nat), j < (u.takeWhile p).length → ∃ b, u[j]? = some b ∧ p b = true
  | [], j, h => by simp at h
  | b :: u, j, h => by
    rw [List.takeWhile_cons] at h
    split at h
    · rename_i hb
      cases j with
      | zero => exact ⟨b, rfl, hb⟩
      | succ j => exact tw_at u j (by simpa using h)
    · simp at h
theorem tw_end {p : UInt8 → Bool} : ∀ (u : List UInt8) (b : UInt8), u[(u.takeWhile p).length]? = some b → p b = false
  | [], b, h => by simp at h
  | c :: u, b, h => by
    rw [List.takeWhile_cons] at h
    split at h
    · exact tw_end u b (by simpa using h)
    · rename_i hc
      simp at h; subst h; simpa using hc
theorem tw_le {p : UInt8 → Bool} (u : List UInt8) : (u.takeWhile p).length ≤ u.length := by
  have := take_twG (p := p) u
  have h2 := congrArg List.length this
  simp at h2
  omega
set_option maxRecDepth 20000 in
theorem part_spec (s : List UInt8) (a : Nat) (ha : a ≤ s.length) (hl : s.length ≤ 1000000) : Sp Tryz.prog gl 103 [.str s, i6 a] (.tup [.str ((s.drop a).takeWhile notGap), i6 ((a + ((s.drop a).takeWhile notGap).length : Nat) : Int)]) := by
  refine s103 rfl rfl ?_
  have hat := tw_at (p := notGap) (s.drop a)
  have hend := tw_end (p := notGap) (s.drop a)
  have hle := tw_le (p := notGap) (s.drop a)
  have htk := take_twG (p := notGap) (s.drop a)
  have htk : (s.take (a + ((s.drop a).takeWhile notGap).length)).drop a = (s.drop a).takeWhile notGap := by
    rw [List.drop_take, Nat.add_sub_cancel_left]; exact htk
  rw [List.length_drop] at hle
  simp only [List.getElem?_drop] at hat hend
  obtain ⟨w, hw⟩ : ∃ w, w = (s.drop a).takeWhile notGap := ⟨_, rfl⟩
  rw [← hw] at hat hend hle htk ⊢
  clear hw
  obtain ⟨q, hq⟩ : ∃ q, q = a + w.length := ⟨_, rfl⟩
  rw [← hq] at hend htk ⊢
  have q1 : (0 : Int) ≤ a := by omega
  have q2 : (a : Int) ≤ q := by omega
  have q3 : (q : Int) ≤ s.length := by omega
  have q4 : q ≤ s.length := by omega
  have q5 : a ≤ q := by omega
  have q6 : (0 : Int) ≤ q := by omega
  simp -implicitDefEqProofs [c103]
  refine wp_lpk (α := Nat) (fun i => ⟨[(0, .str s), (1, i6 a), (6, i6 i)], [], []⟩) (fun i => a ≤ i ∧ i ≤ q) (fun i => q - i) ?_ a ?_ ?_
  · rintro K i hK ⟨h1, h2⟩
    by_cases g : i < q
    · have t1 : IntKind.i64.wrap ((i : Int) + 1) = (i + 1 : Nat) := by rw [wrap_i64] <;> omega
      obtain ⟨b, gx, hb⟩ := hat (i - a) (by omega)
      rw [show a + (i - a) = i by omega] at gx
      have hb' : b ≠ 32 ∧ b ≠ 10 := by simpa [notGap] using hb
      have b1 : ((b.toNat : Int) == 32) = false := by
        rw [beq_eq_false_iff_ne]; intro e; exact hb'.1 (UInt8.toNat.inj (by have : b.toNat = 32 := by omega
                                                                            rw [this]; rfl))
      have b2 : ((b.toNat : Int) == 10) = false := by
        rw [beq_eq_false_iff_ne]; intro e; exact hb'.2 (UInt8.toNat.inj (by have : b.toNat = 10 := by omega
                                                                            rw [this]; rfl))
      have g2 : i < s.length := by omega
      have fin : ∀ σ', Weak σ' ⟨[(0, .str s), (1, i6 a), (6, i6 (i + 1 : Nat))], [], []⟩ → K σ' :=
        fun σ' hσ => hK (i + 1) σ' ⟨by omega, by omega⟩ (by omega) hσ
      clear hK hat hend htk hb hb'
      have hbi : s[i] = b := (List.getElem?_eq_some_iff.1 gx).2
      generalize hz : (b.toNat : Int) = z at *
      have c1 : (z != 32) = true := by unfold bne; rw [b1]; rfl
      have c2 : (z != 10) = true := by unfold bne; rw [b2]; rfl
      simp -implicitDefEqProofs [g2, hbi, hz, c1, c2, t1]
      refine fin _ ?_
      refine weak_mk ?_ ?_ ?_ ?_ ?_ ?_ <;> simp -implicitDefEqProofs [t1]
    · obtain rfl : i = q := by omega
      clear hK hat
      by_cases g2 : i < s.length
      · obtain ⟨b, gx⟩ : ∃ b, s[i]? = some b := ⟨s[i], List.getElem?_eq_getElem g2⟩
        have hb := hend b gx
        have hbi : s[i] = b := (List.getElem?_eq_some_iff.1 gx).2
        have hb' : b = 32 ∨ b = 10 := by
          unfold notGap at hb
          simp at hb
          by_cases e : b = 32
          · exact .inl e
          · exact .inr (hb e)
        clear hend hb
        rcases hb' with rfl | rfl
        · simp -implicitDefEqProofs [g2, hbi, q1, q2, q3, q4, q5, q6, htk]
        · simp -implicitDefEqProofs [g2, hbi, q1, q2, q3, q4, q5, q6, htk]
      · clear hend
        simp -implicitDefEqProofs [g2, q1, q2, q3, q4, q5, q6, htk]
  · exact ⟨Nat.le_refl _, by omega⟩
  · refine weak_mk ?_ ?_ ?_ ?_ ?_ ?_ <;> simp -implicitDefEqProofs
end Go.Ai
set_option linter.unusedSimpArgs false
set_option linter.unusedVariables false
namespace Go.Ai
open Go.Proofs
theorem rwG_step (m : Nat) (u w : List UInt8) (hw : u.takeWhile notGap = w) : rwG (m + 1) u = if u.length ≤ w.length ∨ u[w.length]? = some 10 then ([w], w.length) else (w :: (rwG m (u.drop (w.length + 1))).1, w.length + 1 + (rwG m (u.drop (w.length + 1))).2) := by
  subst hw; rw [rwG]
theorem rwG_le : ∀ (k : Nat) (u : List UInt8), (rwG k u).2 ≤ u.length ∧ (rwG k u).1.length ≤ k ∧ (∀ x ∈ (rwG k u).1, x.length ≤ u.length)
  | 0, u => by simp [rwG]
  | k + 1, u => by
    rw [rwG_step k u _ rfl]
    have h1 := tw_le (p := notGap) u
    generalize u.takeWhile notGap = w at *
    split
    · refine ⟨h1, by simp, fun x hx => ?_⟩
      simp at hx; subst hx; exact h1
    · rename_i hc
      obtain ⟨i1, i2, i3⟩ := rwG_le k (u.drop (w.length + 1))
      simp only [List.length_drop] at i1 i3
      have : ¬ u.length ≤ w.length := fun e => hc (.inl e)
      refine ⟨by simp only; omega, by simp only [List.length_cons]; omega, fun x hx => ?_⟩
      rcases List.mem_cons.1 hx with rfl | hx
      · exact h1
      · have := i3 x hx; omega
theorem rwG_pos (k : Nat) (u : List UInt8) : (rwG (k + 1) u).1 ≠ [] := by
  rw [rwG_step k u _ rfl]; split <;> simp
theorem sR_app (a b : List (List UInt8)) : strRows (a ++ b) = strRows a ++ strRows b := by simp [strRows]
theorem sR_len (a : List (List UInt8)) : (strRows a).length = a.length := by simp [strRows]
theorem sR_one (a : List (List UInt8)) : ∀ r ∈ strRows a, r.length = 1 := by
  intro r hr
  simp only [strRows, List.mem_map] at hr
  obtain ⟨_, _, rfl⟩ := hr; rfl
theorem byte_ne {b c : UInt8} (h : b ≠ c) : ((b.toNat : Int) == (c.toNat : Int)) = false := by
  rw [beq_eq_false_iff_ne]
  intro e
  exact h (UInt8.toNat.inj (by omega))
def r18I : AC := AC.part [1, 1, 1, 0, 2, 2, 1, 2, 1, 1, 0] c39
def r18U : AC := AC.part [1, 2, 2, 1, 0, 2, 1, 1] r18I
set_option maxRecDepth 20000 in
theorem r18_U (s : List UInt8) (a k q : Nat) (A L : List (List AV)) (hq : q ≤ s.length) (hl : s.length ≤ 1000000) (Q : AE → St → Prop) (e : List (Nat × AV)) (pm : List (Pl × Nat)) (hp : pm = [(.s 6, 1), (.s 32, 1), (.s 4, 3)])
    (l0 : lk e 0 = .str s) (l4 : lk e 4 = .sl A) (l5 : lk e 5 = i6 a) (l6 : lk e 6 = .sl L) (l8 : lk e 8 = i6 k) (l10 : lk e 10 = i6 q)
    (h1 : s.length ≤ q ∨ s[q]? = some 10 → ∀ e', lk e' 0 = .str s → lk e' 4 = .sl A → lk e' 5 = i6 a → lk e' 6 = .sl L → lk e' 7 = i6 q → Q (.x 2) ⟨e', [], [(.s 6, 1), (.s 32, 1), (.s 4, 3)]⟩)
    (h2 : ¬ (s.length ≤ q ∨ s[q]? = some 10) → ∀ e', lk e' 0 = .str s → lk e' 4 = .sl A → lk e' 5 = i6 a → lk e' 6 = .sl L → lk e' 7 = i6 (q + 1 : Nat) → lk e' 8 = i6 k → Q .n ⟨e', [], [(.s 6, 1), (.s 32, 1), (.s 4, 3)]⟩) :
    wpA (SpH Tryz.prog gl) r18U Q ⟨e, [], pm⟩ := by
  subst hp
  have t2 : IntKind.i64.wrap ((q : Int) + 1) = (q + 1 : Nat) := by rw [wrap_i64] <;> omega
  simp only [r18U, r18I, c39, AC.part]
  by_cases gq : s.length ≤ q
  · have h1 := h1 (.inl gq)
    have gq2 : (s.length : Int) ≤ q := by omega
    clear h2 t2
    simp -implicitDefEqProofs [l0, l10, gq, gq2]
    refine h1 _ ?_ ?_ ?_ ?_ ?_ <;> simp -implicitDefEqProofs [l0, l4, l5, l6]
  · have gq3 : q < s.length := by omega
    obtain ⟨b, hb⟩ : ∃ b, s[q] = b := ⟨_, rfl⟩
    rw [List.getElem?_eq_getElem gq3, hb] at h1 h2
    have gq2 : ¬ ((s.length : Int) ≤ q) := by omega
    by_cases hb10 : b = 10
    · have h1 := h1 (.inr (by rw [hb10]))
      have c1 : ((b.toNat : Int) == 10) = true := by rw [hb10]; rfl
      clear hb10 h2 t2
      generalize hz : (b.toNat : Int) = z at *
      simp -implicitDefEqProofs [l0, l10, gq, gq2, gq3, hb, hz, c1]
      refine h1 _ ?_ ?_ ?_ ?_ ?_ <;> simp -implicitDefEqProofs [l0, l4, l5, l6]
    · have h2 := h2 (by rintro (h | h); exact gq h; exact hb10 (Option.some.inj h))
      have c1 : ((b.toNat : Int) == 10) = false := byte_ne hb10
      clear hb10 h1
      generalize hz : (b.toNat : Int) = z at *
      simp -implicitDefEqProofs [l0, l10, gq, gq2, gq3, hb, hz, c1]
      refine h2 _ ?_ ?_ ?_ ?_ ?_ ?_ <;> simp -implicitDefEqProofs [l0, l4, l5, l6, l8, t2]
set_option maxRecDepth 20000 in
theorem r18_inner (s : List UInt8) (a : Nat) (A : List (List AV)) (hl : s.length ≤ 1000000) (ha : a ≤ s.length) (L : List (List UInt8)) (E : Nat) (hLE : rwG 4 (s.drop a) = (L, E)) (Q : AE → St → Prop) (e : List (Nat × AV))
    (l0 : lk e 0 = .str s) (l4 : lk e 4 = .sl A) (l5 : lk e 5 = i6 a) (l6 : lk e 6 = .sl []) (l7 : lk e 7 = i6 a) (pm : List (Pl × Nat)) (p4 : lkP pm (.s 4) = some 3) (p6 : lkP pm (.s 6) = some 1)
    (hQ : ∀ e' X, X = [] ∨ X = [(Pl.s 32, 1)] → lk e' 0 = .str s → lk e' 4 = .sl A → lk e' 5 = i6 a → lk e' 6 = .sl (strRows L) → lk e' 7 = i6 ((a + E : Nat) : Int) → Q .n ⟨e', [], (.s 6, 1) :: (X ++ [(.s 4, 3)])⟩) :
    wpA (SpH Tryz.prog gl) r18I Q ⟨e, [], pm⟩ := by
  have hlim : lim = 140737488355328 := rfl
  have TU := fun k q L' hq Q' e' pm' hp m0 m4 m5 m6 m8 m10 h1 h2 => r18_U s a k q A L' hq hl Q' e' pm' hp m0 m4 m5 m6 m8 m10 h1 h2
  rw [show r18I = AC.cutIn [1, 2, 2, 1, 0, 2, 1, 1] r18U r18I from rfl]
  generalize r18U = U at TU ⊢
  simp only [r18I, c39, AC.part, AC.cutIn]
  simp -implicitDefEqProofs
  refine wp_lpk (α := Nat × List (List UInt8) × Nat) (fun x => ⟨[(0, .str s), (4, .sl A), (5, i6 a), (6, .sl (strRows x.2.1)), (7, i6 x.2.2), (8, i6 x.1)], [], [(.s 6, 1), (.s 4, 3)]⟩)
    (fun x => x.1 ≤ 4 ∧ x.2.1.length = x.1 ∧ x.2.2 ≤ s.length ∧ a ≤ x.2.2 ∧ x.2.1 ++ (rwG (4 - x.1) (s.drop x.2.2)).1 = L ∧ x.2.2 + (rwG (4 - x.1) (s.drop x.2.2)).2 = a + E) (fun x => 4 - x.1) ?_ (0, [], a) ?_ ?_
  · rintro K ⟨k, ws, p⟩ hK ⟨h1, h2, h3, h4, h5, h6⟩
    simp only at h1 h2 h3 h4 h5 h6
    by_cases g : k < 4
    · obtain ⟨m, hm⟩ : ∃ m, 4 - k = m + 1 := ⟨3 - k, by omega⟩
      rw [hm, rwG_step m _ _ rfl] at h5 h6
      have P := part_spec s p h3 hl
      have hle := tw_le (p := notGap) (s.drop p)
      rw [List.length_drop] at hle h5 h6
      rw [List.getElem?_drop] at h5 h6
      rw [List.drop_drop] at h5 h6
      generalize (s.drop p).takeWhile notGap = w at *
      have g2 : (k : Int) < 4 := by omega
      have t1 : IntKind.i64.wrap ((k : Int) + 1) = (k + 1 : Nat) := by rw [wrap_i64] <;> omega
      have s1 := sR_one ws
      have hll : ((strRows ws).length + 1) * 16 ≤ 140737488355328 := by rw [sR_len]; omega
      have hsa : strRows (ws ++ [w]) = strRows ws ++ [[.str w]] := by rw [sR_app]; rfl
      have hcc : (s.length - p ≤ w.length ∨ s[p + w.length]? = some 10) ↔ (s.length ≤ p + w.length ∨ s[p + w.length]? = some 10) := by
        constructor
        · rintro (h | h)
          · exact .inl (by omega)
          · exact .inr h
        · rintro (h | h)
          · exact .inl (by omega)
          · exact .inr h
      have br : s.length ≤ p + w.length ∨ s[p + w.length]? = some 10 → ∀ e', lk e' 0 = .str s → lk e' 4 = .sl A → lk e' 5 = i6 a → lk e' 6 = .sl (strRows ws ++ [[.str w]]) → lk e' 7 = i6 (p + w.length : Nat) → Q .n ⟨e', [], [(.s 6, 1), (.s 32, 1), (.s 4, 3)]⟩ := by
        intro hc e' m0 m4 m5 m6 m7
        rw [if_pos (hcc.2 hc)] at h5 h6
        exact hQ e' [(Pl.s 32, 1)] (.inr rfl) m0 m4 m5 (by rw [← h5, hsa]; exact m6) (by rw [← h6]; exact m7)
      have fin : ¬ (s.length ≤ p + w.length ∨ s[p + w.length]? = some 10) → ∀ σ', Weak σ' ⟨[(0, .str s), (4, .sl A), (5, i6 a), (6, .sl (strRows ws ++ [[.str w]])), (7, i6 (p + w.length + 1 : Nat)), (8, i6 (k + 1 : Nat))], [], [(.s 6, 1), (.s 4, 3)]⟩ → K σ' := by
        intro hc σ' hσ
        rw [if_neg (fun h => hc (hcc.1 h))] at h5 h6
        have : ¬ s.length ≤ p + w.length := fun e => hc (.inl e)
        refine hK (k + 1, ws ++ [w], p + w.length + 1) σ' ⟨by simp only; omega, by simp [h2], by simp only; omega, by simp only; omega, ?_, ?_⟩ (by simp only; omega) (by rw [hsa]; exact hσ)
        · simp only
          rw [show 4 - (k + 1) = m by omega, List.append_assoc, List.singleton_append]
          rw [show p + (w.length + 1) = p + w.length + 1 by omega] at h5
          exact h5
        · simp only
          rw [show 4 - (k + 1) = m by omega]
          rw [show p + (w.length + 1) = p + w.length + 1 by omega] at h6
          omega
      have hpq : p + w.length ≤ s.length := by omega
      clear hK hQ h5 h6 hsa hLE hcc
      generalize p + w.length = q at *
      generalize strRows ws = WS at *
      simp -implicitDefEqProofs [g, g2]
      refine onC_mk _ P ?_
      simp -implicitDefEqProofs [hlim, hll]
      refine ⟨s1, ?_⟩
      refine TU k q (WS ++ [[.str w]]) hpq _ _ _ rfl ?_ ?_ ?_ ?_ ?_ ?_ ?_ ?_
      iterate 6 (· simp -implicitDefEqProofs)
      · intro hc e' m0 m4 m5 m6 m7
        simp -implicitDefEqProofs
        exact br hc e' m0 m4 m5 m6 m7
      · intro hc e' m0 m4 m5 m6 m7 m8
        simp -implicitDefEqProofs [m8]
        refine fin hc _ ?_
        refine weak_mk ?_ ?_ ?_ ?_ ?_ ?_ <;> simp -implicitDefEqProofs [m0, m4, m5, m6, m7, m8, t1]
    · obtain rfl : k = 4 := by omega
      simp only [Nat.sub_self, rwG, List.append_nil, Nat.add_zero] at h5 h6
      subst h5
      clear hK TU
      have hQ' := fun e' => hQ e' [] (.inl rfl)
      rw [← h6] at hQ'
      simp -implicitDefEqProofs
      refine hQ' _ ?_ ?_ ?_ ?_ ?_ <;> simp -implicitDefEqProofs
  · refine ⟨by simp, rfl, ha, Nat.le_refl _, ?_, ?_⟩
    · simp only [Nat.sub_zero, List.nil_append, hLE]
    · simp only [Nat.sub_zero, hLE]
  · refine weak_mk ?_ ?_ ?_ ?_ ?_ ?_ <;> simp -implicitDefEqProofs [l0, l4, l5, l6, l7, p4, p6, strRows, lkP_dlS, Pl.at]
end Go.Ai
set_option linter.unusedSimpArgs false
set_option linter.unusedVariables false
namespace Go.Ai
open Go.Proofs
def r18T : AC := AC.part [1, 1, 1, 0, 2, 2, 1, 2, 1, 1, 1] c39
def r18K : AC := AC.part [1, 0] r18T
def r18C : AC := AC.part [1, 1, 1, 1] r18T
def kkT (x : List UInt8) (k : Nat) : Int := if kwd x < k then kwd x else 0
set_option maxRecDepth 20000 in
theorem r18_K (s : List UInt8) (a q : Int) (A T : List (List AV)) (x : List UInt8) (Q : AE → St → Prop) (e : List (Nat × AV)) (pm : List (Pl × Nat)) (p4 : lkP pm (.s 4) = some 3)
    (l0 : lk e 0 = .str s) (l4 : lk e 4 = .sl A) (l5 : lk e 5 = i6 a) (l6 : lk e 6 = .sl ([.str x] :: T)) (l7 : lk e 7 = i6 q) (l11 : lk e 11 = .ptr (.n 11) 0)
    (hQ : ∀ e', lk e' 0 = .str s → lk e' 4 = .sl A → lk e' 5 = i6 a → lk e' 6 = .sl ([.str x] :: T) → lk e' 7 = i6 q → lk e' 11 = .ptr (.n 11) 0 → Q .n ⟨e', [(.n 11, [.str [], .str [], i6 (kwd x)])], [(.s 4, 3)]⟩) :
    wpA (SpH Tryz.prog gl) r18K Q ⟨e, [(.n 11, [.str [], .str [], i6 0])], pm⟩ := by
  simp only [r18K, r18T, c39, AC.part]
  have ki := kwd_in x
  have W := rwords_spec
  have rl : words5.length = 5 := rfl
  have rat := @w5_at
  generalize words5 = W5 at *
  simp -implicitDefEqProofs
  refine wp_lpk (α := Nat) (fun k => ⟨[(0, .str s), (4, .sl A), (5, i6 a), (6, .sl ([.str x] :: T)), (7, i6 q), (11, .ptr (.n 11) 0), (12, i6 k)], [(.n 11, [.str [], .str [], i6 (kkT x k)])], [(.s 4, 3)]⟩)
    (fun k => 1 ≤ k ∧ k ≤ 5) (fun k => 5 - k) ?_ 1 ?_ ?_
  · rintro K k hK ⟨h1, h2⟩
    by_cases g : k ≤ 4
    · have g2 : (k : Int) ≤ 4 := by omega
      have t1 : IntKind.i64.wrap ((k : Int) + 1) = (k + 1 : Nat) := by rw [wrap_i64] <;> omega
      have ra := @rat k g
      have gR : k < W5.length := by omega
      have q0 : (0 : Int) ≤ k := by omega
      have fin : ∀ σ', Weak σ' ⟨[(0, .str s), (4, .sl A), (5, i6 a), (6, .sl ([.str x] :: T)), (7, i6 q), (11, .ptr (.n 11) 0), (12, i6 (k + 1 : Nat))], [(.n 11, [.str [], .str [], i6 (kkT x (k + 1))])], [(.s 4, 3)]⟩ → K σ' :=
        fun σ' hσ => hK (k + 1) σ' ⟨by omega, by omega⟩ (by omega) hσ
      by_cases hk : kwd x = k
      · have hx : x = wdK (k : Int) := by rw [← hk]; exact (wdK_kwd (by omega)).symm
        have hb : (x == wdK (k : Int)) = true := by rw [← hx]; simp
        have e1 : kkT x (k + 1) = k := by unfold kkT; rw [if_pos (by omega), hk]
        rw [e1] at fin
        clear hK rat hx hk e1 hQ ki
        generalize wdK (k : Int) = w at *
        generalize kkT x k = kk at *
        simp -implicitDefEqProofs [g, g2]
        refine onC_mk _ W ?_
        simp -implicitDefEqProofs [ra, gR, q0, hb]
        refine fin _ ?_
        refine weak_mk ?_ ?_ ?_ ?_ ?_ ?_ <;> simp -implicitDefEqProofs [t1]
      · have hb : (x == wdK (k : Int)) = false := by
          rw [beq_eq_false_iff_ne]
          intro e
          exact hk (by rw [e]; exact kwd_wdK (by omega) (by omega))
        have e1 : kkT x (k + 1) = kkT x k := by
          unfold kkT
          by_cases h : kwd x < k
          · rw [if_pos h, if_pos (by omega)]
          · rw [if_neg h, if_neg (by omega)]
        rw [e1] at fin
        clear hK rat hk e1 hQ ki
        generalize wdK (k : Int) = w at *
        generalize kkT x k = kk at *
        simp -implicitDefEqProofs [g, g2]
        refine onC_mk _ W ?_
        simp -implicitDefEqProofs [ra, gR, q0, hb]
        refine fin _ ?_
        refine weak_mk ?_ ?_ ?_ ?_ ?_ ?_ <;> simp -implicitDefEqProofs [t1]
    · obtain rfl : k = 5 := by omega
      have e1 : kkT x 5 = kwd x := by unfold kkT; rw [if_pos (by omega)]
      rw [e1]
      clear hK rat ki e1
      generalize kwd x = kx at *
      simp -implicitDefEqProofs
      refine hQ _ ?_ ?_ ?_ ?_ ?_ ?_ <;> simp -implicitDefEqProofs
  · exact ⟨Nat.le_refl _, by omega⟩
  · have e1 : kkT x 1 = 0 := by unfold kkT; split <;> omega
    rw [e1]
    refine weak_mk ?_ ?_ ?_ ?_ ?_ ?_ <;> simp -implicitDefEqProofs [l0, l4, l5, l6, l7, l11, p4, lkP_dlS, Pl.at]
def okQ (s : List UInt8) (a E : Nat) (t : Tu) : Prop := E < (s.drop a).length ∧ rightT nameT t = true ∧ lineT t = (s.drop a).take (E + 1)
instance (s : List UInt8) (a E : Nat) (t : Tu) : Decidable (okQ s a E t) := by unfold okQ; exact inferInstance
set_option maxRecDepth 20000 in
theorem r18_C (s : List UInt8) (a E : Nat) (A : List (List AV)) (t : Tu) (hl : s.length ≤ 1000000) (ha : a ≤ s.length) (hE : E ≤ s.length) (hA : A.length ≤ 1000000) (hA3 : ∀ r ∈ A, r.length = 3) (ht1 : t.1.length ≤ 900000) (ht2 : t.2.1.length ≤ 900000)
    (Q : AE → St → Prop) (e : List (Nat × AV))
    (l0 : lk e 0 = .str s) (l4 : lk e 4 = .sl A) (l5 : lk e 5 = i6 a) (l7 : lk e 7 = i6 (a + E : Nat)) (l11 : lk e 11 = .ptr (.n 11) 0)
    (hbad : ¬ okQ s a E t → ∀ e' bx' pm', lk e' 2 = .nils → lk e' 3 = .bool false → Q .r ⟨e', bx', pm'⟩)
    (hgood : okQ s a E t → ∀ e' bx' pm', lk e' 0 = .str s → lk e' 4 = .sl (A ++ [trow t]) → lk e' 5 = i6 (a + E + 1 : Nat) → lkP pm' (.s 4) = some 3 → Q .n ⟨e', bx', pm'⟩) :
    wpA (SpH Tryz.prog gl) r18C Q ⟨e, [(.n 11, trow t)], [(.s 4, 3)]⟩ := by
  simp only [r18C, r18T, c39, AC.part]
  have hlim : lim = 140737488355328 := rfl
  have RT := rright18_spec t ht1 ht2
  have LN := rline_spec t ht1 ht2
  have hkk : rightT nameT t = true → 1 ≤ t.2.2 ∧ t.2.2 ≤ 4 := fun h => (rightT_iff.1 h).1
  unfold okQ at hbad hgood
  rw [List.length_drop] at hbad hgood
  have e1 : (s.take (a + E + 1)).drop a = (s.drop a).take (E + 1) := by rw [List.drop_take]; congr 1; omega
  rw [← e1] at hbad hgood
  clear e1
  by_cases g : a + E < s.length
  · have g1 : ¬ s.length ≤ a + E := by omega
    have g2 : ¬ ((s.length : Int) ≤ (a + E : Nat)) := by omega
    cases hok : rightT nameT t
    · have hb := hbad (by rw [hok]; simp)
      rw [hok] at RT
      clear hbad hgood LN hkk
      obtain ⟨tg, tr, tk⟩ := t
      rw [trow3] at RT ⊢
      generalize a + E = q at *
      simp -implicitDefEqProofs [l0, l7, l11, g1, g2]
      refine onC_mk _ RT ?_
      simp -implicitDefEqProofs
      refine hb _ _ _ ?_ ?_ <;> simp -implicitDefEqProofs
    · rw [hok] at RT
      obtain ⟨k1, k2⟩ := hkk hok
      have LN := LN k1 k2
      have t1 : IntKind.i64.wrap (((a + E : Nat) : Int) + 1) = (a + E + 1 : Nat) := by rw [wrap_i64] <;> omega
      have hll : (A.length + 1) * 40 ≤ 140737488355328 := by omega
      have gE : E < s.length - a := by omega
      have q1 : (0 : Int) ≤ a := by omega
      have q2 : (a : Int) ≤ (a + E + 1 : Nat) := by omega
      have q3 : ((a + E + 1 : Nat) : Int) ≤ s.length := by omega
      have q4 : ((a + E + 1 : Nat) : Int).toNat = a + E + 1 := by omega
      have q5 : a + E + 1 ≤ s.length := by omega
      have q6 : a ≤ a + E + 1 := by omega
      obtain ⟨tx, htx⟩ : ∃ tx, tx = (s.take (a + E + 1)).drop a := ⟨_, rfl⟩
      rw [← htx] at hbad hgood
      by_cases hl2 : lineT t = tx
      · have hg := hgood ⟨gE, hok, hl2⟩
        have hb : (lineT t == tx) = true := by rw [hl2]; simp
        have hb2 : (lineT t != tx) = false := by unfold bne; rw [hb]; rfl
        clear hbad hgood hkk k1 k2 hl2 hb2 gE
        obtain ⟨tg, tr, tk⟩ := t
        rw [trow3] at RT LN hg ⊢
        generalize lineT (tg, tr, tk) = LT at *
        generalize a + E = q at *
        generalize hm : ((q + 1 : Nat) : Int) = m at *
        have htx' : List.drop a (List.take (q + 1) s) = tx := htx.symm
        generalize q + 1 = q' at *
        simp -implicitDefEqProofs [l0, l7, l11, g1, g2]
        refine onC_mk _ RT ?_
        simp -implicitDefEqProofs [l0, l11]
        refine onC_mk _ LN ?_
        simp -implicitDefEqProofs [l0, l5, l7, l11]
        simp only [t1]
        simp -implicitDefEqProofs [q1, q2, q3, q4, q5, q6, htx', hb, l4, l11, hlim, hll]
        refine ⟨hA3, ?_⟩
        simp -implicitDefEqProofs [l7, t1]
        refine hg _ _ _ ?_ ?_ ?_ ?_ <;> simp -implicitDefEqProofs [l0]
      · have hbd := hbad (fun h => hl2 h.2.2)
        have hb : (lineT t == tx) = false := by rw [beq_eq_false_iff_ne]; exact hl2
        have hb2 : (lineT t != tx) = true := by unfold bne; rw [hb]; rfl
        clear hbad hgood hkk k1 k2 hl2 hb2 gE
        obtain ⟨tg, tr, tk⟩ := t
        rw [trow3] at RT LN ⊢
        generalize lineT (tg, tr, tk) = LT at *
        generalize a + E = q at *
        generalize hm : ((q + 1 : Nat) : Int) = m at *
        have htx' : List.drop a (List.take (q + 1) s) = tx := htx.symm
        generalize q + 1 = q' at *
        simp -implicitDefEqProofs [l0, l7, l11, g1, g2]
        refine onC_mk _ RT ?_
        simp -implicitDefEqProofs [l0, l11]
        refine onC_mk _ LN ?_
        simp -implicitDefEqProofs [l0, l5, l7, l11]
        simp only [t1]
        simp -implicitDefEqProofs [q1, q2, q3, q4, q5, q6, htx', hb]
        refine hbd _ _ _ ?_ ?_ <;> simp -implicitDefEqProofs
  · have g1 : s.length ≤ a + E := by omega
    have g2 : ((s.length : Int) ≤ (a + E : Nat)) := by omega
    have hb := hbad (by intro h; have := h.1; omega)
    clear hbad hgood LN hkk RT
    obtain ⟨tg, tr, tk⟩ := t
    rw [trow3]
    generalize a + E = q at *
    simp -implicitDefEqProofs [l0, l7, l11, g1, g2]
    refine hb _ _ _ ?_ ?_ <;> simp -implicitDefEqProofs
end Go.Ai
set_option linter.unusedSimpArgs false
set_option linter.unusedVariables false
namespace Go.Ai
open Go.Proofs
theorem lkP_dlr_s : ∀ (l : List (Pl × Nat)) (d : Id) (o n t : Nat), lkP (dlr l d o n) (.s t) = lkP l (.s t)
  | [], _, _, _, _ => rfl
  | (.b e q, k) :: r, d, o, n, t => by
    have ih := lkP_dlr_s r d o n t
    simp only [dlr]
    split
    · rw [ih]; simp [lkP]
    · simp only [lkP, ih]
  | (.s i, k) :: r, d, o, n, t => by
    have ih := lkP_dlr_s r d o n t
    simp only [dlr, lkP, ih]
  | (.t i j, k) :: r, d, o, n, t => by
    have ih := lkP_dlr_s r d o n t
    simp only [dlr, lkP, ih]
set_option maxRecDepth 20000 in
theorem r18_T (s : List UInt8) (a E : Nat) (A : List (List AV)) (L : List (List UInt8)) (hl : s.length ≤ 100000) (ha : a ≤ s.length) (hE : E ≤ s.length) (hA : A.length ≤ 1000000) (hA3 : ∀ r ∈ A, r.length = 3) (hL0 : L ≠ []) (hLx : ∀ x ∈ L, x.length ≤ s.length)
    (Q : AE → St → Prop) (e : List (Nat × AV)) (pm : List (Pl × Nat)) (X : List (Pl × Nat)) (hX : X = [] ∨ X = [(Pl.s 32, 1)]) (hp : pm = (.s 6, 1) :: (X ++ [(.s 4, 3)]))
    (l0 : lk e 0 = .str s) (l4 : lk e 4 = .sl A) (l5 : lk e 5 = i6 a) (l6 : lk e 6 = .sl (strRows L)) (l7 : lk e 7 = i6 (a + E : Nat))
    (hbad : ¬ okQ s a E (wdsT L) → ∀ e' bx' pm', lk e' 2 = .nils → lk e' 3 = .bool false → Q .r ⟨e', bx', pm'⟩)
    (hgood : okQ s a E (wdsT L) → ∀ e' bx' pm', lk e' 0 = .str s → lk e' 4 = .sl (A ++ [trow (wdsT L)]) → lk e' 5 = i6 (a + E + 1 : Nat) → lkP pm' (.s 4) = some 3 → Q .n ⟨e', bx', pm'⟩) :
    wpA (SpH Tryz.prog gl) r18T Q ⟨e, [], pm⟩ := by
  obtain ⟨x, L', rfl⟩ := List.exists_cons_of_ne_nil hL0
  have ht1 : (wdsT (x :: L')).1.length ≤ 900000 := by
    match L' with
    | [] => simp [wdsT]
    | y :: r => have := hLx y (by simp); simp only [wdsT]; simp; omega
  have ht2 : (wdsT (x :: L')).2.1.length ≤ 900000 := by
    match L' with
    | [] => simp [wdsT]
    | [y] => simp [wdsT]
    | y :: z :: r => have := hLx z (by simp); simp only [wdsT]; simp; omega
  have TC := fun e m0 m4 m5 m7 m11 => r18_C s a E A (wdsT (x :: L')) (by omega) ha hE hA hA3 ht1 ht2 Q e m0 m4 m5 m7 m11 hbad hgood
  have sx : strRows (x :: L') = [.str x] :: strRows L' := rfl
  rw [sx] at l6
  have hp4 : lkP pm (.s 4) = some 3 := by
    subst hp
    rcases hX with rfl | rfl <;> rfl
  clear hp hX hbad hgood
  have TK := fun Q' e pm p4 m0 m4 m5 m6 m7 m11 hQ => r18_K s a (a + E : Nat) A (strRows L') x Q' e pm p4 m0 m4 m5 m6 m7 m11 hQ
  rw [show r18T = AC.cutIn [1, 0] r18K (AC.cutIn [1, 1, 1, 1] r18C r18T) from rfl]
  generalize r18K = KK at TK ⊢
  generalize r18C = CC at TC ⊢
  simp only [r18T, c39, AC.part, AC.cutIn]
  simp -implicitDefEqProofs
  refine TK _ _ _ ?_ ?_ ?_ ?_ ?_ ?_ ?_ ?_
  · rw [lkP_dlr_s]; simp -implicitDefEqProofs [lkP_dlS, Pl.at, hp4]
  · simp -implicitDefEqProofs [l0]
  · simp -implicitDefEqProofs [l4]
  · simp -implicitDefEqProofs [l5]
  · simp -implicitDefEqProofs [l6]
  · simp -implicitDefEqProofs [l7]
  · simp -implicitDefEqProofs
  · intro e' m0 m4 m5 m6 m7 m11
    clear TK
    match L', TC, m6 with
    | [], TC, m6 =>
      have ew : wdsT [x] = ([], [], kwd x) := rfl
      rw [ew, trow3] at TC
      simp only [strRows, List.map_nil] at m6
      generalize kwd x = kx at *
      simp -implicitDefEqProofs [m6]
      refine TC _ ?_ ?_ ?_ ?_ ?_ <;> simp -implicitDefEqProofs [m0, m4, m5, m7, m11]
    | [y], TC, m6 =>
      have ew : wdsT [x, y] = (y, [], kwd x) := rfl
      rw [ew, trow3] at TC
      simp only [strRows, List.map_nil, List.map_cons] at m6
      generalize kwd x = kx at *
      simp -implicitDefEqProofs [m6, m11]
      refine TC _ ?_ ?_ ?_ ?_ ?_ <;> simp -implicitDefEqProofs [m0, m4, m5, m7, m11]
    | y :: z :: r, TC, m6 =>
      have ew : wdsT (x :: y :: z :: r) = (y, z, kwd x) := rfl
      rw [ew, trow3] at TC
      simp only [strRows, List.map_cons] at m6
      generalize kwd x = kx at *
      generalize List.map (fun x => [AV.str x]) r = T at *
      have q1 : 1 < T.length + 1 + 1 + 1 := by omega
      have q2 : 2 < T.length + 1 + 1 + 1 := by omega
      have q3 : (1 : Int) < T.length + 1 + 1 + 1 := by omega
      have q4 : (2 : Int) < T.length + 1 + 1 + 1 := by omega
      simp -implicitDefEqProofs [m6, m11, q1, q2, q3, q4]
      refine TC _ ?_ ?_ ?_ ?_ ?_ <;> simp -implicitDefEqProofs [m0, m4, m5, m7, m11]
def rdV18 : Option (List Tu) → AV
  | some l => .tup [.sl (l.map trow), .bool true]
  | none => .tup [.sl [], .bool false]
set_option maxRecDepth 20000 in
theorem read18_spec (s : List UInt8) (hl : s.length ≤ 100000) : Sp Tryz.prog gl 39 [.str s] (rdV18 (rdT nameT s)) := by
  refine s39 rfl rfl ?_
  obtain ⟨R, hR⟩ : ∃ R, R = rdT nameT s := ⟨_, rfl⟩
  rw [← hR]
  have TI := fun a A ha L E hLE Q e m0 m4 m5 m6 m7 pm p4 p6 hQ => r18_inner s a A (by omega) ha L E hLE Q e m0 m4 m5 m6 m7 pm p4 p6 hQ
  have TT := fun a E A L ha hE hA hA3 hL0 hLx Q e pm X hX hp m0 m4 m5 m6 m7 hb hg => r18_T s a E A L hl ha hE hA hA3 hL0 hLx Q e pm X hX hp m0 m4 m5 m6 m7 hb hg
  rw [show c39 = AC.cutIn [1, 1, 1, 0, 2, 2, 1, 2, 1, 1, 0] r18I (AC.cutIn [1, 1, 1, 0, 2, 2, 1, 2, 1, 1, 1] r18T c39) from rfl]
  generalize r18I = II at TI ⊢
  generalize r18T = T at TT ⊢
  simp only [c39, AC.cutIn]
  simp -implicitDefEqProofs
  refine wp_lpk (α := Nat × List Tu) (fun x => ⟨[(0, .str s), (4, .sl (x.2.map trow)), (5, i6 x.1)], [], [(.s 4, 3)]⟩)
    (fun x => x.1 ≤ s.length ∧ x.2.length ≤ x.1 ∧ (rdT nameT (s.drop x.1)).map (x.2 ++ ·) = R) (fun x => s.length - x.1) ?_ (0, []) ?_ ?_
  · rintro K ⟨a, acc⟩ hK ⟨h1, h2, h3⟩
    simp only at h1 h2 h3
    by_cases g : a < s.length
    · have g2 : (a : Int) < s.length := by omega
      have hne : s.drop a ≠ [] := by intro e; have := congrArg List.length e; simp at this; omega
      obtain ⟨L, E, hLE⟩ : ∃ L E, rwG 4 (s.drop a) = (L, E) := ⟨_, _, rfl⟩
      have hb := rwG_le 4 (s.drop a)
      have hL0 := rwG_pos 3 (s.drop a)
      rw [hLE] at hb hL0
      simp only [List.length_drop] at hb hL0
      obtain ⟨hE, _, hLx⟩ := hb
      have hA3 : ∀ r ∈ acc.map trow, r.length = 3 := by
        intro r hr
        obtain ⟨⟨_, _, _⟩, _, rfl⟩ := List.mem_map.1 hr
        rfl
      have hstep : lnP nameT (s.drop a) = if okQ s a E (wdsT L) then some (wdsT L, (s.drop a).drop (E + 1)) else none := by
        rw [lineStep_eq nmOk]; unfold lnQ okQ; rw [hLE]
      have fin : okQ s a E (wdsT L) → ∀ σ', Weak σ' ⟨[(0, .str s), (4, .sl (acc.map trow ++ [trow (wdsT L)])), (5, i6 (a + E + 1 : Nat))], [], [(.s 4, 3)]⟩ → K σ' := by
        intro hok σ' hσ
        rw [if_pos hok] at hstep
        have hle : E < (s.drop a).length := hok.1
        rw [List.length_drop] at hle
        refine hK (a + E + 1, acc ++ [wdsT L]) σ' ⟨by simp only; omega, by simp; omega, ?_⟩ (by simp only; omega) (by simpa using hσ)
        simp only
        rw [rdT_some hstep, List.drop_drop] at h3
        rw [show a + E + 1 = a + (E + 1) by omega, ← h3]
        cases rdT nameT (s.drop (a + (E + 1))) <;> simp
      have bad : ¬ okQ s a E (wdsT L) → R = none := by
        intro hno
        rw [if_neg hno] at hstep
        rw [rdT_none hne hstep] at h3
        exact h3.symm
      clear hK h3 hR hstep hne
      have hAl : (acc.map trow).length ≤ 1000000 := by simp; omega
      generalize acc.map trow = A at *
      simp -implicitDefEqProofs [g, g2]
      refine TI a A h1 L E hLE _ _ ?_ ?_ ?_ ?_ ?_ _ ?_ ?_ ?_
      iterate 7 (· simp -implicitDefEqProofs)
      intro e' X hX m0 m4 m5 m6 m7
      simp -implicitDefEqProofs
      refine TT a E A L h1 (by omega) hAl hA3 hL0 (fun x hx => by have := hLx x hx; omega) _ e' _ X hX rfl m0 m4 m5 m6 m7 ?_ ?_
      · intro hno e2 bx2 pm2 n2 n3
        have hR0 := bad hno
        subst hR0
        unfold rdV18
        simp -implicitDefEqProofs [n2, n3]
      · intro hok e2 bx2 pm2 n0 n4 n5 n6
        simp -implicitDefEqProofs
        refine fin hok _ ?_
        refine weak_mk ?_ ?_ ?_ ?_ ?_ ?_ <;> simp -implicitDefEqProofs [n0, n4, n5, n6]
    · obtain rfl : a = s.length := by omega
      rw [List.drop_length, rdT_nil] at h3
      simp only [Option.map_some, List.append_nil] at h3
      subst h3
      clear hK TI TT
      unfold rdV18
      simp only
      generalize acc.map trow = A at *
      simp -implicitDefEqProofs
  · refine ⟨Nat.zero_le _, by simp, ?_⟩
    simp only [List.drop_zero]
    rw [hR]
    cases rdT nameT s <;> simp
  · refine weak_mk ?_ ?_ ?_ ?_ ?_ ?_ <;> simp -implicitDefEqProofs
end Go.Ai
set_option linter.unusedSimpArgs false
set_option linter.unusedVariables false
namespace Go.Ai
open Go.Proofs
def hvT (l : List Tu) : Bool := decide ((100 : Int) < l.length) || l.any fun t => decide ((500 : Int) < t.1.length) || decide ((500 : Int) < t.2.1.length)
theorem hvT_fit {l : List Tu} (h : hvT l = false) : l.length ≤ 100 ∧ ∀ t ∈ l, t.1.length ≤ 500 ∧ t.2.1.length ≤ 500 := by
  unfold hvT at h
  rw [Bool.or_eq_false_iff] at h
  obtain ⟨h1, h2⟩ := h
  have h1 := of_decide_eq_false h1
  refine ⟨by omega, fun t ht => ?_⟩
  have h3 := List.any_eq_false.1 h2 t ht
  rw [Bool.not_eq_true, Bool.or_eq_false_iff] at h3
  have h4 := of_decide_eq_false h3.1
  have h5 := of_decide_eq_false h3.2
  omega
set_option maxRecDepth 20000 in
theorem heavy18_spec (l : List Tu) : Sp Tryz.prog gl 32 [.sl (l.map trow)] (.bool (hvT l)) := by
  refine s32 rfl rfl ?_
  have rl : (l.map trow).length = l.length := by simp
  have rat : ∀ i (h : i < l.length), ∀ h2, (l.map trow)[i]'h2 = [.str l[i].1, .str l[i].2.1, i6 l[i].2.2] := fun i h h2 => by simp [trow, tn]
  by_cases h100 : (100 : Int) < l.length
  · have e : hvT l = true := by unfold hvT; simp [h100]
    rw [e]
    generalize l.map trow = RR at *
    have h2 : (100 : Int) < RR.length := by omega
    have h3 : 100 < RR.length := by omega
    clear rat
    simp -implicitDefEqProofs [c32, h2, h3]
  · have e : hvT l = l.any fun t => decide ((500 : Int) < t.1.length) || decide ((500 : Int) < t.2.1.length) := by unfold hvT; rw [decide_eq_false h100, Bool.false_or]
    rw [e]
    obtain ⟨R, hR⟩ : ∃ R, R = l.any fun t => decide ((500 : Int) < t.1.length) || decide ((500 : Int) < t.2.1.length) := ⟨_, rfl⟩
    rw [← hR]
    generalize l.map trow = RR at *
    have h2 : ¬ (100 : Int) < RR.length := by omega
    have h3 : ¬ 100 < RR.length := by omega
    simp -implicitDefEqProofs [c32, h2, h3]
    refine wp_lpk (α := Nat) (fun i => ⟨[(0, .sl RR), (3, i6 i)], [], []⟩) (fun i => i ≤ l.length ∧ (l.drop i).any (fun t => decide ((500 : Int) < t.1.length) || decide ((500 : Int) < t.2.1.length)) = R) (fun i => l.length - i) ?_ 0 ?_ ?_
    · rintro K i hK ⟨g1, g2⟩
      by_cases g : i < l.length
      · have t1 : IntKind.i64.wrap ((i : Int) + 1) = (i + 1 : Nat) := by rw [wrap_i64] <;> omega
        have ra := rat i g
        have gR : i < RR.length := by omega
        have g3 : (i : Int) < RR.length := by omega
        rw [List.drop_eq_getElem_cons g, List.any_cons] at g2
        have fin : (decide ((500 : Int) < l[i].1.length) || decide ((500 : Int) < l[i].2.1.length)) = false → ∀ σ', Weak σ' ⟨[(0, .sl RR), (3, i6 (i + 1 : Nat))], [], []⟩ → K σ' :=
          fun hb σ' hσ => hK (i + 1) σ' ⟨by omega, by rw [hb, Bool.false_or] at g2; exact g2⟩ (by omega) hσ
        have bad : (decide ((500 : Int) < l[i].1.length) || decide ((500 : Int) < l[i].2.1.length)) = true → R = true := fun hb => by rw [hb, Bool.true_or] at g2; exact g2.symm
        clear hK rat hR e g2
        generalize l[i] = x at *
        obtain ⟨xg, xr, xk⟩ := x
        simp only at fin bad ra
        by_cases b1 : 500 < xg.length
        · have b1' : (500 : Int) < xg.length := by omega
          have hb := bad (by simp [b1'])
          subst hb
          clear fin bad
          simp -implicitDefEqProofs [g, g3, gR, ra, b1, b1']
        · have b1' : ¬ (500 : Int) < xg.length := by omega
          by_cases b2 : 500 < xr.length
          · have b2' : (500 : Int) < xr.length := by omega
            have hb := bad (by simp [b2'])
            subst hb
            clear fin bad
            simp -implicitDefEqProofs [g, g3, gR, ra, b1, b1', b2, b2']
          · have b2' : ¬ (500 : Int) < xr.length := by omega
            have fin := fin (by rw [decide_eq_false b1', decide_eq_false b2']; rfl)
            clear bad
            simp -implicitDefEqProofs [g, g3, gR, ra, b1, b1', b2, b2']
            refine fin _ ?_
            refine weak_mk ?_ ?_ ?_ ?_ ?_ ?_ <;> simp -implicitDefEqProofs [t1]
      · obtain rfl : i = l.length := by omega
        rw [List.drop_length] at g2
        simp only [List.any_nil] at g2
        subst g2
        clear hK rat hR e
        simp -implicitDefEqProofs [rl]
    · exact ⟨Nat.zero_le _, by rw [hR]; rfl⟩
    · refine weak_mk ?_ ?_ ?_ ?_ ?_ ?_ <;> simp -implicitDefEqProofs
set_option maxRecDepth 20000 in
/-- From any text on. -/
theorem prints_read (s : List UInt8) (hs : s.length ≤ 3000) (e : List (Nat × AV)) (bx : List (Id × List AV)) (pm : List (Pl × Nat)) (l1 : lk e 1 = .str s) :
    wpA (SpH Tryz.prog gl) (AC.tl 10 c8) (postA [.t 4] (.bool true)) ⟨e, bx, pm⟩ := by
  simp only [c8, AC.tl]
  have C := cread_spec s (by omega)
  have D := read18_spec s (by omega)
  cases hr : rdT nameT s with
  | none =>
    rw [hr] at C D
    unfold rdV at C
    unfold rdV18 at D
    simp only at C D
    simp -implicitDefEqProofs [l1]
    refine onC_mk _ C ?_
    simp -implicitDefEqProofs [l1]
    refine onC_mk _ D ?_
    simp -implicitDefEqProofs
  | some l =>
    obtain ⟨g1, g2⟩ := rdT_good nmOk s.length s l (Nat.le_refl _) hr
    rw [hr] at C D
    unfold rdV at C
    unfold rdV18 at D
    simp only at C D
    have hlen : ∀ (l : List Tu), l.length ≤ (linesT l).length ∧ ∀ t ∈ l, t.1.length ≤ (linesT l).length ∧ t.2.1.length ≤ (linesT l).length := by
      intro l
      induction l with
      | nil => simp [linesT]
      | cons t r ih =>
        have e : linesT (t :: r) = lineT t ++ linesT r := rfl
        have h1 : t.1.length + t.2.1.length + 1 ≤ (lineT t).length := by
          unfold lineT bodyT headT
          split
          · rename_i h; rw [h]; simp; omega
          · simp; omega
        rw [e, List.length_append]
        refine ⟨by simp; omega, fun x hx => ?_⟩
        rcases List.mem_cons.1 hx with rfl | hx
        · omega
        · have := ih.2 x hx; omega
    obtain ⟨k1, k2⟩ := hlen l
    rw [g2] at k1 k2
    have PR := cprint_spec l (by omega) (fun t ht => by have := k2 t ht; omega)
    have ha : l.all (rightT nameT) = true := List.all_eq_true.2 g1
    unfold prV at PR
    rw [if_pos ha, g2] at PR
    have SM := sameT_spec l (by omega)
    clear k1 k2 hlen ha g1 g2 hr
    generalize l.map trow = RR at *
    simp -implicitDefEqProofs [l1]
    refine onC_mk _ C ?_
    simp -implicitDefEqProofs [l1]
    refine onC_mk _ D ?_
    simp -implicitDefEqProofs
    refine onC_mk _ PR ?_
    simp -implicitDefEqProofs
    refine onC_mk _ SM ?_
    simp -implicitDefEqProofs [l1]
end Go.Ai
