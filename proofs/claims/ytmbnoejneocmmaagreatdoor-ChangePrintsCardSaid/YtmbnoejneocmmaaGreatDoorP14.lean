/- YtmbnoejneocmmaaGreatDoorP14: part of the abstract interpreter library (values, rules, soundness against the model) or of what a function of the seat computes. Conditions: as each theorem says. -/
import Derived.Test.YtmbnoejneocmmaaGreatDoorP13
import Derived.Test.YtmbnoejneocmmaaGreatDoorCode
import Derived.Lib.LaidU8
import GoSem.PinnedTables
set_option linter.unusedSimpArgs false
set_option linter.unusedVariables false
namespace Go.Ai
open Go.Proofs
def lawU : AC := AC.part [1, 1, 1, 1, 1, 1, 0, 1, 2, 2, 1, 0, 2, 1] c8
set_option maxRecDepth 20000 in
theorem law_U (s : List UInt8) (RR : List (List AV)) (x : Tu) (i : Nat) (W : List UInt8) (b : Bool) (C : List AV) (hi : i ≤ 1000000) (gR : i < RR.length) (ra : ∀ h2, RR[i]'h2 = [.str x.1, .str x.2.1, i6 x.2.2]) (hx1 : x.1.length ≤ 5000) (hx2 : x.2.1.length ≤ 5000) (hW : W.length ≤ 100000000)
    (Q : AE → St → Prop) (e : List (Nat × AV)) (l0 : lk e 0 = .sl RR) (l1 : lk e 1 = .str s) (l5 : lk e 5 = .bool b) (l6 : lk e 6 = .str W) (l7 : lk e 7 = .ptr (.n 7) 0) (l8 : lk e 8 = i6 i)
    (hQ : ∀ e', lk e' 0 = .sl RR → lk e' 1 = .str s → lk e' 5 = .bool (b && rightT nameT x) → lk e' 6 = .str (if rightT nameT x = true then W ++ lineT x else W) → lk e' 7 = .ptr (.n 7) 0 → lk e' 8 = i6 i → Q .n ⟨e', [(.n 7, C)], []⟩) :
    wpA (SpH Tryz.prog gl) lawU Q ⟨e, [(.n 7, C)], []⟩ := by
  simp only [lawU, c8, AC.part]
  have RT := rright18_spec x (by omega) (by omega)
  have LN := rline_spec x (by omega) (by omega)
  have hkk : rightT nameT x = true → 1 ≤ x.2.2 ∧ x.2.2 ≤ 4 := fun h => (rightT_iff.1 h).1
  have hll := lineT_le x hx1 hx2
  have q0 : (0 : Int) ≤ i := by omega
  cases hr : rightT nameT x
  · rw [hr] at RT hQ
    clear LN hkk hll
    obtain ⟨g, r, k⟩ := x
    simp only at ra
    rw [trow3] at RT
    simp only [Bool.and_false, Bool.false_eq_true, if_false] at hQ
    simp -implicitDefEqProofs [l0, l8, ra, gR, q0]
    refine onC_mk _ RT ?_
    simp -implicitDefEqProofs
    refine hQ _ ?_ ?_ ?_ ?_ ?_ ?_ <;> simp -implicitDefEqProofs [l0, l1, l6, l7, l8]
  · obtain ⟨k1, k2⟩ := hkk hr
    have LN := LN k1 k2
    rw [hr] at RT hQ
    clear hkk k1 k2
    obtain ⟨g, r, k⟩ := x
    simp only at ra
    rw [trow3] at RT LN
    simp only [Bool.and_true, if_true] at hQ
    generalize lineT (g, r, k) = LT at *
    have q1 : W.length + LT.length ≤ 9223372036854775807 := by omega
    simp -implicitDefEqProofs [l0, l8, ra, gR, q0]
    refine onC_mk _ RT ?_
    simp -implicitDefEqProofs [l0, l6, l8, ra, gR, q0]
    refine onC_mk _ LN ?_
    simp -implicitDefEqProofs [q1]
    refine hQ _ ?_ ?_ ?_ ?_ ?_ ?_ <;> simp -implicitDefEqProofs [l0, l1, l5, l7, l8]
theorem lineT_le500 (t : Tu) (h1 : t.1.length ≤ 500) (h2 : t.2.1.length ≤ 500) : (lineT t).length ≤ 1010 := by
  have hw : (wdK t.2.2).length ≤ 5 := by
    unfold wdK
    repeat' split
    all_goals simp
  unfold lineT bodyT headT
  split <;> simp <;> omega
theorem linesT_le500 : ∀ (l : List Tu), (∀ t ∈ l, t.1.length ≤ 500 ∧ t.2.1.length ≤ 500) → (linesT l).length ≤ 1010 * l.length
  | [], _ => by simp [linesT]
  | t :: l, h => by
    have ih := linesT_le500 l (fun x hx => h x (by simp [hx]))
    have h1 := h t (by simp)
    have h2 := lineT_le500 t h1.1 h1.2
    have e : linesT (t :: l) = lineT t ++ linesT l := rfl
    rw [e, List.length_append, List.length_cons]; omega
set_option maxRecDepth 20000 in
theorem prints_mid (l : List Tu) (s : List UInt8) (hs : s.length ≤ 3000) (hl : l.length ≤ 100) (hf : ∀ t ∈ l, t.1.length ≤ 500 ∧ t.2.1.length ≤ 500) (W : List UInt8) (hW : l.all (rightT nameT) = true → W = linesT l) (e : List (Nat × AV))
    (l0 : lk e 0 = .sl (l.map trow)) (l1 : lk e 1 = .str s) (l5 : lk e 5 = .bool (l.all (rightT nameT))) (l6 : lk e 6 = .str W) (l7 : lk e 7 = .ptr (.n 7) 0) :
    wpA (SpH Tryz.prog gl) (AC.tl 7 c8) (postA [.t 4] (.bool true)) ⟨e, [(.n 7, cellsC l)], []⟩ := by
  have T := fun e bx pm m1 => prints_read s hs e bx pm m1
  rw [show AC.tl 7 c8 = AC.cutAt 3 (AC.tl 10 c8) (AC.tl 7 c8) from rfl]
  generalize AC.tl 10 c8 = TT at T ⊢
  simp only [c8, AC.tl, AC.cutAt]
  have PR := cprint_spec l (by omega) (fun t ht => by have := hf t ht; omega)
  have TY := tally_spec l (by omega)
  have hlen := linesT_le500 l hf
  have C := cread_spec (linesT l) (by omega)
  have SM := sameT_spec l (by omega)
  have hrd : l.all (rightT nameT) = true → rdT nameT (linesT l) = some l := fun h => rdT_lines nmOk l (List.all_eq_true.1 h)
  unfold prV at PR
  unfold cellsC at TY ⊢
  generalize ((cntT l 1 : Nat) : Int) = c1 at *
  generalize ((cntT l 2 : Nat) : Int) = c2 at *
  generalize ((cntT l 3 : Nat) : Int) = c3 at *
  generalize ((cntT l 4 : Nat) : Int) = c4 at *
  clear hlen hf
  cases hr : l.all (rightT nameT)
  · rw [hr] at PR l5
    simp only [Bool.false_eq_true, if_false] at PR
    clear C SM hrd hW
    generalize l.map trow = RR at *
    simp -implicitDefEqProofs [l0]
    refine onC_mk _ PR ?_
    simp -implicitDefEqProofs [l0]
    refine onC_mk _ TY ?_
    simp -implicitDefEqProofs [l5, l7]
    refine T _ _ _ ?_
    simp -implicitDefEqProofs [l1]
  · rw [hr] at PR l5
    simp only [if_true] at PR
    have hW := hW hr
    subst hW
    rw [hrd hr] at C
    unfold rdV at C
    simp only at C
    clear hrd hr
    generalize l.map trow = RR at *
    generalize linesT l = LT at *
    simp -implicitDefEqProofs [l0]
    refine onC_mk _ PR ?_
    simp -implicitDefEqProofs [l0]
    refine onC_mk _ TY ?_
    simp -implicitDefEqProofs [l5, l7]
    refine onC_mk _ C ?_
    simp -implicitDefEqProofs [l0, l6]
    refine onC_mk _ SM ?_
    simp -implicitDefEqProofs
    refine T _ _ _ ?_
    simp -implicitDefEqProofs [l1]
def wantT (l : List Tu) : List UInt8 := linesT (l.filter (rightT nameT))
theorem wantT_next (l : List Tu) (i : Nat) (h : i < l.length) : wantT (l.take (i + 1)) = if rightT nameT l[i] = true then wantT (l.take i) ++ lineT l[i] else wantT (l.take i) := by
  unfold wantT
  rw [List.take_succ_eq_append_getElem h, List.filter_append]
  by_cases e : rightT nameT l[i] = true
  · rw [if_pos e]
    have : List.filter (rightT nameT) [l[i]] = [l[i]] := by simp [e]
    rw [this]
    simp [linesT]
  · rw [if_neg e]
    have : List.filter (rightT nameT) [l[i]] = [] := by simp [e]
    rw [this, List.append_nil]
theorem wantT_all {l : List Tu} (h : l.all (rightT nameT) = true) : wantT l = linesT l := by
  unfold wantT
  rw [List.filter_eq_self.2 (List.all_eq_true.1 h)]
theorem wantT_le (l : List Tu) (hf : ∀ t ∈ l, t.1.length ≤ 500 ∧ t.2.1.length ≤ 500) : (wantT l).length ≤ 1010 * l.length := by
  unfold wantT
  have h1 := linesT_le500 (l.filter (rightT nameT)) (fun t ht => hf t (List.mem_filter.1 ht).1)
  have h2 := List.length_filter_le (rightT nameT) l
  have : 1010 * (l.filter (rightT nameT)).length ≤ 1010 * l.length := Nat.mul_le_mul_left _ h2
  omega
set_option maxRecDepth 20000 in
theorem changePrints_spec (l : List Tu) (s : List UInt8) : Sp Tryz.prog gl 8 [.sl (l.map trow), .str s] (.bool true) := by
  refine s8 rfl rfl ?_
  have AW := awake_spec
  have HV := heavy18_spec l
  have rl : (l.map trow).length = l.length := by simp
  have rat : ∀ i (h : i < l.length), ∀ h2, (l.map trow)[i]'h2 = [.str l[i].1, .str l[i].2.1, i6 l[i].2.2] := fun i h h2 => by simp [trow, tn]
  cases hv : hvT l
  · obtain ⟨f1, f2⟩ := hvT_fit hv
    rw [hv] at HV
    by_cases hs : (3000 : Int) < s.length
    · have hs2 : 3000 < s.length := by omega
      clear rat rl f1 f2
      generalize l.map trow = RR at *
      simp -implicitDefEqProofs [c8]
      refine onC_mk _ AW ?_
      simp -implicitDefEqProofs
      refine onC_mk _ HV ?_
      simp -implicitDefEqProofs [hs, hs2]
    · have hs2 : ¬ 3000 < s.length := by omega
      have TM := fun W hW e m0 m1 m5 m6 m7 => prints_mid l s (by omega) f1 f2 W hW e m0 m1 m5 m6 m7
      have TU := fun x i W b C hi gR ra hx1 hx2 hW Q e m0 m1 m5 m6 m7 m8 hQ => law_U s (l.map trow) x i W b C hi gR ra hx1 hx2 hW Q e m0 m1 m5 m6 m7 m8 hQ
      rw [show c8 = AC.cutAt 7 (AC.tl 7 c8) (AC.cutIn [1, 1, 1, 1, 1, 1, 0, 1, 2, 2, 1, 0, 2, 1] lawU c8) from rfl]
      generalize AC.tl 7 c8 = T7 at TM ⊢
      generalize lawU = UU at TU ⊢
      simp only [c8, AC.cutAt, AC.cutIn]
      have wl : ∀ i, (wantT (l.take i)).length ≤ 101000 := fun i => by
        have h1 := wantT_le (l.take i) (fun t ht => f2 t (List.mem_of_mem_take ht))
        have h2 : (l.take i).length ≤ 100 := by simp; omega
        have : 1010 * (l.take i).length ≤ 1010 * 100 := Nat.mul_le_mul_left _ h2
        omega
      have z0 : cellsC (l.take 0) = [i6 0, i6 0, i6 0, i6 0] := rfl
      have w0 : wantT (l.take 0) = [] := rfl
      have r0 : (l.take 0).all (rightT nameT) = true := rfl
      have wA : l.all (rightT nameT) = true → wantT l = linesT l := wantT_all
      generalize l.map trow = RR at *
      simp -implicitDefEqProofs
      refine onC_mk _ AW ?_
      simp -implicitDefEqProofs
      refine onC_mk _ HV ?_
      simp -implicitDefEqProofs [hs, hs2]
      refine wp_lpk (α := Nat) (fun i => ⟨[(0, .sl RR), (1, .str s), (5, .bool ((l.take i).all (rightT nameT))), (6, .str (wantT (l.take i))), (7, .ptr (.n 7) 0), (8, i6 i)], [(.n 7, cellsC (l.take i))], []⟩) (fun i => i ≤ l.length) (fun i => l.length - i) ?_ 0 ?_ ?_
      · rintro K i hK h1
        by_cases g : i < l.length
        · have t1 : IntKind.i64.wrap ((i : Int) + 1) = (i + 1 : Nat) := by rw [wrap_i64] <;> omega
          have ra := rat i g
          have gR : i < RR.length := by omega
          have g2 : (i : Int) < RR.length := by omega
          have hal : (l.take (i + 1)).all (rightT nameT) = ((l.take i).all (rightT nameT) && rightT nameT l[i]) := by
            rw [List.take_succ_eq_append_getElem g, List.all_append]; simp
          have fin : ∀ σ', Weak σ' ⟨[(0, .sl RR), (1, .str s), (5, .bool ((l.take i).all (rightT nameT) && rightT nameT l[i])), (6, .str (if rightT nameT l[i] = true then wantT (l.take i) ++ lineT l[i] else wantT (l.take i))), (7, .ptr (.n 7) 0), (8, i6 (i + 1 : Nat))], [(.n 7, cellsC (l.take (i + 1)))], []⟩ → K σ' := by
            intro σ' hσ
            rw [← hal, ← wantT_next l i g] at hσ
            exact hK (i + 1) σ' (by omega) (by omega) hσ
          have hm := f2 _ (List.getElem_mem g)
          have wi := wl i
          have n1 := cntT_next l 1 i g
          have n2 := cntT_next l 2 i g
          have n3 := cntT_next l 3 i g
          have n4 := cntT_next l 4 i g
          have b1 := cntT_le l 1 i
          have b2 := cntT_le l 2 i
          have b3 := cntT_le l 3 i
          have b4 := cntT_le l 4 i
          have TU := fun C Q e m0 m1 m5 m6 m7 m8 hQ => TU (l[i]'g) i (wantT (l.take i)) ((l.take i).all (rightT nameT)) C (by omega) gR ra (by omega) (by omega) (by omega) Q e m0 m1 m5 m6 m7 m8 hQ
          clear hK rat z0 w0 r0 wA wl TM hal
          unfold cellsC at fin ⊢
          rw [n1, n2, n3, n4] at fin
          clear n1 n2 n3 n4
          generalize wantT (l.take i) = Wt at *
          generalize (l.take i).all (rightT nameT) = bb at *
          generalize l[i] = x at *
          generalize cntT (l.take i) 1 = c1 at *
          generalize cntT (l.take i) 2 = c2 at *
          generalize cntT (l.take i) 3 = c3 at *
          generalize cntT (l.take i) 4 = c4 at *
          obtain ⟨xg, xr, k⟩ := x
          simp only at fin ra
          generalize (if rightT nameT (xg, xr, k) = true then Wt ++ lineT (xg, xr, k) else Wt) = W' at *
          generalize (bb && rightT nameT (xg, xr, k)) = bb' at *
          have w1 : IntKind.i64.wrap ((c1 : Int) + 1) = (c1 + 1 : Nat) := by rw [wrap_i64] <;> omega
          have w2 : IntKind.i64.wrap ((c2 : Int) + 1) = (c2 + 1 : Nat) := by rw [wrap_i64] <;> omega
          have w3 : IntKind.i64.wrap ((c3 : Int) + 1) = (c3 + 1 : Nat) := by rw [wrap_i64] <;> omega
          have w4 : IntKind.i64.wrap ((c4 : Int) + 1) = (c4 + 1 : Nat) := by rw [wrap_i64] <;> omega
          by_cases hk : 1 ≤ k ∧ k ≤ 4
          · have : k = 1 ∨ k = 2 ∨ k = 3 ∨ k = 4 := by omega
            rcases this with rfl | rfl | rfl | rfl
            · have wk : IntKind.i64.wrap 0 = 0 := by decide
              simp only [show ((1 : Int) = 1) = True by simp, show ((1 : Int) = 2) = False by simp, show ((1 : Int) = 3) = False by simp, show ((1 : Int) = 4) = False by simp, if_true, if_false, Nat.add_zero] at fin
              generalize ((c1 + 1 : Nat) : Int) = m at *
              simp -implicitDefEqProofs [g, g2, gR, ra]
              simp -implicitDefEqProofs [wk, w1]
              refine TU _ _ _ ?_ ?_ ?_ ?_ ?_ ?_ ?_
              iterate 6 (· simp -implicitDefEqProofs)
              intro e' m0 m1 m5 m6 m7 m8
              simp -implicitDefEqProofs [m8]
              refine fin _ ?_
              refine weak_mk ?_ ?_ ?_ ?_ ?_ ?_ <;> simp -implicitDefEqProofs [m0, m1, m5, m6, m7, m8, t1]
            · have wk : IntKind.i64.wrap 1 = 1 := by decide
              simp only [show ((2 : Int) = 1) = False by simp, show ((2 : Int) = 2) = True by simp, show ((2 : Int) = 3) = False by simp, show ((2 : Int) = 4) = False by simp, if_true, if_false, Nat.add_zero] at fin
              generalize ((c2 + 1 : Nat) : Int) = m at *
              simp -implicitDefEqProofs [g, g2, gR, ra]
              simp -implicitDefEqProofs [wk, w2]
              refine TU _ _ _ ?_ ?_ ?_ ?_ ?_ ?_ ?_
              iterate 6 (· simp -implicitDefEqProofs)
              intro e' m0 m1 m5 m6 m7 m8
              simp -implicitDefEqProofs [m8]
              refine fin _ ?_
              refine weak_mk ?_ ?_ ?_ ?_ ?_ ?_ <;> simp -implicitDefEqProofs [m0, m1, m5, m6, m7, m8, t1]
            · have wk : IntKind.i64.wrap 2 = 2 := by decide
              simp only [show ((3 : Int) = 1) = False by simp, show ((3 : Int) = 2) = False by simp, show ((3 : Int) = 3) = True by simp, show ((3 : Int) = 4) = False by simp, if_true, if_false, Nat.add_zero] at fin
              generalize ((c3 + 1 : Nat) : Int) = m at *
              simp -implicitDefEqProofs [g, g2, gR, ra]
              simp -implicitDefEqProofs [wk, w3]
              refine TU _ _ _ ?_ ?_ ?_ ?_ ?_ ?_ ?_
              iterate 6 (· simp -implicitDefEqProofs)
              intro e' m0 m1 m5 m6 m7 m8
              simp -implicitDefEqProofs [m8]
              refine fin _ ?_
              refine weak_mk ?_ ?_ ?_ ?_ ?_ ?_ <;> simp -implicitDefEqProofs [m0, m1, m5, m6, m7, m8, t1]
            · have wk : IntKind.i64.wrap 3 = 3 := by decide
              simp only [show ((4 : Int) = 1) = False by simp, show ((4 : Int) = 2) = False by simp, show ((4 : Int) = 3) = False by simp, show ((4 : Int) = 4) = True by simp, if_true, if_false, Nat.add_zero] at fin
              generalize ((c4 + 1 : Nat) : Int) = m at *
              simp -implicitDefEqProofs [g, g2, gR, ra]
              simp -implicitDefEqProofs [wk, w4]
              refine TU _ _ _ ?_ ?_ ?_ ?_ ?_ ?_ ?_
              iterate 6 (· simp -implicitDefEqProofs)
              intro e' m0 m1 m5 m6 m7 m8
              simp -implicitDefEqProofs [m8]
              refine fin _ ?_
              refine weak_mk ?_ ?_ ?_ ?_ ?_ ?_ <;> simp -implicitDefEqProofs [m0, m1, m5, m6, m7, m8, t1]
          · simp only [if_neg (show ¬ k = 1 by omega), if_neg (show ¬ k = 2 by omega), if_neg (show ¬ k = 3 by omega), if_neg (show ¬ k = 4 by omega), Nat.add_zero] at fin
            by_cases hk1 : 1 ≤ k
            · have hk4 : ¬ k ≤ 4 := fun h => hk ⟨hk1, h⟩
              simp -implicitDefEqProofs [g, g2, gR, ra, hk1, hk4]
              refine TU _ _ _ ?_ ?_ ?_ ?_ ?_ ?_ ?_
              iterate 6 (· simp -implicitDefEqProofs)
              intro e' m0 m1 m5 m6 m7 m8
              simp -implicitDefEqProofs [m8]
              refine fin _ ?_
              refine weak_mk ?_ ?_ ?_ ?_ ?_ ?_ <;> simp -implicitDefEqProofs [m0, m1, m5, m6, m7, m8, t1]
            · simp -implicitDefEqProofs [g, g2, gR, ra, hk1]
              refine TU _ _ _ ?_ ?_ ?_ ?_ ?_ ?_ ?_
              iterate 6 (· simp -implicitDefEqProofs)
              intro e' m0 m1 m5 m6 m7 m8
              simp -implicitDefEqProofs [m8]
              refine fin _ ?_
              refine weak_mk ?_ ?_ ?_ ?_ ?_ ?_ <;> simp -implicitDefEqProofs [m0, m1, m5, m6, m7, m8, t1]
        · obtain rfl : i = l.length := by omega
          clear hK rat z0 w0 r0 TU wl
          rw [List.take_length]
          generalize cellsC l = CC at *
          generalize wantT l = Wt at *
          have g3 : ¬ (l.length : Int) < RR.length := by omega
          have g4 : ¬ l.length < RR.length := by omega
          simp -implicitDefEqProofs [g3, g4]
          refine TM Wt wA _ ?_ ?_ ?_ ?_ ?_ <;> simp -implicitDefEqProofs
      · exact Nat.zero_le _
      · rw [z0, w0, r0]
        refine weak_mk ?_ ?_ ?_ ?_ ?_ ?_ <;> simp -implicitDefEqProofs
  · rw [hv] at HV
    clear rat rl
    generalize l.map trow = RR at *
    simp -implicitDefEqProofs [c8]
    refine onC_mk _ AW ?_
    simp -implicitDefEqProofs
    refine onC_mk _ HV ?_
    simp -implicitDefEqProofs
end Go.Ai
set_option linter.unusedSimpArgs false
set_option linter.unusedVariables false
namespace Go.Ai
open Go.Proofs Go.Lib
set_option maxRecDepth 100000
/-! ### The listed tables of unicode/utf8, as cells -/
def accCells : List Value := (List.range 32).map fun o => Value.int .u8 (if o % 2 = 0 then (accLo (o / 2) : Int) else (accHi (o / 2) : Int))
def firstCells : List Value := firstTab.map fun z => Value.int .u8 z
theorem first_cell {W : World} (h : VarReads Tryz.prog W "unicode/utf8.first" firstData) (o : Nat) (u : Value) (hu : firstCells[o]? = some u) : W.cell? ⟨1, o, none⟩ = some u ∧ u.oneCell' = true := by
  have hg0 : Tryz.prog.globalNamed "unicode/utf8.first" = some 1 := by kernel_rfl
  have ht0 : (Tryz.prog.globals[1]?).map (·.type) = some 299 := by kernel_rfl
  obtain ⟨g, t, cs, fuel, p, hg, hty, hvar, hd⟩ := h
  obtain rfl := Option.some.inj (hg0.symm.trans hg)
  obtain rfl := Option.some.inj (ht0.symm.trans hty)
  have hcs := cells_of_tab (t := 299) (e := 5) (n := 256) (by kernel_rfl) (by kernel_rfl) (by kernel_rfl) (by kernel_rfl) hd
  refine ⟨?_, ?_⟩
  · rw [World.var?_cell hg hvar o, ← Array.getElem?_toList, hcs]
    exact hu
  · obtain ⟨z, _, rfl⟩ := List.mem_map.1 (List.mem_of_getElem? hu)
    rfl
theorem acc_cell {W : World} (h : VarReads Tryz.prog W "unicode/utf8.acceptRanges" acceptData) (o : Nat) (u : Value) (hu : accCells[o]? = some u) : W.cell? ⟨2, o, none⟩ = some u ∧ u.oneCell' = true := by
  have hg0 : Tryz.prog.globalNamed "unicode/utf8.acceptRanges" = some 2 := by kernel_rfl
  have ht0 : (Tryz.prog.globals[2]?).map (·.type) = some 314 := by kernel_rfl
  have hc0 : Tryz.prog.cellsOf 313 = 2 := by kernel_rfl
  obtain ⟨g, t, cs, fuel, p, hg, hty, hvar, hd⟩ := h
  obtain rfl := Option.some.inj (hg0.symm.trans hg)
  obtain rfl := Option.some.inj (ht0.symm.trans hty)
  have ho : o < 32 := by have := (List.getElem?_eq_some_iff.1 hu).1; simpa [accCells] using this
  simp only [accCells, List.getElem?_map, List.getElem?_range ho, Option.map_some, Option.some.injEq] at hu
  subst hu
  refine ⟨?_, by split <;> rfl⟩
  have hi : o / 2 < 16 := by omega
  obtain ⟨fuel', d, q, hdi, he⟩ := array_elem (t := 314) (e := 313) (n := 16) (by kernel_rfl) hd (o / 2) hi
  simp only [List.getElem?_map, List.getElem?_range hi, Option.map_some, Option.some.injEq] at hdi
  subst hdi
  rw [hc0] at he
  obtain ⟨fs, hfs, hsz, hf⟩ : ∃ fs : Array Field, Tryz.prog.underlying 313 = some (.struct fs) ∧ fs.size = 2 ∧ ∀ (i : Nat) (f : Field), fs[i]? = some f → Tryz.prog.underlying f.type = some (.int .u8) ∧ f.offset = i ∧ Tryz.prog.cellsOf f.type = 1 := by
    refine ⟨_, (by kernel_rfl : Tryz.prog.underlying 313 = some (.struct #[Field.mk "lo" 5 0 false "" "unicode/utf8" 0, Field.mk "hi" 5 1 false "" "unicode/utf8" 1])), rfl, fun j f hj => ?_⟩
    match j, hj with
    | 0, hj => simp at hj; subst hj; exact ⟨by kernel_rfl, rfl, by kernel_rfl⟩
    | 1, hj => simp at hj; subst hj; exact ⟨by kernel_rfl, rfl, by kernel_rfl⟩
    | j + 2, hj => simp at hj
  have hcs := ints_of_struct hfs hf (by rw [hc0, hsz]) he
  have e0 := congrArg (·[0]?) hcs
  have e1 := congrArg (·[1]?) hcs
  simp only [List.getElem?_take, List.getElem?_drop] at e0 e1
  rw [World.var?_cell hg hvar o, ← Array.getElem?_toList]
  by_cases hp : o % 2 = 0
  · rw [if_pos hp]
    have eo : o / 2 * 2 + 0 = o := by omega
    rw [eo] at e0
    simpa using e0
  · rw [if_neg hp]
    have eo : o / 2 * 2 + 1 = o := by omega
    rw [eo] at e1
    simpa using e1
end Go.Ai
