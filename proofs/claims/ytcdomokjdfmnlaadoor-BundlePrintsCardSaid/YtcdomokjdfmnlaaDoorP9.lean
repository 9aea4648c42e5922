/- YtcdomokjdfmnlaaDoorP9: part of the abstract interpreter library (values, rules, soundness against the model) or of what a function of the seat computes. Conditions: as each theorem says. -/
import Derived.Test.YtcdomokjdfmnlaaDoorP8
set_option linter.unusedSimpArgs false
set_option linter.unusedVariables false
namespace Go.Ai
open Go.Proofs Go.RowKit
def readR (s : List UInt8) : AV := .tup [.agg (readK s).1.row, i6 (if (readK s).2 = true then 0 else 5)]
set_option maxRecDepth 20000 in
theorem kread_tail (x0 x1 x2 x3 x4 : List UInt8) (l0 : x0.length ≤ 4000) (l1 : x1.length ≤ 4000) (l3 : x3.length ≤ 4000) (R : AV) (hR : R = if goodK x0 x1 x2 x3 x4 = true then .tup [.agg (keyOf x0 x1 x2 x3 x4).row, i6 0] else .tup [.agg kz.row, i6 5]) (e : List (Nat × AV)) (it : List AV) (pm : List (Pl × Nat))
    (h2 : lk e 2 = .ptr (.n 2) 0) (h4 : lk e 4 = .sl [[.str x0], [.str x1], [.str x2], [.str x3], [.str x4]]) :
    wpA (SpH Tryd.prog gl) (AC.tl 6 c75) (postA [.ca 2 5, .t 3] R) ⟨e, [(.n 2, [.str [], .str [], .bool false, u 0, .bool false]), (.it 16, it)], pm⟩ := by
  simp only [c75, AC.tl]
  have N := xread_spec x3 (by omega)
  have W1 := which_spec x2 [112, 97, 103, 101] [116, 105, 99, 107, 101, 116]
  have W2 := which_spec x4 [114, 101, 115, 111, 108, 118, 101] [102, 105, 114, 101]
  have Q := kright_spec (keyOf x0 x1 x2 x3 x4) (by show x0.length ≤ _; omega) (by show x1.length ≤ _; omega)
  unfold goodK at hR
  generalize rightK (keyOf x0 x1 x2 x3 x4) = rt at *
  unfold keyOf at Q hR
  unfold wide at N
  rw [krow] at Q hR
  simp only at Q hR
  generalize (readN x3).2 = n2 at *
  generalize (readN x3).1 / 18446744073709551616 = hi at *
  generalize (readN x3).1 % 18446744073709551616 = lo at *
  generalize (x2 == [112, 97, 103, 101]) = p1 at *
  generalize (x2 == [116, 105, 99, 107, 101, 116]) = p2 at *
  generalize (x4 == [114, 101, 115, 111, 108, 118, 101]) = f1 at *
  generalize (x4 == [102, 105, 114, 101]) = f2 at *
  generalize (p1 || p2) = sv at *
  generalize (f1 || f2) = fs at *
  rw [show kz.row = [.str [], .str [], .bool false, u 0, .bool false] from rfl] at hR
  by_cases c1 : n2 = 0
  · subst c1
    by_cases c2 : hi = 0
    · subst c2
      cases sv
      · have : R = .tup [.agg [.str [], .str [], .bool false, u 0, .bool false], i6 5] := by rw [hR]; rfl
        subst this; clear hR
        simp -implicitDefEqProofs [h2, h4]
        refine onC_mk _ N ?_
        simp -implicitDefEqProofs [h2, h4]
        refine onC_mk _ W1 ?_
        simp -implicitDefEqProofs [h2, h4]
        refine onC_mk _ W2 ?_
        simp -implicitDefEqProofs [h2, h4]
      · cases fs
        · have : R = .tup [.agg [.str [], .str [], .bool false, u 0, .bool false], i6 5] := by rw [hR]; rfl
          subst this; clear hR
          simp -implicitDefEqProofs [h2, h4]
          refine onC_mk _ N ?_
          simp -implicitDefEqProofs [h2, h4]
          refine onC_mk _ W1 ?_
          simp -implicitDefEqProofs [h2, h4]
          refine onC_mk _ W2 ?_
          simp -implicitDefEqProofs [h2, h4]
        · cases rt
          · have : R = .tup [.agg [.str [], .str [], .bool false, u 0, .bool false], i6 5] := by rw [hR]; rfl
            subst this; clear hR
            simp -implicitDefEqProofs [h2, h4]
            refine onC_mk _ N ?_
            simp -implicitDefEqProofs [h2, h4]
            refine onC_mk _ W1 ?_
            simp -implicitDefEqProofs [h2, h4]
            refine onC_mk _ W2 ?_
            simp -implicitDefEqProofs [h2, h4]
            refine onC_mk _ Q ?_
            simp -implicitDefEqProofs [h2, h4]
          · have : R = .tup [.agg [.str x0, .str x1, .bool p1, u lo, .bool f1], i6 0] := by rw [hR]; rfl
            subst this; clear hR
            simp -implicitDefEqProofs [h2, h4]
            refine onC_mk _ N ?_
            simp -implicitDefEqProofs [h2, h4]
            refine onC_mk _ W1 ?_
            simp -implicitDefEqProofs [h2, h4]
            refine onC_mk _ W2 ?_
            simp -implicitDefEqProofs [h2, h4]
            refine onC_mk _ Q ?_
            simp -implicitDefEqProofs [h2, h4]
    · have c2' : (0 : Int) < hi := by omega
      have c2n : 0 < hi := by omega
      have : R = .tup [.agg [.str [], .str [], .bool false, u 0, .bool false], i6 5] := by rw [hR]; simp [c2]
      subst this; clear hR
      simp -implicitDefEqProofs [h2, h4]
      refine onC_mk _ N ?_
      simp -implicitDefEqProofs [h2, h4]
      refine onC_mk _ W1 ?_
      simp -implicitDefEqProofs [h2, h4]
      refine onC_mk _ W2 ?_
      simp -implicitDefEqProofs [h2, h4, c2', c2n]
  · have c1' : ((n2 : Int) != 0) = true := by simp [c1]
    have : R = .tup [.agg [.str [], .str [], .bool false, u 0, .bool false], i6 5] := by rw [hR]; simp [c1]
    subst this; clear hR
    simp -implicitDefEqProofs [h2, h4]
    refine onC_mk _ N ?_
    simp -implicitDefEqProofs [h2, h4]
    refine onC_mk _ W1 ?_
    simp -implicitDefEqProofs [h2, h4]
    refine onC_mk _ W2 ?_
    simp -implicitDefEqProofs [h2, h4, c1', c1]
theorem strRows_one (l : List (List UInt8)) : ∀ r ∈ strRows l, r.length = 1 := by
  intro r hr; simp only [strRows, List.mem_map] at hr; obtain ⟨x, _, rfl⟩ := hr; rfl
theorem strRows_len (l : List (List UInt8)) : (strRows l).length = l.length := by simp [strRows]
theorem strRows_app (l : List (List UInt8)) (x : List UInt8) : strRows (l ++ [x]) = strRows l ++ [[.str x]] := by simp [strRows]
theorem strRows_cons (x : List UInt8) (l : List (List UInt8)) : strRows (x :: l) = [.str x] :: strRows l := rfl
set_option maxRecDepth 20000 in
theorem kread_spec (s : List UInt8) (hl : s.length ≤ 3500) : Sp Tryd.prog gl 75 [.str s] (readR s) := by
  refine s75 rfl rfl ?_
  have T : ∀ x0 x1 x2 x3 x4, spl [] s = [x0, x1, x2, x3, x4] → ∀ (e : List (Nat × AV)) (it : List AV) (pm : List (Pl × Nat)), lk e 2 = .ptr (.n 2) 0 → lk e 4 = .sl [[.str x0], [.str x1], [.str x2], [.str x3], [.str x4]] →
      wpA (SpH Tryd.prog gl) (AC.tl 6 c75) (postA [.ca 2 5, .t 3] (readR s)) ⟨e, [(.n 2, [.str [], .str [], .bool false, u 0, .bool false]), (.it 16, it)], pm⟩ := by
    intro x0 x1 x2 x3 x4 hs e it pm h2 h4
    have hx := spl_lens [] s
    rw [hs] at hx
    simp only [List.length_nil, Nat.zero_add] at hx
    have l0 := hx x0 (by simp)
    have l1 := hx x1 (by simp)
    have l3 := hx x3 (by simp)
    refine kread_tail x0 x1 x2 x3 x4 (by omega) (by omega) (by omega) (readR s) ?_ e it pm h2 h4
    unfold readR readK
    rw [hs]
    simp only
    by_cases hg : goodK x0 x1 x2 x3 x4 = true
    · simp [hg]
    · simp [hg]
  have bad : (spl [] s).length ≠ 5 → readR s = .tup [.agg [.str [], .str [], .bool false, u 0, .bool false], i6 5] := by
    intro h
    unfold readR readK
    split
    · rename_i hs; rw [hs] at h; exact absurd rfl h
    · rfl
  have hsl := spl_len [] s
  have h5 : ∀ l : List (List UInt8), l.length = 5 → ∃ x0 x1 x2 x3 x4, l = [x0, x1, x2, x3, x4] := by
    intro l hl
    match l, hl with
    | [a, b, c, d, e], _ => exact ⟨a, b, c, d, e, rfl⟩
  have hlim : lim = 140737488355328 := rfl
  have ec : c75 = AC.cutAt 6 (AC.tl 6 c75) c75 := rfl
  rw [ec]
  generalize AC.tl 6 c75 = t at T ⊢
  simp only [c75, AC.cutAt]
  generalize readR s = R at *
  obtain ⟨L, hL⟩ : ∃ L, L = spl [] s := ⟨_, rfl⟩
  rw [← hL] at T bad hsl
  simp -implicitDefEqProofs
  refine wp_lpk (α := Nat × Nat × List (List UInt8)) (fun x => ⟨[(0, .str s), (2, .ptr (.n 2) 0), (3, i6 0), (4, .sl (strRows x.2.2)), (5, i6 x.2.1), (16, .itp 16)], [(.n 2, [.str [], .str [], .bool false, u 0, .bool false]), (.it 16, [.itr s x.1])], [(.s 4, 1)]⟩)
    (fun x => x.1 ≤ s.length ∧ x.2.1 ≤ x.1 ∧ x.2.2.length ≤ x.1 ∧ x.2.2 ++ spl ((s.take x.1).drop x.2.1) (s.drop x.1) = L) (fun x => s.length - x.1) ?_ (0, 0, []) ?_ ?_
  · rintro K ⟨i, fr, l⟩ hK ⟨h1, h2, h3, h4⟩
    simp only at h1 h2 h3 h4
    have one := strRows_one l
    have rl := strRows_len l
    have q3 : (l.length + 1) * 16 ≤ 140737488355328 := by omega
    by_cases g : i < s.length
    · by_cases hb : s[i] = 47
      · have r := rune_stroke g hb
        rw [spl_at g hb] at h4
        obtain ⟨seg, hseg⟩ : ∃ seg, List.drop fr (List.take i s) = seg := ⟨_, rfl⟩
        rw [hseg] at h4
        have fin : ∀ σ', Weak σ' ⟨[(0, .str s), (2, .ptr (.n 2) 0), (3, i6 0), (4, .sl (strRows (l ++ [seg]))), (5, i6 (i + 1 : Nat)), (16, .itp 16)], [(.n 2, [.str [], .str [], .bool false, u 0, .bool false]), (.it 16, [.itr s (i + 1)])], [(.s 4, 1)]⟩ → K σ' :=
          fun σ' hσ => hK (i + 1, i + 1, l ++ [seg]) σ' ⟨by simp only; omega, by simp only; omega, by simp only [List.length_append, List.length_singleton]; omega, by simp only [List.append_assoc, List.singleton_append]; exact h4⟩ (by simp only; omega) hσ
        have t1 : IntKind.i64.wrap ((i : Int) + 1) = (i + 1 : Nat) := by rw [wrap_i64] <;> omega
        have q1 : (fr : Int) ≤ i := by omega
        have q2 : (i : Int) ≤ s.length := by omega
        clear hK h4 T bad
        rw [strRows_app] at fin
        generalize strRows l = RR at *
        simp -implicitDefEqProofs [g, r, q1, q2, h1, h2, hlim, rl, q3, hseg]
        refine ⟨one, fin _ (weak_mk ?_ ?_ ?_ ?_ ?_ ?_)⟩ <;> simp -implicitDefEqProofs [t1]
      · obtain ⟨r1, r2, r3, r4⟩ := rune_seg g hb
        rw [spl_step h2 r3 r4] at h4
        have fin : ∀ σ', Weak σ' ⟨[(0, .str s), (2, .ptr (.n 2) 0), (3, i6 0), (4, .sl (strRows l)), (5, i6 fr), (16, .itp 16)], [(.n 2, [.str [], .str [], .bool false, u 0, .bool false]), (.it 16, [.itr s (i + (runeAt s i).2)])], [(.s 4, 1)]⟩ → K σ' :=
          fun σ' hσ => hK (i + (runeAt s i).2, fr, l) σ' ⟨r3, by simp only; omega, by simp only; omega, h4⟩ (by simp only; omega) hσ
        have n47 : ((runeAt s i).1 == 47) = false := by simp [r1]
        clear hK h4 T bad r4
        generalize strRows l = RR at *
        simp -implicitDefEqProofs [g, n47]
        refine fin _ (weak_mk ?_ ?_ ?_ ?_ ?_ ?_) <;> simp -implicitDefEqProofs
    · obtain rfl : i = s.length := by omega
      rw [spl_end] at h4
      clear hK
      have q1 : (fr : Int) ≤ s.length := by omega
      have hll : l.length + 1 = L.length := by rw [← h4]; simp
      by_cases h6 : l.length = 4
      · obtain ⟨x0, x1, x2, x3, x4, e5⟩ := h5 L (by omega)
        have T' := T x0 x1 x2 x3 x4 e5
        rw [e5] at h4
        obtain ⟨y0, y1, y2, y3, rfl⟩ : ∃ y0 y1 y2 y3, l = [y0, y1, y2, y3] := by
          match l, h6 with
          | [a, b, c, d], _ => exact ⟨a, b, c, d, rfl⟩
        simp only [List.cons_append, List.nil_append, List.cons.injEq, and_true] at h4
        obtain ⟨rfl, rfl, rfl, rfl, h4⟩ := h4
        simp only [strRows, List.map_cons, List.map_nil]
        clear T bad
        simp -implicitDefEqProofs [q1, h2, hlim, h4]
        refine T' _ _ _ ?_ ?_ <;> simp -implicitDefEqProofs
      · have := bad (by omega)
        subst this
        clear T bad
        have c5 : ((l.length : Int) + 1 != 5) = true := by simp; omega
        have c5n : ¬ l.length = 4 := h6
        generalize strRows l = RR at *
        simp -implicitDefEqProofs [q1, h2, hlim, rl, q3, c5]
        exact one
  · exact ⟨Nat.zero_le _, Nat.le_refl _, Nat.le_refl _, by simp [hL]⟩
  · refine weak_mk ?_ ?_ ?_ ?_ ?_ ?_ <;> simp -implicitDefEqProofs [strRows]
end Go.Ai
set_option linter.unusedSimpArgs false
set_option linter.unusedVariables false
namespace Go.Ai
open Go.Proofs Go.RowKit
def rreadR (s : List UInt8) : AV := .tup [.agg (readK s).1.row, .bool (readK s).2]
theorem rreadR_eq (s : List UInt8) : AV.tup [.agg (rreadK s).1.row, .bool (rreadK s).2] = rreadR s := by rw [rread_eq]; rfl
set_option maxRecDepth 20000 in
theorem rread25_tail (i4 : Id) (hi4 : i4 = .n 9 ∨ i4 = .n 22) (s x0 x1 x2 x3 x4 : List UInt8) (l0 : x0.length ≤ 4000) (l1 : x1.length ≤ 4000) (l3 : x3.length ≤ 4000) (R : AV)
    (hR : R = if (readN x3).1 / 18446744073709551616 = 0 ∧ rightK (keyOf x0 x1 x2 x3 x4) = true ∧ printK (keyOf x0 x1 x2 x3 x4) = s then .tup [.agg (keyOf x0 x1 x2 x3 x4).row, .bool true] else .tup [.agg kz.row, .bool false]) (e : List (Nat × AV)) (pm : List (Pl × Nat))
    (h0 : lk e 0 = .str s) (h2 : lk e 2 = .ptr (.n 2) 0) (h4 : lk e 4 = .ms i4 0 5 1) :
    wpA (SpH Tryd.prog gl) (AC.tl 4 c76) (postA [.ca 2 5, .t 3] R) ⟨e, [(.n 2, [.str [], .str [], .bool false, u 0, .bool false]), (i4, [.str x0, .str x1, .str x2, .str x3, .str x4])], pm⟩ := by
  simp only [c76, AC.tl]
  have N := rread_spec x3 (by omega)
  have Q := rkright_spec (keyOf x0 x1 x2 x3 x4) (by show x0.length ≤ _; omega) (by show x1.length ≤ _; omega)
  have PR := rprint_spec (keyOf x0 x1 x2 x3 x4) l0 l1
  generalize rightK (keyOf x0 x1 x2 x3 x4) = rt at *
  generalize printK (keyOf x0 x1 x2 x3 x4) = out at *
  unfold keyOf at Q hR PR
  unfold wide at N
  rw [krow] at Q hR PR
  simp only at Q hR PR
  generalize (readN x3).2 = n2 at *
  generalize (readN x3).1 / 18446744073709551616 = hi at *
  generalize (readN x3).1 % 18446744073709551616 = lo at *
  obtain ⟨p1, hp1⟩ : ∃ p1, (x2 == [112, 97, 103, 101]) = p1 := ⟨_, rfl⟩
  obtain ⟨f1, hf1⟩ : ∃ f1, (x4 == [114, 101, 115, 111, 108, 118, 101]) = f1 := ⟨_, rfl⟩
  rw [hp1, hf1] at Q hR PR
  rw [show kz.row = [.str [], .str [], .bool false, u 0, .bool false] from rfl] at hR
  have e92 : (Id.n 9 = Id.n 2) = False := by simp
  by_cases c2 : hi = 0
  · subst c2
    cases rt
    · have : R = .tup [.agg [.str [], .str [], .bool false, u 0, .bool false], .bool false] := by rw [hR]; rfl
      subst this; clear hR
      rcases hi4 with rfl | rfl
      all_goals
        simp -implicitDefEqProofs [h0, h2, h4]
        refine onC_mk _ N ?_
        simp -implicitDefEqProofs [h0, h2, h4, hp1, hf1]
        refine onC_mk _ Q ?_
        simp -implicitDefEqProofs [h0, h2, h4]
    · by_cases c3 : out = s
      · have : R = .tup [.agg [.str x0, .str x1, .bool p1, u lo, .bool f1], .bool true] := by rw [hR, if_pos ⟨rfl, rfl, c3⟩]
        have c3' : (out == s) = true := by simp [c3]
        subst this; clear hR c3
        rcases hi4 with rfl | rfl
        all_goals
          simp -implicitDefEqProofs [h0, h2, h4]
          refine onC_mk _ N ?_
          simp -implicitDefEqProofs [h0, h2, h4, hp1, hf1]
          refine onC_mk _ Q ?_
          simp -implicitDefEqProofs [h0, h2, h4]
          refine onC_mk _ PR ?_
          simp -implicitDefEqProofs [h0, h2, h4, c3']
      · have : R = .tup [.agg [.str [], .str [], .bool false, u 0, .bool false], .bool false] := by rw [hR, if_neg (fun h => c3 h.2.2)]
        have c3' : (out == s) = false := by simp [c3]
        subst this; clear hR c3
        rcases hi4 with rfl | rfl
        all_goals
          simp -implicitDefEqProofs [h0, h2, h4]
          refine onC_mk _ N ?_
          simp -implicitDefEqProofs [h0, h2, h4, hp1, hf1]
          refine onC_mk _ Q ?_
          simp -implicitDefEqProofs [h0, h2, h4]
          refine onC_mk _ PR ?_
          simp -implicitDefEqProofs [h0, h2, h4, c3']
  · have c2' : (0 : Int) < hi := by omega
    have c2n : 0 < hi := by omega
    have : R = .tup [.agg [.str [], .str [], .bool false, u 0, .bool false], .bool false] := by rw [hR, if_neg (fun h => c2 h.1)]
    subst this; clear hR
    rcases hi4 with rfl | rfl
    all_goals
      simp -implicitDefEqProofs [h0, h2, h4]
      refine onC_mk _ N ?_
      simp -implicitDefEqProofs [h0, h2, h4, hp1, hf1, c2', c2n]
def strC (l : List (List UInt8)) : List AV := l.map .str
theorem idsL_strC (l : List (List UInt8)) : idsL (strC l) = [] := by
  induction l with
  | nil => rfl
  | cons x r ih => unfold strC at ih ⊢; simp [idsL, AV.ids, ih]
theorem strC_len (l : List (List UInt8)) : (strC l).length = l.length := by simp [strC]
theorem strC_last (l : List (List UInt8)) (x : List UInt8) : (strC (l ++ [x]))[l.length]? = some (.str x) := by simp [strC]
theorem strC_set (l : List (List UInt8)) (x y : List UInt8) : (strC (l ++ [x])).take l.length ++ .str y :: (strC (l ++ [x])).drop (l.length + 1) = strC (l ++ [y]) := by
  simp only [strC, List.map_append, List.map_cons, List.map_nil]
  rw [List.take_left' (by simp), List.drop_eq_nil_of_le (by simp)]
theorem strC_app (l : List (List UInt8)) (x : List UInt8) : strC (l ++ [x]) = strC l ++ [.str x] := by simp [strC]
set_option maxRecDepth 20000 in
theorem rread25_spec (s : List UInt8) (hl : s.length ≤ 3500) : Sp Tryd.prog gl 76 [.str s] (rreadR s) := by
  refine s76 rfl rfl ?_
  have T : ∀ (i4 : Id) (hi4 : i4 = .n 9 ∨ i4 = .n 22) x0 x1 x2 x3 x4, spl [] s = [x0, x1, x2, x3, x4] → ∀ (e : List (Nat × AV)) (pm : List (Pl × Nat)), lk e 0 = .str s → lk e 2 = .ptr (.n 2) 0 → lk e 4 = .ms i4 0 5 1 →
      wpA (SpH Tryd.prog gl) (AC.tl 4 c76) (postA [.ca 2 5, .t 3] (rreadR s)) ⟨e, [(.n 2, [.str [], .str [], .bool false, u 0, .bool false]), (i4, [.str x0, .str x1, .str x2, .str x3, .str x4])], pm⟩ := by
    intro i4 hi4 x0 x1 x2 x3 x4 hs e pm h0 h2 h4
    have hx := spl_lens [] s
    rw [hs] at hx
    simp only [List.length_nil, Nat.zero_add] at hx
    have l0 := hx x0 (by simp)
    have l1 := hx x1 (by simp)
    have l3 := hx x3 (by simp)
    refine rread25_tail i4 hi4 s x0 x1 x2 x3 x4 (by omega) (by omega) (by omega) (rreadR s) ?_ e pm h0 h2 h4
    rw [← rreadR_eq]
    unfold rreadK
    rw [hs]
    simp only
    split <;> rfl
  have bad : (spl [] s).length ≠ 5 → rreadR s = .tup [.agg [.str [], .str [], .bool false, u 0, .bool false], .bool false] := by
    intro h
    rw [← rreadR_eq]
    unfold rreadK
    split
    · rename_i hs; rw [hs] at h; exact absurd rfl h
    · rfl
  have h5 : ∀ l : List (List UInt8), l.length = 5 → ∃ x0 x1 x2 x3 x4, l = [x0, x1, x2, x3, x4] := by
    intro l hl
    match l, hl with
    | [a, b, c, d, e], _ => exact ⟨a, b, c, d, e, rfl⟩
  have hlim : lim = 140737488355328 := rfl
  have ec : c76 = AC.cutAt 4 (AC.tl 4 c76) c76 := rfl
  rw [ec]
  generalize AC.tl 4 c76 = t at T ⊢
  simp only [c76, AC.cutAt]
  generalize rreadR s = R at *
  obtain ⟨L, hL⟩ : ∃ L, L = spl [] s := ⟨_, rfl⟩
  rw [← hL] at T bad
  simp -implicitDefEqProofs
  refine wp_lpk (α := Bool × Nat × List (List UInt8) × List UInt8) (fun x => ⟨[(0, .str s), (2, .ptr (.n 2) 0), (3, .bool false), (4, .ms (cond x.1 (.n 9) (.n 22)) 0 (x.2.2.1.length + 1) 1), (5, i6 x.2.1)], [(.n 2, [.str [], .str [], .bool false, u 0, .bool false]), (cond x.1 (.n 9) (.n 22), strC (x.2.2.1 ++ [x.2.2.2]))], []⟩)
    (fun x => x.2.1 ≤ s.length ∧ x.2.2.1.length ≤ x.2.1 ∧ x.2.2.2.length ≤ x.2.1 ∧ x.2.2.1 ++ spl x.2.2.2 (s.drop x.2.1) = L) (fun x => s.length - x.2.1) ?_ (true, 0, [], []) ?_ ?_
  · rintro K ⟨b, i, l, cur⟩ hK ⟨h1, h2, h3, h4⟩
    simp only at h1 h2 h3 h4
    by_cases g : i < s.length
    · obtain ⟨y, hy⟩ : ∃ y, s[i] = y := ⟨_, rfl⟩
      have t1 : IntKind.i64.wrap ((i : Int) + 1) = (i + 1 : Nat) := by rw [wrap_i64] <;> omega
      rw [List.drop_eq_getElem_cons g, spl, hy] at h4
      by_cases hb : y = 47
      · rw [if_pos hb] at h4
        have fin : ∀ σ', Weak σ' ⟨[(0, .str s), (2, .ptr (.n 2) 0), (3, .bool false), (4, .ms (.n 22) 0 ((l ++ [cur]).length + 1) 1), (5, i6 (i + 1 : Nat))], [(.n 2, [.str [], .str [], .bool false, u 0, .bool false]), (.n 22, strC ((l ++ [cur]) ++ [[]]))], []⟩ → K σ' :=
          fun σ' hσ => hK (false, i + 1, l ++ [cur], []) σ' ⟨by simp only; omega, by simp only [List.length_append, List.length_singleton]; omega, by simp, by simp only [List.append_assoc, List.singleton_append]; exact h4⟩ (by simp only; omega) hσ
        have y47 : ((y.toNat : Int) == 47) = true := by rw [hb]; rfl
        have hb' : (y == 47) = true := by simp [hb]
        rw [strC_app (l ++ [cur]) []] at fin
        have ci := idsL_strC (l ++ [cur])
        have cl := strC_len (l ++ [cur])
        rw [List.length_append, List.length_singleton] at cl
        simp only [List.length_append, List.length_singleton] at fin
        clear hK h4 T bad
        generalize strC (l ++ [cur]) = C at *
        have q3 : (l.length + 1 + 1) * 16 ≤ 140737488355328 := by omega
        cases b
        · simp only [cond]
          simp -implicitDefEqProofs [g, hy, y47, hlim, cl, ci, q3]
          refine fin _ (weak_mk ?_ ?_ ?_ ?_ ?_ ?_) <;> simp -implicitDefEqProofs [t1, ci, idsL_app, idsL, AV.ids]
        · simp only [cond]
          simp -implicitDefEqProofs [g, hy, y47, hlim, cl, ci, q3]
          refine fin _ (weak_mk ?_ ?_ ?_ ?_ ?_ ?_) <;> simp -implicitDefEqProofs [t1, ci, idsL_app, idsL, AV.ids]
      · rw [if_neg hb] at h4
        have fin : ∀ σ', Weak σ' ⟨[(0, .str s), (2, .ptr (.n 2) 0), (3, .bool false), (4, .ms (cond b (.n 9) (.n 22)) 0 (l.length + 1) 1), (5, i6 (i + 1 : Nat))], [(.n 2, [.str [], .str [], .bool false, u 0, .bool false]), (cond b (.n 9) (.n 22), strC (l ++ [cur ++ [y]]))], []⟩ → K σ' :=
          fun σ' hσ => hK (b, i + 1, l, cur ++ [y]) σ' ⟨by simp only; omega, by simp only; omega, by simp; omega, by simp only; exact h4⟩ (by simp only; omega) hσ
        have y47 : ((y.toNat : Int) == 47) = false := by
          simp only [beq_eq_false_iff_ne, ne_eq]
          intro e
          exact hb (UInt8.toNat.inj (by have : y.toNat = 47 := by omega
                                        rw [this]; rfl))
        have sls : List.drop i (List.take (i + 1) s) = [y] := by
          rw [List.take_succ_eq_append_getElem g, hy]
          exact List.drop_left' (by rw [List.length_take]; omega)
        have ci := idsL_strC (l ++ [cur])
        have cl := strC_len (l ++ [cur])
        have cg : ∀ h : l.length < (strC (l ++ [cur])).length, (strC (l ++ [cur]))[l.length] = .str cur := by
          intro h
          have := strC_last l cur
          rw [List.getElem?_eq_getElem h] at this
          exact Option.some.inj this
        have q8 : (i : Int) ≤ i + 1 := by omega
        have cs := strC_set l cur (cur ++ [y])
        rw [List.length_append, List.length_singleton] at cl
        have q1 : (i : Int) + 1 ≤ s.length := by omega
        have q4 : IntKind.i64.wrap ((l.length : Int) + 1 - 1) = (l.length : Nat) := by rw [wrap_i64] <;> omega
        have q5 : (l.length : Int) < l.length + 1 := by omega
        have q6 : cur.length ≤ 9223372036854775806 := by omega
        have q7 : IntKind.i64.wrap (l.length : Int) = l.length := by rw [wrap_i64] <;> omega
        clear hK h4 T bad
        have ci2 := idsL_strC (l ++ [cur ++ [y]])
        generalize strC (l ++ [cur ++ [y]]) = C2 at *
        generalize strC (l ++ [cur]) = C at *
        cases b
        · simp only [cond] at fin ⊢
          simp -implicitDefEqProofs [g, hy, y47, hlim, cl, ci, q1, q4, q5, q6, q7, q8, t1, sls, cg, cs]
          refine fin _ (weak_mk ?_ ?_ ?_ ?_ ?_ ?_) <;> simp -implicitDefEqProofs [ci2]
        · simp only [cond] at fin ⊢
          simp -implicitDefEqProofs [g, hy, y47, hlim, cl, ci, q1, q4, q5, q6, q7, q8, t1, sls, cg, cs]
          refine fin _ (weak_mk ?_ ?_ ?_ ?_ ?_ ?_) <;> simp -implicitDefEqProofs [ci2]
    · obtain rfl : i = s.length := by omega
      rw [List.drop_length] at h4
      simp only [spl] at h4
      clear hK
      have hll : l.length + 1 = L.length := by rw [← h4]; simp
      by_cases h6 : l.length = 4
      · obtain ⟨x0, x1, x2, x3, x4, e5⟩ := h5 L (by omega)
        rw [e5] at h4
        obtain ⟨y0, y1, y2, y3, rfl⟩ : ∃ y0 y1 y2 y3, l = [y0, y1, y2, y3] := by
          match l, h6 with
          | [a, b, c, d], _ => exact ⟨a, b, c, d, rfl⟩
        simp only [List.cons_append, List.nil_append, List.cons.injEq, and_true] at h4
        obtain ⟨rfl, rfl, rfl, rfl, rfl⟩ := h4
        have T' := fun i4 hi4 => T i4 hi4 _ _ _ _ _ e5
        simp only [strC, List.cons_append, List.nil_append, List.map_cons, List.map_nil, List.length_cons, List.length_nil]
        clear T bad e5
        cases b
        · simp only [cond]
          simp -implicitDefEqProofs
          refine T' _ (.inr rfl) _ _ ?_ ?_ ?_ <;> simp -implicitDefEqProofs
        · simp only [cond]
          simp -implicitDefEqProofs
          refine T' _ (.inl rfl) _ _ ?_ ?_ ?_ <;> simp -implicitDefEqProofs
      · have := bad (by omega)
        subst this
        clear T bad
        have c5 : ((l.length : Int) + 1 != 5) = true := by simp; omega
        have c5b : ((l.length : Int) + 1 == 5) = false := by simp; omega
        generalize strC (l ++ [cur]) = C at *
        cases b
        · simp only [cond]
          simp -implicitDefEqProofs [c5, c5b]
        · simp only [cond]
          simp -implicitDefEqProofs [c5, c5b]
  · exact ⟨Nat.zero_le _, Nat.zero_le _, Nat.zero_le _, by simp [hL]⟩
  · refine weak_mk ?_ ?_ ?_ ?_ ?_ ?_ <;> simp -implicitDefEqProofs [strC]
end Go.Ai
set_option linter.unusedSimpArgs false
set_option linter.unusedVariables false
namespace Go.Ai
open Go.Proofs Go.RowKit
theorem readK_len (s : List UInt8) : (readK s).1.g.length ≤ s.length ∧ (readK s).1.r.length ≤ s.length := by
  have hx := spl_lens [] s
  unfold readK
  split
  · rename_i g r p e f hs
    rw [hs] at hx
    simp only [List.length_nil, Nat.zero_add] at hx
    have l0 := hx g (by simp)
    have l1 := hx r (by simp)
    split
    · exact ⟨l0, l1⟩
    · exact ⟨Nat.zero_le _, Nat.zero_le _⟩
  · exact ⟨Nat.zero_le _, Nat.zero_le _⟩
theorem ky_eta (k : Ky) : k = ⟨k.g, k.r, k.p, k.e, k.f⟩ := rfl
end Go.Ai
set_option linter.unusedSimpArgs false
set_option linter.unusedVariables false
namespace Go.Ai
open Go.Proofs
def rR (s : List UInt8) : AV := .tup [.agg (rReadM s).1.row, .bool (rReadM s).2]
theorem rReadR (s : List UInt8) : rreadR s = .tup [.agg (readK s).1.row, .bool (readK s).2] := rfl
def okL (acc : List Ky) : Prop := ∀ k ∈ acc, k.g.length ≤ 3500 ∧ k.r.length ≤ 3500
theorem msOf_row (acc : List Ky) : (msOf acc).row = [.str (msOf acc).g, .bool (msOf acc).p, .sl (acc.map Ky.row)] := by
  unfold Ms.row; rw [msOf_ks]
theorem msOf_g (acc : List Ky) (h : okL acc) : (msOf acc).g.length ≤ 3500 := by
  unfold msOf
  split
  · rename_i k hk; exact (h k (List.mem_of_getLast? hk)).1
  · simp
theorem mz_row : mz.row = [.str [], .bool false, .sl []] := rfl
set_option maxRecDepth 20000 in
theorem rread30_tail (s : List UInt8) (L : List (List UInt8)) (h2 : 2 ≤ L.length) (h9 : L.length ≤ 9) (hx : ∀ x ∈ L, x.length ≤ 3500) (e : List (Nat × AV)) (pm : List (Pl × Nat)) (bx : List (Id × List AV))
    (e0 : lk e 0 = .str s) (e2 : lk e 2 = .ptr (.n 2) 0) (e4 : lk e 4 = .sl (strRows L)) (eb : bx = [(.n 2, [.str [], .bool false, .nils])]) :
    wpA (SpH Tryd.prog gl) (AC.tl 5 c35) (postA [.ca 2 3, .t 3] (.tup [.agg (rFin s (rKa [] L.tail)).1.row, .bool (rFin s (rKa [] L.tail)).2])) ⟨e, bx, pm⟩ := by
  subst eb
  simp only [c35, AC.tl]
  have hlim : lim = 140737488355328 := rfl
  obtain ⟨O, hO⟩ : ∃ O, O = rKa [] L.tail := ⟨_, rfl⟩
  rw [← hO]
  obtain ⟨R, hR⟩ : ∃ R, R = AV.tup [.agg (rFin s O).1.row, .bool (rFin s O).2] := ⟨_, rfl⟩
  rw [← hR]
  have rl : (strRows L).length = L.length := strRows_len L
  have r1 : ∀ r ∈ strRows L, r.length = 1 := strRows_one L
  have rat : ∀ (i : Nat) (h : i < L.length) (h2 : i < (strRows L).length), (strRows L)[i] = [.str L[i]] := by intro i h h2; simp [strRows]
  simp -implicitDefEqProofs [e2, e4]
  refine wp_lpk (α := Nat × List Ky) (fun x => ⟨[(0, .str s), (2, .ptr (.n 2) 0), (4, .sl (strRows L)), (7, .ptr (.n 7) 0), (8, i6 x.1)], [(.n 2, [.str [], .bool false, .nils]), (.n 7, [.str (msOf x.2).g, .bool (msOf x.2).p, .sl (x.2.map Ky.row)])], [(.b (.n 7) 2, 5)]⟩)
    (fun x => 1 ≤ x.1 ∧ x.1 ≤ L.length ∧ x.2.length ≤ x.1 ∧ rKa x.2 (L.drop x.1) = O ∧ okL x.2) (fun x => L.length - x.1) ?_ (1, []) ?_ ?_
  · rintro K ⟨i, acc⟩ hK ⟨h1, h3, h4, h5, h6⟩
    simp only at h1 h3 h4 h5 h6
    by_cases g : i < L.length
    · obtain ⟨l, hl⟩ : ∃ l, L[i] = l := ⟨_, rfl⟩
      have t1 : IntKind.i64.wrap ((i : Int) + 1) = (i + 1 : Nat) := by rw [wrap_i64] <;> omega
      have gR : i < (strRows L).length := by omega
      have hlx := hx _ (List.getElem_mem g)
      rw [hl] at hlx
      rw [List.drop_eq_getElem_cons g, rKa, hl] at h5
      have ra := rat i g gR
      rw [hl] at ra
      have KR := rread25_spec (l.drop 2) (by simp; omega)
      rw [rReadR] at KR
      have kl := readK_len (l.drop 2)
      by_cases hs2 : 2 ≤ l.length
      · have q1 : ¬ (l.length : Int) < 2 := by omega
        have q2 : (2 : Int) ≤ l.length := by omega
        cases hok : (readK (l.drop 2)).2
        · have hok2 : okR l = false := by simp only [okR, hok, Bool.and_false]
          rw [hok2] at h5
          have : O = none := h5.symm
          subst this
          have hR : R = .tup [.agg [.str [], .bool false, .sl []], .bool false] := by rw [hR]; rfl
          subst hR
          clear hK h5 hO
          rw [hok] at KR
          simp -implicitDefEqProofs [rl, g, gR, ra, q1, q2]
          refine onC_mk _ KR ?_
          simp -implicitDefEqProofs [krow]
        · have hok2 : okR l = true := by simp only [okR, hok, Bool.and_true, decide_eq_true_eq]; exact hs2
          rw [hok2, if_pos rfl] at h5
          obtain ⟨k, hk⟩ : ∃ k, k = (readK (l.drop 2)).1 := ⟨_, rfl⟩
          rw [hok, ← hk] at KR
          rw [← hk] at h5 kl
          rw [krow] at KR
          have okn : okL (acc ++ [k]) := by
            intro x hx
            rcases List.mem_append.1 hx with hx | hx
            · exact h6 x hx
            · rw [List.mem_singleton] at hx; subst hx
              have : (l.drop 2).length ≤ l.length := by simp
              exact ⟨by omega, by omega⟩
          have fin : ∀ σ', Weak σ' ⟨[(0, .str s), (2, .ptr (.n 2) 0), (4, .sl (strRows L)), (7, .ptr (.n 7) 0), (8, i6 (i + 1 : Nat))], [(.n 2, [.str [], .bool false, .nils]), (.n 7, [.str k.g, .bool k.p, .sl ((acc ++ [k]).map Ky.row)])], [(.b (.n 7) 2, 5)]⟩ → K σ' := by
            have := fun σ' hσ => hK (i + 1, acc ++ [k]) σ' ⟨by simp only; omega, by simp only; omega, by simp only [List.length_append, List.length_singleton]; omega, h5, okn⟩ (by simp only; omega) hσ
            simp only [msOf_app] at this
            exact this
          have ka : (acc ++ [k]).map Ky.row = acc.map Ky.row ++ [k.row] := by simp
          rw [ka, krow] at fin
          have kl5 : ∀ a ∈ acc, a.row.length = 5 := fun a _ => rfl
          have q3 : (acc.length + 1) * 56 ≤ 140737488355328 := by omega
          clear hK h5 hO hR
          simp -implicitDefEqProofs [rl, g, gR, ra, q1, q2]
          refine onC_mk _ KR ?_
          simp -implicitDefEqProofs [hlim, q3, kl5]
          refine ⟨kl5, fin _ (weak_mk ?_ ?_ ?_ ?_ ?_ ?_)⟩ <;> simp -implicitDefEqProofs [t1]
      · have q1 : (l.length : Int) < 2 := by omega
        have hok2 : okR l = false := by simp only [okR, decide_eq_false hs2, Bool.false_and]
        rw [hok2] at h5
        have : O = none := h5.symm
        subst this
        have hR : R = .tup [.agg [.str [], .bool false, .sl []], .bool false] := by rw [hR]; rfl
        subst hR
        clear hK h5 hO
        simp -implicitDefEqProofs [rl, g, gR, ra, q1]
    · obtain rfl : i = L.length := by omega
      rw [List.drop_length] at h5
      simp only [rKa] at h5
      subst h5
      have m0 := msOf_row acc
      have mg := msOf_g acc h6
      have RR := rright30_spec (msOf acc) (fun k hk => by rw [msOf_ks] at hk; have := h6 k hk; exact ⟨by omega, by omega⟩)
      have RP := rprint30_spec (msOf acc) (by omega) (by rw [msOf_ks]; omega) (fun k hk => by rw [msOf_ks] at hk; have := h6 k hk; exact ⟨by omega, by omega⟩)
      rw [m0] at RR RP
      simp only [rFin] at hR
      clear hK
      cases hr : rightM (msOf acc)
      · rw [hr] at RR hR
        have hR : R = .tup [.agg [.str [], .bool false, .sl []], .bool false] := by rw [hR]; rfl
        subst hR
        simp -implicitDefEqProofs [rl]
        refine onC_mk _ RR ?_
        simp -implicitDefEqProofs
      · rw [hr] at RR hR
        cases hp : (printM (msOf acc) == s)
        · have hne : ¬ printM (msOf acc) = s := by simpa using hp
          rw [if_neg (fun h => hne h.2)] at hR
          have hR : R = .tup [.agg [.str [], .bool false, .sl []], .bool false] := by rw [hR]; rfl
          subst hR
          simp -implicitDefEqProofs [rl]
          refine onC_mk _ RR ?_
          simp -implicitDefEqProofs
          refine onC_mk _ RP ?_
          simp -implicitDefEqProofs [hp]
        · have he : printM (msOf acc) = s := by simpa using hp
          rw [if_pos ⟨rfl, he⟩] at hR
          simp only [m0] at hR
          subst hR
          simp -implicitDefEqProofs [rl]
          refine onC_mk _ RR ?_
          simp -implicitDefEqProofs
          refine onC_mk _ RP ?_
          simp -implicitDefEqProofs [hp]
  · exact ⟨by simp, by simp only; omega, by simp, by simp only [List.drop_one]; exact hO.symm, fun k hk => by simp at hk⟩
  · refine weak_mk ?_ ?_ ?_ ?_ ?_ ?_ <;> simp -implicitDefEqProofs [e0, e2, e4, msOf]
end Go.Ai
set_option linter.unusedSimpArgs false
set_option linter.unusedVariables false
namespace Go.Ai
open Go.Proofs
theorem lns_lens : ∀ (s cur : List UInt8), (∀ x ∈ (lns cur s).1, x.length ≤ cur.length + s.length)
  | [], cur, x, hx => by simp [lns] at hx
  | b :: r, cur, x, hx => by
    simp only [lns] at hx
    split at hx
    · rcases List.mem_cons.1 hx with rfl | hx
      · simp
      · have := lns_lens r [] x hx; simp at this ⊢; omega
    · have := lns_lens r _ x hx; simp at this ⊢; omega
set_option maxRecDepth 20000 in
theorem rread30_spec (s : List UInt8) (hl : s.length ≤ 3000) : Sp Tryd.prog gl 35 [.str s] (rR s) := by
  refine s35 rfl rfl ?_
  obtain ⟨L, hL⟩ : ∃ L, L = (lns [] s).1 := ⟨_, rfl⟩
  obtain ⟨rest, hrest⟩ : ∃ r, r = (lns [] s).2 := ⟨_, rfl⟩
  have hpair : lns [] s = (L, rest) := by rw [hL, hrest]
  have hx : ∀ x ∈ L, x.length ≤ 3500 := by
    intro x hx
    rw [hL] at hx
    have := lns_lens s [] x hx
    simp at this; omega
  obtain ⟨R, hR⟩ : ∃ R, R = rR s := ⟨_, rfl⟩
  rw [← hR]
  unfold rR rReadM at hR
  rw [hpair] at hR
  simp only at hR
  have T : 2 ≤ L.length → L.length ≤ 9 → rest = [] → ∀ (e : List (Nat × AV)) (pm : List (Pl × Nat)), lk e 0 = .str s → lk e 2 = .ptr (.n 2) 0 → lk e 4 = .sl (strRows L) →
      wpA (SpH Tryd.prog gl) (AC.tl 5 c35) (postA [.ca 2 3, .t 3] R) ⟨e, [(.n 2, [.str [], .bool false, .nils])], pm⟩ := by
    intro h2 h9 hr e pm e0 e2 e4
    rw [if_pos ⟨h2, h9, hr⟩] at hR
    rw [hR]
    exact rread30_tail s L h2 h9 hx e pm _ e0 e2 e4 rfl
  have bad : ¬ (2 ≤ L.length ∧ L.length ≤ 9 ∧ rest = []) → R = .tup [.agg [.str [], .bool false, .sl []], .bool false] := by
    intro h; rw [hR, if_neg h]; rfl
  have hlim : lim = 140737488355328 := rfl
  have ec : c35 = AC.cutAt 5 (AC.tl 5 c35) c35 := rfl
  rw [ec]
  generalize AC.tl 5 c35 = t at T ⊢
  simp only [c35, AC.cutAt]
  clear hR
  simp -implicitDefEqProofs
  refine wp_lpk (α := Nat × List (List UInt8) × List UInt8) (fun x => ⟨[(0, .str s), (2, .ptr (.n 2) 0), (3, .bool false), (4, .sl (strRows x.2.1)), (5, .str x.2.2), (6, i6 x.1)], [(.n 2, [.str [], .bool false, .nils])], [(.s 4, 1)]⟩)
    (fun x => x.1 ≤ s.length ∧ x.2.1.length ≤ x.1 ∧ x.2.2.length ≤ x.1 ∧ x.2.1 ++ (lns x.2.2 (s.drop x.1)).1 = L ∧ (lns x.2.2 (s.drop x.1)).2 = rest) (fun x => s.length - x.1) ?_ (0, [], []) ?_ ?_
  · rintro K ⟨i, l, cur⟩ hK ⟨h1, h2, h3, h4, h5⟩
    simp only at h1 h2 h3 h4 h5
    by_cases g : i < s.length
    · obtain ⟨y, hy⟩ : ∃ y, s[i] = y := ⟨_, rfl⟩
      have t1 : IntKind.i64.wrap ((i : Int) + 1) = (i + 1 : Nat) := by rw [wrap_i64] <;> omega
      rw [List.drop_eq_getElem_cons g, lns, hy] at h4 h5
      by_cases hb : y = 10
      · rw [if_pos hb] at h4 h5
        have fin : ∀ σ', Weak σ' ⟨[(0, .str s), (2, .ptr (.n 2) 0), (3, .bool false), (4, .sl (strRows (l ++ [cur]))), (5, .str []), (6, i6 (i + 1 : Nat))], [(.n 2, [.str [], .bool false, .nils])], [(.s 4, 1)]⟩ → K σ' :=
          fun σ' hσ => hK (i + 1, l ++ [cur], []) σ' ⟨by simp only; omega, by simp only [List.length_append, List.length_singleton]; omega, by simp, by simp only [List.append_assoc, List.singleton_append]; exact h4, h5⟩ (by simp only; omega) hσ
        rw [strRows_app] at fin
        have y10 : ((y.toNat : Int) == 10) = true := by rw [hb]; rfl
        have rl := strRows_len l
        have r1 := strRows_one l
        have q3 : (l.length + 1) * 16 ≤ 140737488355328 := by omega
        clear hK h4 h5 T bad
        generalize strRows l = SL at *
        simp -implicitDefEqProofs [g, hy, y10, hlim, rl, q3]
        refine ⟨r1, fin _ (weak_mk ?_ ?_ ?_ ?_ ?_ ?_)⟩ <;> simp -implicitDefEqProofs [t1]
      · rw [if_neg hb] at h4 h5
        have fin : ∀ σ', Weak σ' ⟨[(0, .str s), (2, .ptr (.n 2) 0), (3, .bool false), (4, .sl (strRows l)), (5, .str (cur ++ [y])), (6, i6 (i + 1 : Nat))], [(.n 2, [.str [], .bool false, .nils])], [(.s 4, 1)]⟩ → K σ' :=
          fun σ' hσ => hK (i + 1, l, cur ++ [y]) σ' ⟨by simp only; omega, by simp only; omega, by simp; omega, h4, h5⟩ (by simp only; omega) hσ
        have y10 : ((y.toNat : Int) == 10) = false := by
          simp only [beq_eq_false_iff_ne, ne_eq]
          intro e
          exact hb (UInt8.toNat.inj (by have : y.toNat = 10 := by omega
                                        rw [this]; rfl))
        have sls : List.drop i (List.take (i + 1) s) = [y] := by
          rw [List.take_succ_eq_append_getElem g, hy]
          exact List.drop_left' (by rw [List.length_take]; omega)
        have q8 : (i : Int) ≤ i + 1 := by omega
        have q1 : (i : Int) + 1 ≤ s.length := by omega
        have q6 : cur.length ≤ 9223372036854775806 := by omega
        clear hK h4 h5 T bad
        generalize strRows l = SL at *
        simp -implicitDefEqProofs [g, hy, y10, q8, q1, sls, t1, q6]
        refine fin _ (weak_mk ?_ ?_ ?_ ?_ ?_ ?_) <;> simp -implicitDefEqProofs [t1]
    · obtain rfl : i = s.length := by omega
      rw [List.drop_length] at h4 h5
      simp only [lns, List.append_nil] at h4 h5
      subst h4; subst h5
      have rl := strRows_len l
      clear hK
      by_cases c2 : 2 ≤ l.length
      · have c2' : ¬ (l.length : Int) < 2 := by omega
        by_cases c9 : l.length ≤ 9
        · have c9' : ¬ (9 : Int) < l.length := by omega
          by_cases cr : cur = []
          · subst cr
            have T := T c2 c9 rfl
            generalize strRows l = SL at *
            simp -implicitDefEqProofs [rl, c2', c9']
            refine T _ _ ?_ ?_ ?_ <;> simp -implicitDefEqProofs
          · have hR := bad (fun h => cr h.2.2)
            subst hR
            have cr' : (cur == []) = false := by simpa using cr
            simp -implicitDefEqProofs [rl, c2', c9', cr']
        · have hR := bad (fun h => c9 h.2.1)
          subst hR
          have c9' : (9 : Int) < l.length := by omega
          simp -implicitDefEqProofs [rl, c2', c9']
      · have hR := bad (fun h => c2 h.1)
        subst hR
        have c2' : (l.length : Int) < 2 := by omega
        simp -implicitDefEqProofs [rl, c2']
  · exact ⟨Nat.zero_le _, by simp, by simp, by simp only [List.drop_zero, List.nil_append]; exact hL.symm, by simp only [List.drop_zero]; exact hrest.symm⟩
  · refine weak_mk ?_ ?_ ?_ ?_ ?_ ?_ <;> simp -implicitDefEqProofs [strRows]
end Go.Ai
set_option linter.unusedSimpArgs false
set_option linter.unusedVariables false
namespace Go.Ai
open Go.Proofs
def bRv (x : Ms × Bool) : AV := .tup [.agg x.1.row, i6 (if x.2 = true then 0 else 5)]
theorem trimP_le (l p : List UInt8) : (Lib.trimPrefix l p).length ≤ l.length := by
  unfold Lib.trimPrefix; split <;> simp
set_option maxRecDepth 20000 in
theorem bread_tail (s hd : List UInt8) (tl : List (List UInt8)) (h9 : tl.length ≤ 8) (hx : ∀ x ∈ tl, x.length ≤ 3500) (e : List (Nat × AV)) (pm : List (Pl × Nat)) (bx : List (Id × List AV))
    (e2 : lk e 2 = .ptr (.n 2) 0) (e6 : lk e 6 = .sl ([.str hd] :: strRows tl)) (eb : bx = [(.n 2, [.str [], .bool false, .nils])]) :
    wpA (SpH Tryd.prog gl) (AC.tl 4 c34) (postA [.ca 2 3, .t 3] (bRv (bFin (hd :: tl) (bKa [] tl)))) ⟨e, bx, pm⟩ := by
  subst eb
  simp only [c34, AC.tl]
  have hlim : lim = 140737488355328 := rfl
  obtain ⟨O, hO⟩ : ∃ O, O = bKa [] tl := ⟨_, rfl⟩
  rw [← hO]
  obtain ⟨R, hR⟩ : ∃ R, R = bRv (bFin (hd :: tl) O) := ⟨_, rfl⟩
  rw [← hR]
  have rl : (strRows tl).length = tl.length := strRows_len tl
  have r1 : ∀ r ∈ strRows tl, r.length = 1 := strRows_one tl
  have rat : ∀ (i : Nat) (h : i < tl.length) (h2 : i < (strRows tl).length), (strRows tl)[i] = [.str tl[i]] := by intro i h h2; simp [strRows]
  have q0 : (1 : Int) ≤ tl.length + 1 := by omega
  have tk : List.take tl.length (strRows tl) = strRows tl := by rw [← rl]; exact List.take_length
  simp -implicitDefEqProofs [e2, e6, rl, q0, tk, r1]
  refine ⟨r1, ?_⟩
  refine wp_lpk (α := Nat × List Ky) (fun x => ⟨[(2, .ptr (.n 2) 0), (6, .sl ([.str hd] :: strRows tl)), (7, .ptr (.n 7) 0), (30, .sl (strRows tl)), (31, i6 tl.length), (32, i6 x.1)], [(.n 2, [.str [], .bool false, .nils]), (.n 7, [.str (msOf x.2).g, .bool (msOf x.2).p, .sl (x.2.map Ky.row)])], [(.b (.n 7) 2, 5)]⟩)
    (fun x => x.1 ≤ tl.length ∧ x.2.length ≤ x.1 ∧ bKa x.2 (tl.drop x.1) = O ∧ okL x.2) (fun x => tl.length - x.1) ?_ (0, []) ?_ ?_
  · rintro K ⟨i, acc⟩ hK ⟨h3, h4, h5, h6⟩
    simp only at h3 h4 h5 h6
    by_cases g : i < tl.length
    · obtain ⟨l, hl⟩ : ∃ l, tl[i] = l := ⟨_, rfl⟩
      have t1 : IntKind.i64.wrap ((i : Int) + 1) = (i + 1 : Nat) := by rw [wrap_i64] <;> omega
      have gR : i < (strRows tl).length := by omega
      have hlx := hx _ (List.getElem_mem g)
      rw [hl] at hlx
      rw [List.drop_eq_getElem_cons g, bKa, hl] at h5
      have ra := rat i g gR
      rw [hl] at ra
      have CP := cutP_spec l [32, 32]
      have ple := trimP_le l [32, 32]
      have KR := kread_spec (Lib.trimPrefix l [32, 32]) (by omega)
      unfold readR at KR
      have kl := readK_len (Lib.trimPrefix l [32, 32])
      cases hpre : Lib.hasPrefix l [32, 32]
      · have hok2 : okB l = false := by simp only [okB, hpre, Bool.false_and]
        rw [hok2] at h5
        have : O = none := h5.symm
        subst this
        have hR : R = .tup [.agg [.str [], .bool false, .sl []], i6 5] := by rw [hR]; rfl
        subst hR
        clear hK h5 hO
        rw [hpre] at CP
        generalize Lib.trimPrefix l [32, 32] = p at *
        rw [krow] at KR
        simp -implicitDefEqProofs [g, gR, ra]
        refine onC_mk _ CP ?_
        simp -implicitDefEqProofs
        refine onC_mk _ KR ?_
        simp -implicitDefEqProofs
      · rw [hpre] at CP
        cases hok : (readK (Lib.trimPrefix l [32, 32])).2
        · have hok2 : okB l = false := by simp only [okB, hok, Bool.and_false]
          rw [hok2] at h5
          have : O = none := h5.symm
          subst this
          have hR : R = .tup [.agg [.str [], .bool false, .sl []], i6 5] := by rw [hR]; rfl
          subst hR
          clear hK h5 hO
          rw [hok, krow] at KR
          generalize Lib.trimPrefix l [32, 32] = p at *
          simp -implicitDefEqProofs [g, gR, ra]
          refine onC_mk _ CP ?_
          simp -implicitDefEqProofs
          refine onC_mk _ KR ?_
          simp -implicitDefEqProofs
        · have hok2 : okB l = true := by simp only [okB, hpre, hok, Bool.and_self]
          rw [hok2, if_pos rfl] at h5
          obtain ⟨k, hk⟩ : ∃ k, k = (readK (Lib.trimPrefix l [32, 32])).1 := ⟨_, rfl⟩
          rw [hok, ← hk, krow] at KR
          rw [← hk] at h5 kl
          have okn : okL (acc ++ [k]) := by
            intro x hx
            rcases List.mem_append.1 hx with hx | hx
            · exact h6 x hx
            · rw [List.mem_singleton] at hx; subst hx
              exact ⟨by omega, by omega⟩
          have fin : ∀ σ', Weak σ' ⟨[(2, .ptr (.n 2) 0), (6, .sl ([.str hd] :: strRows tl)), (7, .ptr (.n 7) 0), (30, .sl (strRows tl)), (31, i6 tl.length), (32, i6 (i + 1 : Nat))], [(.n 2, [.str [], .bool false, .nils]), (.n 7, [.str k.g, .bool k.p, .sl ((acc ++ [k]).map Ky.row)])], [(.b (.n 7) 2, 5)]⟩ → K σ' := by
            have := fun σ' hσ => hK (i + 1, acc ++ [k]) σ' ⟨by simp only; omega, by simp only [List.length_append, List.length_singleton]; omega, h5, okn⟩ (by simp only; omega) hσ
            simp only [msOf_app] at this
            exact this
          have ka : (acc ++ [k]).map Ky.row = acc.map Ky.row ++ [k.row] := by simp
          rw [ka, krow] at fin
          have kl5 : ∀ a ∈ acc, a.row.length = 5 := fun a _ => rfl
          have q3 : (acc.length + 1) * 56 ≤ 140737488355328 := by omega
          clear hK h5 hO hR kl
          generalize Lib.trimPrefix l [32, 32] = p at *
          simp -implicitDefEqProofs [g, gR, ra]
          refine onC_mk _ CP ?_
          simp -implicitDefEqProofs
          refine onC_mk _ KR ?_
          simp -implicitDefEqProofs [hlim, q3]
          refine ⟨kl5, fin _ (weak_mk ?_ ?_ ?_ ?_ ?_ ?_)⟩ <;> simp -implicitDefEqProofs [t1]
    · obtain rfl : i = tl.length := by omega
      rw [List.drop_length] at h5
      simp only [bKa] at h5
      subst h5
      have m0 := msOf_row acc
      have mg := msOf_g acc h6
      have RR := bright_spec (msOf acc) (fun k hk => by rw [msOf_ks] at hk; have := h6 k hk; exact ⟨by omega, by omega⟩)
      have HD := head_spec (msOf acc) (by omega)
      rw [m0] at RR HD
      rw [bFin_some] at hR
      clear hK
      cases hr : rightM (msOf acc)
      · rw [hr] at RR hR
        have hR : R = .tup [.agg [.str [], .bool false, .sl []], i6 5] := by rw [hR]; rfl
        subst hR
        simp -implicitDefEqProofs [rl]
        refine onC_mk _ RR ?_
        simp -implicitDefEqProofs
      · rw [hr] at RR hR
        cases hp : (headM (msOf acc) == hd)
        · have hne : ¬ headM (msOf acc) = hd := by simpa using hp
          rw [if_neg (fun h => hne h.2)] at hR
          have hR : R = .tup [.agg [.str [], .bool false, .sl []], i6 5] := by rw [hR]; rfl
          subst hR
          simp -implicitDefEqProofs [rl]
          refine onC_mk _ RR ?_
          simp -implicitDefEqProofs
          refine onC_mk _ HD ?_
          simp -implicitDefEqProofs [hp]
        · have he : headM (msOf acc) = hd := by simpa using hp
          rw [if_pos ⟨rfl, he⟩] at hR
          simp only [bRv, m0, if_true] at hR
          subst hR
          simp -implicitDefEqProofs [rl]
          refine onC_mk _ RR ?_
          simp -implicitDefEqProofs
          refine onC_mk _ HD ?_
          simp -implicitDefEqProofs [hp]
  · exact ⟨Nat.zero_le _, by simp, by simp only [List.drop_zero]; exact hO.symm, fun k hk => by simp at hk⟩
  · refine weak_mk ?_ ?_ ?_ ?_ ?_ ?_ <;> simp -implicitDefEqProofs [e2, e6, msOf]
set_option maxRecDepth 20000 in
theorem bread_spec (s : List UInt8) (hl : s.length ≤ 1000000) (hx : ∀ x ∈ spn [] (Lib.trimSuffix s [10]), x.length ≤ 3500) : Sp Tryd.prog gl 34 [.str s] (bRv (bReadM s)) := by
  refine s34 rfl rfl ?_
  have CS := cutS_spec s [10] (by omega)
  have tle : (Lib.trimSuffix s [10]).length ≤ s.length := by unfold Lib.trimSuffix; split <;> simp
  have SPL := split1_spec (Lib.trimSuffix s [10]) 10 (by omega)
  rw [split_spn] at SPL
  obtain ⟨R, hR⟩ : ∃ R, R = bRv (bReadM s) := ⟨_, rfl⟩
  rw [← hR]
  unfold bReadM at hR
  generalize Lib.trimSuffix s [10] = body at *
  obtain ⟨hd, tl, hsp⟩ : ∃ hd tl, spn [] body = hd :: tl := by
    cases h : spn [] body with
    | nil => exact absurd h (spn_ne _ _)
    | cons a b => exact ⟨a, b, rfl⟩
  rw [hsp] at hR SPL hx
  have T : tl.length ≤ 8 → R = bRv (bFin (hd :: tl) (bKa [] tl)) → ∀ (e : List (Nat × AV)) (pm : List (Pl × Nat)), lk e 2 = .ptr (.n 2) 0 → lk e 6 = .sl ([.str hd] :: strRows tl) →
      wpA (SpH Tryd.prog gl) (AC.tl 4 c34) (postA [.ca 2 3, .t 3] R) ⟨e, [(.n 2, [.str [], .bool false, .nils])], pm⟩ := by
    intro h9 hR e pm e2 e6
    rw [hR]
    exact bread_tail s hd tl h9 (fun x h => hx x (by simp [h])) e pm _ e2 e6 rfl
  have ec : c34 = AC.cutAt 4 (AC.tl 4 c34) c34 := rfl
  rw [ec]
  generalize AC.tl 4 c34 = t at T ⊢
  simp only [c34, AC.cutAt]
  rw [strRows_cons] at SPL
  simp only [List.tail_cons, List.length_cons] at hR
  have rl : (strRows tl).length = tl.length := strRows_len tl
  simp -implicitDefEqProofs
  refine onC_mk _ CS ?_
  simp -implicitDefEqProofs
  refine onC_mk _ SPL ?_
  cases hsuf : Lib.hasSuffix s [10]
  · rw [hsuf, if_neg (fun h => by cases h.1)] at hR
    have hR : R = .tup [.agg [.str [], .bool false, .sl []], i6 5] := by rw [hR]; rfl
    subst hR
    simp -implicitDefEqProofs
  · rw [hsuf] at hR
    by_cases c9 : tl.length ≤ 8
    · rw [if_pos ⟨rfl, by omega⟩] at hR
      have T := T c9 hR
      have c9' : ¬ (9 : Int) < tl.length + 1 := by omega
      clear hR
      generalize strRows tl = SL at *
      simp -implicitDefEqProofs [rl, c9']
      refine T _ _ ?_ ?_ <;> simp -implicitDefEqProofs
    · rw [if_neg (fun h => c9 (by have := h.2; omega))] at hR
      have hR : R = .tup [.agg [.str [], .bool false, .sl []], i6 5] := by rw [hR]; rfl
      subst hR
      have c9' : (9 : Int) < tl.length + 1 := by omega
      simp -implicitDefEqProofs [rl, c9']
end Go.Ai
