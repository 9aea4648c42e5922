/- P8: a part of the proof: the rules, or what functions compute. Conditions: as each theorem says. -/
import Derived.Test.YtidcomakahbepaaGreatDoorP7
import Derived.Test.YtidcomakahbepaaGreatDoorP3
import Derived.Test.YtidcomakahbepaaGreatDoorP6
import Derived.Test.YtidcomakahbepaaGreatDoorAiShelf3
set_option linter.unusedSimpArgs false
set_option linter.unusedVariables false
set_option maxRecDepth 20000
namespace Go.Ai
open Go.Proofs
open Go.Proofs
end Go.Ai
namespace Go.Ai
open Go.Proofs
open Go.Proofs
def heavyLb (y : Lb) : Bool := decide ((2000 : Int) < y.n.length) || decide ((2000 : Int) < y.t.length)
def heavyRu (y : Ru) : Bool := decide ((2000 : Int) < y.n.length)
def heavyG (x : Gl) : Bool := (decide ((2000 : Int) < x.n.length) || (decide ((10 : Int) < x.lb.length) || decide ((10 : Int) < x.ru.length))) || (x.lb.any heavyLb || x.ru.any heavyRu)
theorem any_at {α : Type} (p : α → Bool) (l : List α) (i : Nat) (h : i < l.length) : (l.drop i).any p = (p l[i] || (l.drop (i + 1)).any p) := by
 rw [List.drop_eq_getElem_cons h, List.any_cons]
theorem heavyG_rules (n : List UInt8) (t : Nat) (g a o c : Int) (LB : List (List AV)) (ru : List Ru) (hl : ru.length ≤ 10) (e : List (Nat × AV)) (l1 : lk e 1 = .ptr (.n 1) 0) :
  wpA (SpH Tryz.prog gl) (AC.tl 3 c13) (postA [.t 2] (.bool (ru.any heavyRu))) ⟨e, [(.n 1, [.str n, .int .u32 t, i6 g, i6 a, i6 o, i6 c, .sl LB, .sl (ru.map Ru.row)])], []⟩ := by
 obtain ⟨R, hR⟩ : ∃ R, R = ru.any heavyRu := ⟨_, rfl⟩
 rw [← hR]
 have rat : ∀ i (h : i < ru.length), ∀ h2, (ru.map Ru.row)[i]'h2 = [.str ru[i].n, .bool ru[i].p, i6 ru[i].l, i6 ru[i].s, u ru[i].f, i6 ru[i].w, i6 ru[i].k] := fun i h h2 => by simp [Ru.row]
 have rl : (ru.map Ru.row).length = ru.length := by simp
 generalize ru.map Ru.row = RU at *
 simp only [c13, AC.tl]
 simp -implicitDefEqProofs
 refine wp_lpk (α := Nat) (fun i => ⟨[(1, .ptr (.n 1) 0), (4, i6 i)], [(.n 1, [.str n, .int .u32 t, i6 g, i6 a, i6 o, i6 c, .sl LB, .sl RU])], []⟩)
  (fun i => i ≤ ru.length ∧ (ru.drop i).any heavyRu = R) (fun i => ru.length - i) ?_ 0 ?_ ?_
 ·rintro K i hK ⟨h1, h2⟩
  by_cases gi : i < ru.length
  ·have t1 : IntKind.i64.wrap ((i : Int) + 1) = (i + 1 : Nat) := by rw [wrap_i64] <;> omega
   have ra := rat i gi
   have gR : i < RU.length := by omega
   rw [any_at _ _ _ gi] at h2
   have fin : heavyRu ru[i] = false → ∀ σ', Weak σ' ⟨[(1, .ptr (.n 1) 0), (4, i6 (i + 1 : Nat))], [(.n 1, [.str n, .int .u32 t, i6 g, i6 a, i6 o, i6 c, .sl LB, .sl RU])], []⟩ → K σ' :=
    fun hb σ' hσ => hK (i + 1) σ' ⟨by omega, by rw [hb, Bool.false_or] at h2; exact h2⟩ (by omega) hσ
   have hno : heavyRu ru[i] = true → R = true := fun hb => by rw [hb, Bool.true_or] at h2; exact h2.symm
   unfold heavyRu at fin hno
   clear hK h2 hR rat
   generalize ru[i].n = yn at *
   by_cases q : (2000 : Int) < yn.length
   ·have q2 : 2000 < yn.length := by omega
    rw [hno (by simpa using q)]
    simp -implicitDefEqProofs [gi, gR, ra, rl, q, q2]
   ·have q2 : ¬ 2000 < yn.length := by omega
    have fin := fin (by simpa using q)
    simp -implicitDefEqProofs [gi, gR, ra, rl, q, q2]
    refine fin _ ?_
    refine weak_mk ?_ ?_ ?_ ?_ ?_ ?_ <;> simp -implicitDefEqProofs [t1]
  ·obtain rfl : i = ru.length := by omega
   rw [List.drop_length] at h2
   have : R = false := by rw [← h2]; rfl
   subst this
   clear hK
   simp -implicitDefEqProofs [rl]
 ·exact ⟨Nat.zero_le _, by rw [hR]; rfl⟩
 ·refine weak_mk ?_ ?_ ?_ ?_ ?_ ?_ <;> simp -implicitDefEqProofs [l1]
theorem heavyG_labels (n : List UInt8) (t : Nat) (g a o c : Int) (lb : List Lb) (ru : List Ru) (hll : lb.length ≤ 10) (hl : ru.length ≤ 10) (e : List (Nat × AV)) (l1 : lk e 1 = .ptr (.n 1) 0) :
  wpA (SpH Tryz.prog gl) (AC.tl 2 c13) (postA [.t 2] (.bool (lb.any heavyLb || ru.any heavyRu))) ⟨e, [(.n 1, [.str n, .int .u32 t, i6 g, i6 a, i6 o, i6 c, .sl (lb.map Lb.row), .sl (ru.map Ru.row)])], []⟩ := by
 have ec : AC.tl 2 c13 = AC.cutAt 1 (AC.tl 3 c13) (AC.tl 2 c13) := rfl
 rw [ec]
 have tail := heavyG_rules n t g a o c (lb.map Lb.row) ru hl
 generalize AC.tl 3 c13 = TT at tail ⊢
 obtain ⟨R, hR⟩ : ∃ R, R = lb.any heavyLb := ⟨_, rfl⟩
 rw [← hR]
 generalize ru.any heavyRu = R2 at *
 have rat : ∀ i (h : i < lb.length), ∀ h2, (lb.map Lb.row)[i]'h2 = [.str lb[i].n, .str lb[i].t] := fun i h h2 => by simp [Lb.row]
 have rl : (lb.map Lb.row).length = lb.length := by simp
 generalize lb.map Lb.row = RU at *
 generalize ru.map Ru.row = RR at *
 simp only [c13, AC.tl, AC.cutAt]
 simp -implicitDefEqProofs
 refine wp_lpk (α := Nat) (fun i => ⟨[(1, .ptr (.n 1) 0), (3, i6 i)], [(.n 1, [.str n, .int .u32 t, i6 g, i6 a, i6 o, i6 c, .sl RU, .sl RR])], []⟩)
  (fun i => i ≤ lb.length ∧ (lb.drop i).any heavyLb = R) (fun i => lb.length - i) ?_ 0 ?_ ?_
 ·rintro K i hK ⟨h1, h2⟩
  by_cases gi : i < lb.length
  ·have t1 : IntKind.i64.wrap ((i : Int) + 1) = (i + 1 : Nat) := by rw [wrap_i64] <;> omega
   have ra := rat i gi
   have gR : i < RU.length := by omega
   rw [any_at _ _ _ gi] at h2
   have fin : heavyLb lb[i] = false → ∀ σ', Weak σ' ⟨[(1, .ptr (.n 1) 0), (3, i6 (i + 1 : Nat))], [(.n 1, [.str n, .int .u32 t, i6 g, i6 a, i6 o, i6 c, .sl RU, .sl RR])], []⟩ → K σ' :=
    fun hb σ' hσ => hK (i + 1) σ' ⟨by omega, by rw [hb, Bool.false_or] at h2; exact h2⟩ (by omega) hσ
   have hno : heavyLb lb[i] = true → R = true := fun hb => by rw [hb, Bool.true_or] at h2; exact h2.symm
   unfold heavyLb at fin hno
   clear hK h2 hR rat tail
   generalize lb[i].n = yn at *
   generalize lb[i].t = yt at *
   by_cases q : (2000 : Int) < yn.length
   ·have q2 : 2000 < yn.length := by omega
    rw [hno (by rw [decide_eq_true q, Bool.true_or])]
    simp -implicitDefEqProofs [gi, gR, ra, rl, q, q2]
   ·have q2 : ¬ 2000 < yn.length := by omega
    by_cases q3 : (2000 : Int) < yt.length
    ·have q4 : 2000 < yt.length := by omega
     rw [hno (by rw [decide_eq_true q3, Bool.or_true])]
     simp -implicitDefEqProofs [gi, gR, ra, rl, q, q2, q3, q4]
    ·have q4 : ¬ 2000 < yt.length := by omega
     have fin := fin (by rw [decide_eq_false q, decide_eq_false q3]; rfl)
     simp -implicitDefEqProofs [gi, gR, ra, rl, q, q2, q3, q4]
     refine fin _ ?_
     refine weak_mk ?_ ?_ ?_ ?_ ?_ ?_ <;> simp -implicitDefEqProofs [t1]
  ·obtain rfl : i = lb.length := by omega
   rw [List.drop_length] at h2
   have : R = false := by rw [← h2]; rfl
   subst this
   clear hK
   simp -implicitDefEqProofs [rl]
   refine tail _ ?_
   simp -implicitDefEqProofs
 ·exact ⟨Nat.zero_le _, by rw [hR]; rfl⟩
 ·refine weak_mk ?_ ?_ ?_ ?_ ?_ ?_ <;> simp -implicitDefEqProofs [l1]
theorem heavyG_spec (x : Gl) : Sp Tryz.prog gl 13 [.agg x.row] (.bool (heavyG x)) := by
 refine s13 rfl rfl ?_
 have ec : c13 = AC.cutAt 2 (AC.tl 2 c13) c13 := rfl
 rw [ec]
 obtain ⟨nm, t, g, a, o, c, lb, ru⟩ := x
 have tail := fun h1 h2 => heavyG_labels nm t g a o c lb ru h1 h2
 generalize AC.tl 2 c13 = TT at tail ⊢
 have hR : heavyG ⟨nm, t, g, a, o, c, lb, ru⟩ = ((decide ((2000 : Int) < nm.length) || (decide ((10 : Int) < lb.length) || decide ((10 : Int) < ru.length))) || (lb.any heavyLb || ru.any heavyRu)) := rfl
 have rl1 : (lb.map Lb.row).length = lb.length := by simp
 have rl2 : (ru.map Ru.row).length = ru.length := by simp
 simp only [Gl.row]
 generalize heavyG ⟨nm, t, g, a, o, c, lb, ru⟩ = R at *
 generalize (lb.any heavyLb || ru.any heavyRu) = E at *
 generalize lb.map Lb.row = LB at *
 generalize ru.map Ru.row = RU at *
 generalize lb.length = n1 at *
 generalize ru.length = n2 at *
 simp only [c13, AC.cutAt]
 by_cases q1 : (2000 : Int) < nm.length
 ·have q1' : 2000 < nm.length := by omega
  rw [decide_eq_true q1] at hR
  simp -implicitDefEqProofs [q1, q1', hR]
 ·have q1' : ¬ 2000 < nm.length := by omega
  by_cases q2 : (10 : Int) < n1
  ·have q2' : 10 < n1 := by omega
   rw [decide_eq_true q2] at hR
   simp -implicitDefEqProofs [q1, q1', rl1, q2, q2', hR]
  ·have q2' : ¬ 10 < n1 := by omega
   by_cases q3 : (10 : Int) < n2
   ·have q3' : 10 < n2 := by omega
    rw [decide_eq_true q3] at hR
    simp -implicitDefEqProofs [q1, q1', rl1, rl2, q2, q2', q3, q3', hR]
   ·have q3' : ¬ 10 < n2 := by omega
    rw [decide_eq_false q1, decide_eq_false q2, decide_eq_false q3] at hR
    have tail := tail (by omega) (by omega)
    have : R = E := by rw [hR]; rfl
    subst this
    simp -implicitDefEqProofs [q1, q1', rl1, rl2, q2, q2', q3, q3']
    refine tail _ ?_
    simp -implicitDefEqProofs
open Go.Proofs
theorem heavyG_fit {x : Gl} (h : heavyG x = false) : x.Fit := by
 unfold heavyG at h
 simp only [Bool.or_eq_false_iff, decide_eq_false_iff_not, List.any_eq_false, Bool.not_eq_true] at h
 obtain ⟨⟨h1, h2, h3⟩, h4, h5⟩ := h
 refine ⟨by omega, by omega, by omega, fun y hy => ?_, fun y hy => ?_⟩
 ·have := h4 y hy
  simp only [heavyLb, Bool.or_eq_false_iff, decide_eq_false_iff_not] at this
  exact ⟨by omega, by omega⟩
 ·have := h5 y hy
  simp only [heavyRu, decide_eq_false_iff_not] at this
  show y.n.length ≤ 2000
  omega
end Go.Ai
namespace Go.Ai
open Go.Proofs Go.Shelf Go.RowKit Go.Sort
def sortI (l : List Int) : List Int := l.mergeSort fun x y => decide (x ≤ y)
theorem sortI_len (l : List Int) : (sortI l).length = l.length := List.length_mergeSort l
theorem sort_spec (L : List Int) (hL : L.length ≤ 1000000) (d : Nat) (b : Id) (hit : b.isIt = false) (hnw : b.isNw d = false) :
  SpH Tryz.prog gl 119 d ⟨[.ms b 0 L.length 1], [(b, intCells .i64 L)], []⟩ ⟨.tup [], [(b, intCells .i64 (sortI L))], []⟩ := by
 refine mut_spec (l := []) Tryz.func119 (by kernel_rfl) (by kernel_rfl) hit hnw (by rw [intCells_len, intCells_len, sortI_len]) ?_
 intro S gb w g cap us T vs hg hvs hh hn hc1 hc2 hcs hp hone
 simp only [PRlist] at hvs
 subst hvs
 rw [intCells_len] at hcs hp ⊢
 have hp2 := intCells_PR.1 hp
 have hglt : g < w.heap.size := (Array.getElem?_eq_some_iff.1 hh).1
 have J := AnyM.slices_Sort_int laysSort g 0 cap L w (holds_ints hh hp2) hglt (by omega)
 refine J.mono ?_
 rintro e w' ⟨rfl, q, os, rfl⟩
 have hsl : (L.mergeSort fun x y => decide (x ≤ y)).length = L.length := List.length_mergeSort L
 obtain ⟨us', p1, p2, p3, p4, p5, p6⟩ := put_ints (k := .i64) (zs := L.mergeSort fun x y => decide (x ≤ y)) q os hh (by rw [hsl]; exact hcs) hone
 refine ⟨_, us', rfl, by simp only [PR, PRlist]; exact ⟨_, rfl, rfl⟩, p1, p2, p3, ?_, p5, p6, rfl, rfl, rfl⟩
 rw [← hsl]
 exact intCells_PR.2 p4
theorem sortNil_spec : Sp Tryz.prog gl 119 [.nils] (.tup []) := by
 refine shelf_spec Tryz.func119 (by kernel_rfl) (by kernel_rfl) ?_
 intro S gb w vs hvs hag
 simp only [PRlist, PR] at hvs
 obtain ⟨_, _, rfl, rfl, rfl⟩ := hvs
 exact (AnyM.slices_Sort_int_none laysSort none 0 w).mono fun e w' ⟨he, hw⟩ => ⟨_, he, hw ▸ Below.refl _ _, by simp only [PR, PRlist]; exact ⟨_, rfl, rfl⟩⟩
def compactI (l : List Int) : List Int := Lib.compact l
theorem compactUpTo_le {α : Type} [Inhabited α] [DecidableEq α] (d : Array α) (m : Nat) : (Lib.compactUpTo d m).length ≤ m := by
 unfold Lib.compactUpTo
 rw [List.length_map]
 exact Nat.le_trans (List.length_filter_le _ _) (by simp)
theorem compactI_le (l : List Int) : (compactI l).length ≤ l.length := compactUpTo_le _ _
theorem compact_spec (L : List Int) (hL : L.length ≤ 1000000) (d : Nat) (b : Id) (hit : b.isIt = false) (hnw : b.isNw d = false) :
  SpH Tryz.prog gl 120 d ⟨[.ms b 0 L.length 1], [(b, intCells .i64 L)], []⟩ ⟨.ms b 0 (compactI L).length 1, [(b, intCells .i64 (compactI L ++ List.replicate (L.length - (compactI L).length) 0))], []⟩ := by
 have hle := compactI_le L
 have hll : (compactI L ++ List.replicate (L.length - (compactI L).length) 0).length = L.length := by simp; omega
 refine mut_spec (l := []) Tryz.func120 (by kernel_rfl) (by kernel_rfl) hit hnw (by rw [intCells_len, intCells_len, hll]) ?_
 intro S gb w g cap us T vs hg hvs hh hn hc1 hc2 hcs hp hone
 simp only [PRlist] at hvs
 subst hvs
 rw [intCells_len] at hcs hp ⊢
 have hp2 := intCells_PR.1 hp
 have J := AnyE.slices_Compact laysCompact (Value.int .i64) (fun _ => rfl) (EqlAt.intD _ _ .i64) (NeqAt.intD _ _ .i64) (0 : Int) Tryz.zeroValue2 g 0 cap L.toArray w (holds_ints hh hp2) (by simp; omega) (by simpa using hn)
 have e1 : Lib.compactUpTo L.toArray L.toArray.size = compactI L := by simp [compactI, Lib.compact]
 rw [e1] at J
 simp only [List.size_toArray] at J
 refine J.mono ?_
 rintro e w' ⟨rfl, q, rfl⟩
 have hgr : ∀ W : World, grow W #[] = W := fun W => by simp [grow]
 obtain ⟨us', p1, p2, p3, p4, p5, p6⟩ := put_ints (k := .i64) (zs := compactI L ++ List.replicate (L.length - (compactI L).length) 0) q #[] hh (by rw [hll]; exact hcs) hone
 rw [hgr] at p1 p5 p6
 refine ⟨_, us', rfl, ?_, p1, p2, p3, ?_, p5, p6, rfl, rfl, rfl⟩
 ·simp only [PR]
  exact ⟨g, ⟨us.size, T⟩, cap, hg, hit, rfl, by omega, hc1, by simp only; omega⟩
 ·rw [hll] at p4
  exact intCells_PR.2 p4
theorem compactNil_spec (d : Nat) : SpH Tryz.prog gl 120 d ⟨[.nils], [], []⟩ ⟨.nils, [], []⟩ := by
 refine h120 rfl ?_
 simp -implicitDefEqProofs [c120]
 refine postH_r ⟨?_, ?_, ?_, ?_, ?_, ?_⟩ <;> simp -implicitDefEqProofs
end Go.Ai
