/- YtmbnoejneocmmaaGreatDoorP8: part of the abstract interpreter library (values, rules, soundness against the model) or of what a function of the seat computes. Conditions: as each theorem says. -/
import Derived.Test.YtmbnoejneocmmaaGreatDoorP7
import Derived.Test.YtmbnoejneocmmaaGreatDoorP6
import Derived.Test.YtmbnoejneocmmaaGreatDoorAiShelf3
set_option linter.unusedSimpArgs false
set_option linter.unusedVariables false
namespace Go.Ai
open Go.Proofs
/-! ### The document's side -/
end Go.Ai
set_option linter.unusedSimpArgs false
set_option linter.unusedVariables false
namespace Go.Ai
open Go.Proofs
end Go.Ai
set_option linter.unusedSimpArgs false
set_option linter.unusedVariables false
namespace Go.Ai
open Go.Proofs
end Go.Ai
set_option linter.unusedSimpArgs false
set_option linter.unusedVariables false
namespace Go.Ai
open Go.Proofs
end Go.Ai
set_option linter.unusedSimpArgs false
set_option linter.unusedVariables false
namespace Go.Ai
open Go.Proofs
end Go.Ai
set_option linter.unusedSimpArgs false
set_option linter.unusedVariables false
namespace Go.Ai
open Go.Proofs Go.Shelf Go.RowKit Go.Sort
def sortI (l : List Int) : List Int := l.mergeSort fun x y => decide (x ≤ y)
theorem sortI_len (l : List Int) : (sortI l).length = l.length := List.length_mergeSort l
theorem sort_spec (L : List Int) (hL : L.length ≤ 1000000) (d : Nat) (b : Id) (hit : b.isIt = false) (hnw : b.isNw d = false) :
    SpH Tryz.prog gl 225 d ⟨[.ms b 0 L.length 1], [(b, intCells .i64 L)], []⟩ ⟨.tup [], [(b, intCells .i64 (sortI L))], []⟩ := by
  refine mut_spec (l := []) Tryz.func225 (by kernel_rfl) (by kernel_rfl) hit hnw (by rw [intCells_len, intCells_len, sortI_len]) ?_
  intro S gb w g cap us T vs hg hvs hh hn hc1 hc2 hcs hp hone
  simp only [PRlist] at hvs
  subst hvs
  rw [intCells_len] at hcs hp ⊢
  have hp2 := intCells_PR.1 hp
  have hglt : g < w.heap.size := (Array.getElem?_eq_some_iff.1 hh).1
  have J := AnyM.slices_Sort_int laysSort g 0 cap L w (holds_ints hh hp2) hglt (by omega)
  refine J.mono ?_
  rintro e w' ⟨rfl, q, os, rfl⟩
  have hsl : (L.mergeSort fun x y => decide (x ≤ y)).length = L.length := List.length_mergeSort L
  obtain ⟨us', p1, p2, p3, p4, p5, p6⟩ := put_ints (k := .i64) (zs := L.mergeSort fun x y => decide (x ≤ y)) q os hh (by rw [hsl]; exact hcs) hone
  refine ⟨_, us', rfl, by simp only [PR, PRlist]; exact ⟨_, rfl, rfl⟩, p1, p2, p3, ?_, p5, p6, rfl, rfl, rfl⟩
  rw [← hsl]
  exact intCells_PR.2 p4
theorem sortNil_spec : Sp Tryz.prog gl 225 [.nils] (.tup []) := by
  refine shelf_spec Tryz.func225 (by kernel_rfl) (by kernel_rfl) ?_
  intro S gb w vs hvs hag
  simp only [PRlist, PR] at hvs
  obtain ⟨_, _, rfl, rfl, rfl⟩ := hvs
  exact (AnyM.slices_Sort_int_none laysSort none 0 w).mono fun e w' ⟨he, hw⟩ => ⟨_, he, hw ▸ Below.refl _ _, by simp only [PR, PRlist]; exact ⟨_, rfl, rfl⟩⟩
def compactI (l : List Int) : List Int := Lib.compact l
theorem compactUpTo_le {α : Type} [Inhabited α] [DecidableEq α] (d : Array α) (m : Nat) : (Lib.compactUpTo d m).length ≤ m := by
  unfold Lib.compactUpTo
  rw [List.length_map]
  exact Nat.le_trans (List.length_filter_le _ _) (by simp)
theorem compactI_le (l : List Int) : (compactI l).length ≤ l.length := compactUpTo_le _ _
theorem compact_spec (L : List Int) (hL : L.length ≤ 1000000) (d : Nat) (b : Id) (hit : b.isIt = false) (hnw : b.isNw d = false) :
    SpH Tryz.prog gl 226 d ⟨[.ms b 0 L.length 1], [(b, intCells .i64 L)], []⟩ ⟨.ms b 0 (compactI L).length 1, [(b, intCells .i64 (compactI L ++ List.replicate (L.length - (compactI L).length) 0))], []⟩ := by
  have hle := compactI_le L
  have hll : (compactI L ++ List.replicate (L.length - (compactI L).length) 0).length = L.length := by simp; omega
  refine mut_spec (l := []) Tryz.func226 (by kernel_rfl) (by kernel_rfl) hit hnw (by rw [intCells_len, intCells_len, hll]) ?_
  intro S gb w g cap us T vs hg hvs hh hn hc1 hc2 hcs hp hone
  simp only [PRlist] at hvs
  subst hvs
  rw [intCells_len] at hcs hp ⊢
  have hp2 := intCells_PR.1 hp
  have J := AnyE.slices_Compact laysCompact (Value.int .i64) (fun _ => rfl) (EqlAt.intD _ _ .i64) (NeqAt.intD _ _ .i64) (0 : Int) Tryz.zeroValue2 g 0 cap L.toArray w (holds_ints hh hp2) (by simp; omega) (by simpa using hn)
  have e1 : Lib.compactUpTo L.toArray L.toArray.size = compactI L := by simp [compactI, Lib.compact]
  rw [e1] at J
  simp only [List.size_toArray] at J
  refine J.mono ?_
  rintro e w' ⟨rfl, q, rfl⟩
  have hgr : ∀ W : World, grow W #[] = W := fun W => by simp [grow]
  obtain ⟨us', p1, p2, p3, p4, p5, p6⟩ := put_ints (k := .i64) (zs := compactI L ++ List.replicate (L.length - (compactI L).length) 0) q #[] hh (by rw [hll]; exact hcs) hone
  rw [hgr] at p1 p5 p6
  refine ⟨_, us', rfl, ?_, p1, p2, p3, ?_, p5, p6, rfl, rfl, rfl⟩
  · simp only [PR]
    exact ⟨g, ⟨us.size, T⟩, cap, hg, hit, rfl, by omega, hc1, by simp only; omega⟩
  · rw [hll] at p4
    exact intCells_PR.2 p4
theorem compactNil_spec (d : Nat) : SpH Tryz.prog gl 226 d ⟨[.nils], [], []⟩ ⟨.nils, [], []⟩ := by
  refine h226 rfl ?_
  simp -implicitDefEqProofs [c226]
  refine postH_r ⟨?_, ?_, ?_, ?_, ?_, ?_⟩ <;> simp -implicitDefEqProofs
end Go.Ai
