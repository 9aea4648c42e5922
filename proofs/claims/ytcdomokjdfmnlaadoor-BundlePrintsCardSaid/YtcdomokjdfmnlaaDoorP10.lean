/- YtcdomokjdfmnlaaDoorP10: part of the abstract interpreter library (values, rules, soundness against the model) or of what a function of the seat computes. Conditions: as each theorem says. -/
import Derived.Test.YtcdomokjdfmnlaaDoorP9
import Derived.Test.YtcdomokjdfmnlaaDoorCode
import Derived.Lib.LaidU8
import GoSem.PinnedTables
set_option linter.unusedSimpArgs false
set_option linter.unusedVariables false
namespace Go.Ai
open Go.Proofs
theorem spn_print {m : Ms} (h : rightM m = true) : spn [] (Lib.trimSuffix (printM m) [10]) = headM m :: m.ks.map lineK := by
  obtain ⟨a, ha⟩ := printM_nl m
  have hl := printM_lns h
  rw [ha, lns_nl] at hl
  rw [ha, trim_nl]
  exact congrArg Prod.fst hl
theorem spn_lens : ∀ (s cur : List UInt8), (∀ x ∈ spn cur s, x.length ≤ cur.length + s.length)
  | [], cur, x, hx => by simp [spn] at hx; subst hx; simp
  | b :: r, cur, x, hx => by
    simp only [spn] at hx
    split at hx
    · rcases List.mem_cons.1 hx with rfl | hx
      · simp
      · have := spn_lens r [] x hx; simp at this ⊢; omega
    · have := spn_lens r _ x hx; simp at this ⊢; omega
theorem bread_ks (s : List UInt8) : (bReadM s).1.ks.length ≤ 8 := by
  rcases b_good s with h | ⟨_, h, _⟩
  · rw [h]; simp [mz]
  · exact (rightM_all h).2.1
theorem mrow3 (m : Ms) : m.row = [.str m.g, .bool m.p, .sl (m.ks.map Ky.row)] := rfl
set_option maxRecDepth 40000 in
theorem bundlePrints_spec (m : Ms) (s : List UInt8) : Sp Tryd.prog gl 7 [.agg m.row, .str s] (.bool true) := by
  refine s7 rfl rfl ?_
  have AW := awake30_spec
  have HV := heavyKs_spec m.ks
  cases hh : heavyKs m.ks
  · rw [hh] at HV
    by_cases hg : 500 < m.g.length
    · have hg' : (500 : Int) < m.g.length := by omega
      rw [mrow3]
      simp -implicitDefEqProofs [c7]
      refine onC_mk _ AW ?_
      simp -implicitDefEqProofs
      refine onC_mk _ HV ?_
      simp -implicitDefEqProofs [hg']
    · have hg' : ¬ (500 : Int) < m.g.length := by omega
      by_cases hs : 3000 < s.length
      · have hs' : (3000 : Int) < s.length := by omega
        rw [mrow3]
        simp -implicitDefEqProofs [c7]
        refine onC_mk _ AW ?_
        simp -implicitDefEqProofs
        refine onC_mk _ HV ?_
        simp -implicitDefEqProofs [hg', hs']
      · have hs' : ¬ (3000 : Int) < s.length := by omega
        simp only [heavyKs, Bool.or_eq_false_iff, decide_eq_false_iff_not, List.any_eq_false] at hh
        have hk : ∀ k ∈ m.ks, k.g.length ≤ 500 ∧ k.r.length ≤ 500 := by
          intro k hk
          have := hh.2 k hk
          simp only [heavyK, decide_eq_true_eq] at this
          omega
        have BP := bprint_spec m (by omega) (fun k h => ⟨by have := hk k h; omega, by have := hk k h; omega⟩)
        have tle : (Lib.trimSuffix s [10]).length ≤ s.length := by unfold Lib.trimSuffix; split <;> simp
        have BR := bread_spec s (by omega) (fun x hx => by have := spn_lens _ _ x hx; simp at this; omega)
        have RR := rread30_spec s (by omega)
        unfold rR at RR
        rw [br_eq] at RR
        unfold bRv at BR
        have BG := bright_spec m (fun k h => ⟨by have := hk k h; omega, by have := hk k h; omega⟩)
        have RG := rright30_spec m (fun k h => ⟨by have := hk k h; omega, by have := hk k h; omega⟩)
        have SO := sameOne_spec (bReadM s).1 (bReadM s).1 (by have := bread_ks s; omega)
        rw [decide_eq_true rfl] at SO
        generalize (bReadM s).1 = x at *
        generalize (bReadM s).2 = ok at *
        rw [mrow3 x] at BR RR SO
        have go : ∀ (P : Prop), P → P := fun _ h => h
        cases hr : rightM m
        · rw [hr] at BP BG RG
          rw [mrow3 m] at BP BG RG ⊢
          cases ok
          · simp -implicitDefEqProofs [c7]
            refine onC_mk _ AW ?_
            simp -implicitDefEqProofs
            refine onC_mk _ HV ?_
            simp -implicitDefEqProofs [hg', hs']
            refine onC_mk _ BP ?_
            simp -implicitDefEqProofs
            refine onC_mk _ BR ?_
            simp -implicitDefEqProofs
            refine onC_mk _ RR ?_
            simp -implicitDefEqProofs
            refine onC_mk _ BG ?_
            simp -implicitDefEqProofs
            refine onC_mk _ RG ?_
            simp -implicitDefEqProofs
            refine onC_mk _ SO ?_
            simp -implicitDefEqProofs
            refine onC_mk _ RG ?_
            simp -implicitDefEqProofs
          · simp -implicitDefEqProofs [c7]
            refine onC_mk _ AW ?_
            simp -implicitDefEqProofs
            refine onC_mk _ HV ?_
            simp -implicitDefEqProofs [hg', hs']
            refine onC_mk _ BP ?_
            simp -implicitDefEqProofs
            refine onC_mk _ BR ?_
            simp -implicitDefEqProofs
            refine onC_mk _ RR ?_
            simp -implicitDefEqProofs
            refine onC_mk _ BG ?_
            simp -implicitDefEqProofs
            refine onC_mk _ RG ?_
            simp -implicitDefEqProofs
            refine onC_mk _ SO ?_
            simp -implicitDefEqProofs
            refine onC_mk _ RG ?_
            simp -implicitDefEqProofs
        · obtain ⟨r1, r8, r3⟩ := rightM_all hr
          have hall := textTo_le m (by omega) (fun k h => ⟨by have := hk k h; omega, by have := hk k h; omega⟩) m.ks.length (Nat.le_refl _)
          rw [textTo_all] at hall
          have BR2 := bread_spec (printM m) (by omega) (by
            rw [spn_print hr]
            intro x hx
            rcases List.mem_cons.1 hx with rfl | hx
            · have := headM_le m; omega
            · obtain ⟨k, hkm, rfl⟩ := List.mem_map.1 hx
              have h1 := printK_le k
              have h2 := hk k hkm
              simp only [lineK, List.length_append, List.length_cons, List.length_nil]; omega)
          rw [b_print hr] at BR2
          unfold bRv at BR2
          have RP := rprint30_spec m (by omega) (by omega) (fun k h => ⟨by have := hk k h; omega, by have := hk k h; omega⟩)
          have SM := sameOne_spec m m (by omega)
          rw [decide_eq_true rfl] at SM
          rw [hr] at BP BG RG
          simp only [if_true] at BR2 BP
          rw [mrow3 m] at BP BG RG BR2 RP SM ⊢
          generalize printM m = t at *
          clear hr
          cases ok
          · simp -implicitDefEqProofs [c7]
            refine onC_mk _ AW ?_
            simp -implicitDefEqProofs
            refine onC_mk _ HV ?_
            simp -implicitDefEqProofs [hg', hs']
            refine onC_mk _ BP ?_
            simp -implicitDefEqProofs
            refine onC_mk _ BR ?_
            simp -implicitDefEqProofs
            refine onC_mk _ RR ?_
            simp -implicitDefEqProofs
            refine onC_mk _ BG ?_
            simp -implicitDefEqProofs
            refine onC_mk _ RG ?_
            simp -implicitDefEqProofs
            refine onC_mk _ SO ?_
            simp -implicitDefEqProofs
            refine onC_mk _ RG ?_
            simp -implicitDefEqProofs
            refine onC_mk _ BR2 ?_
            simp -implicitDefEqProofs
            refine onC_mk _ RP ?_
            simp -implicitDefEqProofs
            refine onC_mk _ SM ?_
            simp -implicitDefEqProofs
          · simp -implicitDefEqProofs [c7]
            refine onC_mk _ AW ?_
            simp -implicitDefEqProofs
            refine onC_mk _ HV ?_
            simp -implicitDefEqProofs [hg', hs']
            refine onC_mk _ BP ?_
            simp -implicitDefEqProofs
            refine onC_mk _ BR ?_
            simp -implicitDefEqProofs
            refine onC_mk _ RR ?_
            simp -implicitDefEqProofs
            refine onC_mk _ BG ?_
            simp -implicitDefEqProofs
            refine onC_mk _ RG ?_
            simp -implicitDefEqProofs
            refine onC_mk _ SO ?_
            simp -implicitDefEqProofs
            refine onC_mk _ RG ?_
            simp -implicitDefEqProofs
            refine onC_mk _ BR2 ?_
            simp -implicitDefEqProofs
            refine onC_mk _ RP ?_
            simp -implicitDefEqProofs
            refine onC_mk _ SM ?_
            simp -implicitDefEqProofs
  · rw [hh] at HV
    rw [mrow3]
    simp -implicitDefEqProofs [c7]
    refine onC_mk _ AW ?_
    simp -implicitDefEqProofs
    refine onC_mk _ HV ?_
    simp -implicitDefEqProofs
end Go.Ai
set_option linter.unusedSimpArgs false
set_option linter.unusedVariables false
namespace Go.Ai
open Go.Proofs Go.Lib
set_option maxRecDepth 100000
/-! ### The listed tables of unicode/utf8, as cells -/
def accCells : List Value := (List.range 32).map fun o => Value.int .u8 (if o % 2 = 0 then (accLo (o / 2) : Int) else (accHi (o / 2) : Int))
def firstCells : List Value := firstTab.map fun z => Value.int .u8 z
theorem first_cell {W : World} (h : VarReads Tryd.prog W "unicode/utf8.first" firstData) (o : Nat) (u : Value) (hu : firstCells[o]? = some u) : W.cell? ⟨2, o, none⟩ = some u ∧ u.oneCell' = true := by
  have hg0 : Tryd.prog.globalNamed "unicode/utf8.first" = some 2 := by kernel_rfl
  have ht0 : (Tryd.prog.globals[2]?).map (·.type) = some 242 := by kernel_rfl
  obtain ⟨g, t, cs, fuel, p, hg, hty, hvar, hd⟩ := h
  obtain rfl := Option.some.inj (hg0.symm.trans hg)
  obtain rfl := Option.some.inj (ht0.symm.trans hty)
  have hcs := cells_of_tab (t := 242) (e := 5) (n := 256) (by kernel_rfl) (by kernel_rfl) (by kernel_rfl) (by kernel_rfl) hd
  refine ⟨?_, ?_⟩
  · rw [World.var?_cell hg hvar o, ← Array.getElem?_toList, hcs]
    exact hu
  · obtain ⟨z, _, rfl⟩ := List.mem_map.1 (List.mem_of_getElem? hu)
    rfl
theorem acc_cell {W : World} (h : VarReads Tryd.prog W "unicode/utf8.acceptRanges" acceptData) (o : Nat) (u : Value) (hu : accCells[o]? = some u) : W.cell? ⟨3, o, none⟩ = some u ∧ u.oneCell' = true := by
  have hg0 : Tryd.prog.globalNamed "unicode/utf8.acceptRanges" = some 3 := by kernel_rfl
  have ht0 : (Tryd.prog.globals[3]?).map (·.type) = some 245 := by kernel_rfl
  have hc0 : Tryd.prog.cellsOf 244 = 2 := by kernel_rfl
  obtain ⟨g, t, cs, fuel, p, hg, hty, hvar, hd⟩ := h
  obtain rfl := Option.some.inj (hg0.symm.trans hg)
  obtain rfl := Option.some.inj (ht0.symm.trans hty)
  have ho : o < 32 := by have := (List.getElem?_eq_some_iff.1 hu).1; simpa [accCells] using this
  simp only [accCells, List.getElem?_map, List.getElem?_range ho, Option.map_some, Option.some.injEq] at hu
  subst hu
  refine ⟨?_, by split <;> rfl⟩
  have hi : o / 2 < 16 := by omega
  obtain ⟨fuel', d, q, hdi, he⟩ := array_elem (t := 245) (e := 244) (n := 16) (by kernel_rfl) hd (o / 2) hi
  simp only [List.getElem?_map, List.getElem?_range hi, Option.map_some, Option.some.injEq] at hdi
  subst hdi
  rw [hc0] at he
  obtain ⟨fs, hfs, hsz, hf⟩ : ∃ fs : Array Field, Tryd.prog.underlying 244 = some (.struct fs) ∧ fs.size = 2 ∧ ∀ (i : Nat) (f : Field), fs[i]? = some f → Tryd.prog.underlying f.type = some (.int .u8) ∧ f.offset = i ∧ Tryd.prog.cellsOf f.type = 1 := by
    refine ⟨_, (by kernel_rfl : Tryd.prog.underlying 244 = some (.struct #[Field.mk "lo" 5 0 false "" "unicode/utf8" 0, Field.mk "hi" 5 1 false "" "unicode/utf8" 1])), rfl, fun j f hj => ?_⟩
    match j, hj with
    | 0, hj => simp at hj; subst hj; exact ⟨by kernel_rfl, rfl, by kernel_rfl⟩
    | 1, hj => simp at hj; subst hj; exact ⟨by kernel_rfl, rfl, by kernel_rfl⟩
    | j + 2, hj => simp at hj
  have hcs := ints_of_struct hfs hf (by rw [hc0, hsz]) he
  have e0 := congrArg (·[0]?) hcs
  have e1 := congrArg (·[1]?) hcs
  simp only [List.getElem?_take, List.getElem?_drop] at e0 e1
  rw [World.var?_cell hg hvar o, ← Array.getElem?_toList]
  by_cases hp : o % 2 = 0
  · rw [if_pos hp]
    have eo : o / 2 * 2 + 0 = o := by omega
    rw [eo] at e0
    simpa using e0
  · rw [if_neg hp]
    have eo : o / 2 * 2 + 1 = o := by omega
    rw [eo] at e1
    simpa using e1
end Go.Ai
