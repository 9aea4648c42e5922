/- YtcdomokjdfmnlaaDoorP8: part of the abstract interpreter library (values, rules, soundness against the model) or of what a function of the seat computes. Conditions: as each theorem says. -/
import Derived.Test.YtcdomokjdfmnlaaDoorP7
import Derived.Test.YtcdomokjdfmnlaaDoorP3
import Derived.Test.YtcdomokjdfmnlaaDoorP4
import Derived.Test.YtcdomokjdfmnlaaDoorCode
import Derived.Lib.LaidU8
import GoSem.PinnedTables
set_option linter.unusedSimpArgs false
set_option linter.unusedVariables false
namespace Go.Ai
open Go.Proofs
theorem nameT_ne {s : List UInt8} (h : nameT s = true) : s ≠ [] := by
  intro e
  subst e
  have : nameT [] = false := by decide +kernel
  rw [this] at h; cases h
theorem goal_nm {x : Gl} (h : goalP x = true) : NmOk x := by
  unfold goalP rulesP at h
  simp only [Bool.and_eq_true, List.all_eq_true] at h
  obtain ⟨_, _, _, _, _, _, _, _, h1, _, h2⟩ := h
  refine ⟨fun r hr => ?_, by simpa [uniq] using h2⟩
  have := h1 r hr
  unfold ruP at this
  simp only [Bool.and_eq_true] at this
  exact nameT_ne this.2.2.2.1
theorem right_ok {c : Cf} (h : rightP c = true) : CfOk c.gs := by
  unfold rightP at h
  simp only [Bool.and_eq_true, List.all_eq_true] at h
  obtain ⟨h1, _, _, _, _, _, _, h2⟩ := h
  exact ⟨by simpa [uniq] using h2, fun x hx => goal_nm (h1 x hx)⟩
theorem planP_len (a b : List Gl) (ha : a.length ≤ 10) (hb : b.length ≤ 10) (hra : ∀ x ∈ a, x.ru.length ≤ 10) (hrb : ∀ x ∈ b, x.ru.length ≤ 10) : (planQ a b).length ≤ 320 := by
  have h0 : (planP a b).length = (planQ a b).length := by rw [planQ_row]; simp
  rw [← h0]
  unfold planP
  have h1 := flatMap_len (newT a) 21 b (fun x hx => goalT_len _ _ _ (hrb x hx) (wasG_len _ hra _))
  have h2 := flatMap_len (oldT b) 11 a (fun x hx => oldT_len _ _ (hra x hx))
  rw [List.length_append]; omega
set_option maxRecDepth 20000 in
theorem changePlans_spec (a b : Cf) (g r : List UInt8) : Sp Tryd.prog gl 6 [.agg a.row, .agg b.row, .str g, .str r] (.bool true) := by
  refine s6 rfl rfl ?_
  have A := awake_spec
  have H1 := heavyC_spec a
  have H2 := heavyC_spec b
  have P1 : a.row.length = 6 := rfl
  have P2 : idsL a.row = [] := rfl
  have P3 : shutL a.row = some a.row := rfl
  have Q1 : b.row.length = 6 := rfl
  have Q2 : idsL b.row = [] := rfl
  have Q3 : shutL b.row = some b.row := rfl
  have e8 : List.take 6 a.row = a.row := List.take_of_length_le (by omega)
  have f8 : List.take 6 b.row = b.row := List.take_of_length_le (by omega)
  cases ha : heavyC a with
  | true =>
    rw [ha] at H1
    generalize a.row = P at *
    generalize b.row = Q at *
    simp -implicitDefEqProofs [c6]
    refine onC_mk _ (A) ?_
    simp -implicitDefEqProofs [P1, e8, P3]
    refine onC_mk _ (H1) ?_
    simp -implicitDefEqProofs
  | false =>
  rw [ha] at H1
  cases hb : heavyC b with
  | true =>
    rw [hb] at H2
    generalize a.row = P at *
    generalize b.row = Q at *
    simp -implicitDefEqProofs [c6]
    refine onC_mk _ (A) ?_
    simp -implicitDefEqProofs [P1, e8, P3]
    refine onC_mk _ (H1) ?_
    simp -implicitDefEqProofs [Q1, f8, Q3]
    refine onC_mk _ (H2) ?_
    simp -implicitDefEqProofs
  | false =>
  rw [hb] at H2
  by_cases g1 : (2000 : Int) < g.length
  · generalize a.row = P at *
    generalize b.row = Q at *
    simp -implicitDefEqProofs [c6]
    refine onC_mk _ (A) ?_
    simp -implicitDefEqProofs [P1, e8, P3]
    refine onC_mk _ (H1) ?_
    simp -implicitDefEqProofs [Q1, f8, Q3]
    refine onC_mk _ (H2) ?_
    simp -implicitDefEqProofs [g1]
  by_cases g2 : (2000 : Int) < r.length
  · generalize a.row = P at *
    generalize b.row = Q at *
    simp -implicitDefEqProofs [c6]
    refine onC_mk _ (A) ?_
    simp -implicitDefEqProofs [P1, e8, P3]
    refine onC_mk _ (H1) ?_
    simp -implicitDefEqProofs [Q1, f8, Q3]
    refine onC_mk _ (H2) ?_
    simp -implicitDefEqProofs [g1, g2]
  have fa := heavyC_fit ha
  have fb := heavyC_fit hb
  have na := fa.n
  have nb := fb.n
  have L := plan_spec a b fa fb
  have M := rplan_spec a b (by omega) (by omega) (fun x hx => (fa.gs x hx).ru) (fun x hx => (fb.gs x hx).ru)
  have R1 := qright_spec a fa
  have R2 := qright_spec b fb
  cases ra : rightP a with
  | false =>
    rw [ra] at L R1
    simp only [Bool.false_and, Bool.false_eq_true, if_false] at L
    generalize a.row = P at *
    generalize b.row = Q at *
    simp -implicitDefEqProofs [c6]
    refine onC_mk _ (A) ?_
    simp -implicitDefEqProofs [P1, e8, P3]
    refine onC_mk _ (H1) ?_
    simp -implicitDefEqProofs [Q1, f8, Q3]
    refine onC_mk _ (H2) ?_
    simp -implicitDefEqProofs [g1, g2, P1, e8, P3, Q1, f8, Q3]
    refine onC_mk _ (L) ?_
    simp -implicitDefEqProofs [P1, e8, P3, Q1, f8, Q3]
    refine onC_mk _ (R1) ?_
    simp -implicitDefEqProofs
  | true =>
  rw [ra] at L R1
  cases rb : rightP b with
  | false =>
    rw [rb] at L R2
    simp only [Bool.and_false, Bool.false_eq_true, if_false] at L
    generalize a.row = P at *
    generalize b.row = Q at *
    simp -implicitDefEqProofs [c6]
    refine onC_mk _ (A) ?_
    simp -implicitDefEqProofs [P1, e8, P3]
    refine onC_mk _ (H1) ?_
    simp -implicitDefEqProofs [Q1, f8, Q3]
    refine onC_mk _ (H2) ?_
    simp -implicitDefEqProofs [g1, g2, P1, e8, P3, Q1, f8, Q3]
    refine onC_mk _ (L) ?_
    simp -implicitDefEqProofs [P1, e8, P3, Q1, f8, Q3]
    refine onC_mk _ (R1) ?_
    simp -implicitDefEqProofs [P1, e8, P3, Q1, f8, Q3]
    refine onC_mk _ (R2) ?_
    simp -implicitDefEqProofs
  | true =>
  rw [rb] at L R2
  simp only [Bool.and_self, if_true] at L
  have AP := planQ_apart a.gs b.gs (right_ok ra) (right_ok rb)
  have ll := planP_len a.gs b.gs na nb (fun x hx => (fa.gs x hx).ru) (fun x hx => (fb.gs x hx).ru)
  rw [planQ_row] at L M
  generalize planQ a.gs b.gs = l at *
  have ST := sameT_spec l (by omega)
  have F1 := find_spec l g r (by omega)
  have F2 := rfind_spec l g r (by omega)
  have F := fun g r => find_spec l g r (by omega)
  have hfk : ∀ i (h : i < l.length), findQ l l[i].1 l[i].2.1 = l[i].2.2 := fun i h => by
    have := find_key l[i].1 l[i].2.1 l AP l[i] (List.getElem_mem _) rfl rfl
    unfold findQ
    have e : isT l[i].1 l[i].2.1 = fun s : Tr => s.1 == l[i].1 && s.2.1 == l[i].2.1 := rfl
    rw [e, this]
  have rl : (l.map trow).length = l.length := by simp
  have rat : ∀ i (h : i < l.length), ∀ h2, (l.map trow)[i]'h2 = [.str l[i].1, .str l[i].2.1, i6 l[i].2.2] := fun i h h2 => by simp [trow, tn]
  generalize l.map trow = RR at *
  generalize findQ l g r = z0 at *
  generalize a.row = P at *
  generalize b.row = Q at *
  simp -implicitDefEqProofs [c6]
  refine onC_mk _ (A) ?_
  simp -implicitDefEqProofs [P1, e8, P3]
  refine onC_mk _ (H1) ?_
  simp -implicitDefEqProofs [Q1, f8, Q3]
  refine onC_mk _ (H2) ?_
  simp -implicitDefEqProofs [g1, g2, P1, e8, P3, Q1, f8, Q3]
  refine onC_mk _ (L) ?_
  simp -implicitDefEqProofs [P1, e8, P3, Q1, f8, Q3]
  refine onC_mk _ (R1) ?_
  simp -implicitDefEqProofs [P1, e8, P3, Q1, f8, Q3]
  refine onC_mk _ (R2) ?_
  simp -implicitDefEqProofs [P1, e8, P3, Q1, f8, Q3]
  refine onC_mk _ (M) ?_
  simp -implicitDefEqProofs
  refine onC_mk _ (ST) ?_
  simp -implicitDefEqProofs
  refine onC_mk _ (F1) ?_
  simp -implicitDefEqProofs
  refine onC_mk _ (F2) ?_
  simp -implicitDefEqProofs
  refine wp_lpk (α := Nat) (fun i => ⟨[(9, .sl RR), (11, .sl RR), (12, i6 i)], [], []⟩) (fun i => i ≤ l.length) (fun i => l.length - i) ?_ 0 ?_ ?_
  · rintro K i hK h1
    by_cases q : i < l.length
    · have t1 : IntKind.i64.wrap ((i : Int) + 1) = (i + 1 : Nat) := by rw [wrap_i64] <;> omega
      have rq := rat i q
      have gR : i < RR.length := by omega
      have F := F l[i].1 l[i].2.1
      rw [hfk i q] at F
      have fin : ∀ σ', Weak σ' ⟨[(9, .sl RR), (11, .sl RR), (12, i6 (i + 1 : Nat))], [], []⟩ → K σ' :=
        fun σ' hσ => hK (i + 1) σ' (by omega) (by omega) hσ
      clear hK rat hfk
      generalize l[i] = x at *
      simp -implicitDefEqProofs [q, gR, rq, rl]
      refine onC_mk _ (F) ?_
      simp -implicitDefEqProofs [q, gR, rq, rl, t1]
      refine fin _ ?_
      refine weak_mk ?_ ?_ ?_ ?_ ?_ ?_ <;> simp -implicitDefEqProofs [t1]
    · obtain rfl : i = l.length := by omega
      clear hK
      simp -implicitDefEqProofs [rl]
  · exact Nat.zero_le _
  · refine weak_mk ?_ ?_ ?_ ?_ ?_ ?_ <;> simp -implicitDefEqProofs
end Go.Ai
set_option linter.unusedSimpArgs false
set_option linter.unusedVariables false
namespace Go.Ai
open Go.Proofs Go.Lib
set_option maxRecDepth 100000
/-! ### The listed tables of unicode/utf8, as cells -/
def accCells : List Value := (List.range 32).map fun o => Value.int .u8 (if o % 2 = 0 then (accLo (o / 2) : Int) else (accHi (o / 2) : Int))
def firstCells : List Value := firstTab.map fun z => Value.int .u8 z
theorem gl_is : gl = [(2, firstCells), (3, accCells)] := by kernel_rfl
theorem first_cell {W : World} (h : VarReads Tryd.prog W "unicode/utf8.first" firstData) (o : Nat) (u : Value) (hu : firstCells[o]? = some u) : W.cell? ⟨2, o, none⟩ = some u ∧ u.oneCell' = true := by
  have hg0 : Tryd.prog.globalNamed "unicode/utf8.first" = some 2 := by kernel_rfl
  have ht0 : (Tryd.prog.globals[2]?).map (·.type) = some 242 := by kernel_rfl
  obtain ⟨g, t, cs, fuel, p, hg, hty, hvar, hd⟩ := h
  obtain rfl := Option.some.inj (hg0.symm.trans hg)
  obtain rfl := Option.some.inj (ht0.symm.trans hty)
  have hcs := cells_of_tab (t := 242) (e := 5) (n := 256) (by kernel_rfl) (by kernel_rfl) (by kernel_rfl) (by kernel_rfl) hd
  refine ⟨?_, ?_⟩
  · rw [World.var?_cell hg hvar o, ← Array.getElem?_toList, hcs]
    exact hu
  · obtain ⟨z, _, rfl⟩ := List.mem_map.1 (List.mem_of_getElem? hu)
    rfl
theorem acc_cell {W : World} (h : VarReads Tryd.prog W "unicode/utf8.acceptRanges" acceptData) (o : Nat) (u : Value) (hu : accCells[o]? = some u) : W.cell? ⟨3, o, none⟩ = some u ∧ u.oneCell' = true := by
  have hg0 : Tryd.prog.globalNamed "unicode/utf8.acceptRanges" = some 3 := by kernel_rfl
  have ht0 : (Tryd.prog.globals[3]?).map (·.type) = some 245 := by kernel_rfl
  have hc0 : Tryd.prog.cellsOf 244 = 2 := by kernel_rfl
  obtain ⟨g, t, cs, fuel, p, hg, hty, hvar, hd⟩ := h
  obtain rfl := Option.some.inj (hg0.symm.trans hg)
  obtain rfl := Option.some.inj (ht0.symm.trans hty)
  have ho : o < 32 := by have := (List.getElem?_eq_some_iff.1 hu).1; simpa [accCells] using this
  simp only [accCells, List.getElem?_map, List.getElem?_range ho, Option.map_some, Option.some.injEq] at hu
  subst hu
  refine ⟨?_, by split <;> rfl⟩
  have hi : o / 2 < 16 := by omega
  obtain ⟨fuel', d, q, hdi, he⟩ := array_elem (t := 245) (e := 244) (n := 16) (by kernel_rfl) hd (o / 2) hi
  simp only [List.getElem?_map, List.getElem?_range hi, Option.map_some, Option.some.injEq] at hdi
  subst hdi
  rw [hc0] at he
  obtain ⟨fs, hfs, hsz, hf⟩ : ∃ fs : Array Field, Tryd.prog.underlying 244 = some (.struct fs) ∧ fs.size = 2 ∧ ∀ (i : Nat) (f : Field), fs[i]? = some f → Tryd.prog.underlying f.type = some (.int .u8) ∧ f.offset = i ∧ Tryd.prog.cellsOf f.type = 1 := by
    refine ⟨_, (by kernel_rfl : Tryd.prog.underlying 244 = some (.struct #[Field.mk "lo" 5 0 false "" "unicode/utf8" 0, Field.mk "hi" 5 1 false "" "unicode/utf8" 1])), rfl, fun j f hj => ?_⟩
    match j, hj with
    | 0, hj => simp at hj; subst hj; exact ⟨by kernel_rfl, rfl, by kernel_rfl⟩
    | 1, hj => simp at hj; subst hj; exact ⟨by kernel_rfl, rfl, by kernel_rfl⟩
    | j + 2, hj => simp at hj
  have hcs := ints_of_struct hfs hf (by rw [hc0, hsz]) he
  have e0 := congrArg (·[0]?) hcs
  have e1 := congrArg (·[1]?) hcs
  simp only [List.getElem?_take, List.getElem?_drop] at e0 e1
  rw [World.var?_cell hg hvar o, ← Array.getElem?_toList]
  by_cases hp : o % 2 = 0
  · rw [if_pos hp]
    have eo : o / 2 * 2 + 0 = o := by omega
    rw [eo] at e0
    simpa using e0
  · rw [if_neg hp]
    have eo : o / 2 * 2 + 1 = o := by omega
    rw [eo] at e1
    simpa using e1
theorem u8_glo (W : World) (h : laidMet Tryd.prog [("unicode/utf8.acceptRanges", acceptData), ("unicode/utf8.first", firstData)] W) : ∀ i us, List.lookup i gl = some us → ∀ (o : Nat) (u : Value), us[o]? = some u → W.cell? ⟨i, o, none⟩ = some u ∧ u.oneCell' = true := by
  intro i us hi o u hu
  rw [gl_is] at hi
  simp only [List.lookup] at hi
  split at hi
  · rename_i e
    have e := eq_of_beq e
    subst e
    obtain rfl := Option.some.inj hi
    exact first_cell (laidMet.reads h (by simp)) o u hu
  · split at hi
    · rename_i e
      have e := eq_of_beq e
      subst e
      obtain rfl := Option.some.inj hi
      exact acc_cell (laidMet.reads h (by simp)) o u hu
    · cases hi
end Go.Ai
