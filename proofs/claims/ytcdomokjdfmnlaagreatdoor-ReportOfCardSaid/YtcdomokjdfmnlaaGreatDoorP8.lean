/- YtcdomokjdfmnlaaGreatDoorP8: part of the abstract interpreter library (values, rules, soundness against the model) or of what a function of the seat computes. Conditions: as each theorem says. -/
import Derived.Test.YtcdomokjdfmnlaaGreatDoorP7
import Derived.Test.YtcdomokjdfmnlaaGreatDoorP6
set_option linter.unusedSimpArgs false
set_option linter.unusedVariables false
namespace Go.Ai
open Go.Proofs
set_option maxRecDepth 20000 in
theorem right33_awake : Sp Tryz.prog gl 93 [.agg [i6 5, i6 0, u 0, .sl []]] (.bool true) := by
  refine s93 rfl rfl ?_
  simp -implicitDefEqProofs [c93]
  refine wp_lpk (α := Nat) (fun i => ⟨[(1, .ptr (.n 1) 0), (6, .sl []), (7, i6 0), (8, i6 0)], [(.n 1, [i6 5, i6 0, u 0, .sl []])], []⟩)
    (fun i => True) (fun i => 0) ?_ 0 trivial ?_
  · rintro K i hK h1
    clear hK
    simp -implicitDefEqProofs
  · refine weak_mk ?_ ?_ ?_ ?_ ?_ ?_ <;> simp -implicitDefEqProofs
theorem bR_nil : byteRows [] = [] := rfl
def wsAwake : List (List UInt8) := [[114, 101, 112, 111, 114, 116], [97, 116], [53], [119, 97, 105, 116, 105, 110, 103], [48], [100, 114, 111, 112, 112, 101, 100], [48]]
theorem join_awake : ([] : List UInt8) ++ Lib.join wsAwake [32] ++ [10] = [114, 101, 112, 111, 114, 116, 32, 97, 116, 32, 53, 32, 119, 97, 105, 116, 105, 110, 103, 32, 48, 32, 100, 114, 111, 112, 112, 101, 100, 32, 48, 10] := by decide
theorem rows_awake : strRows wsAwake = [[.str [114, 101, 112, 111, 114, 116]], [.str [97, 116]], [.str [53]], [.str [119, 97, 105, 116, 105, 110, 103]], [.str [48]], [.str [100, 114, 111, 112, 112, 101, 100]], [.str [48]]] := rfl
theorem dec5 : Lib.decDigits 5 = [53] := by unfold Lib.decDigits; simp
theorem dec0 : Lib.decDigits 0 = [48] := by unfold Lib.decDigits; simp
set_option maxRecDepth 40000 in
theorem print33_awake : Sp Tryz.prog gl 43 [.agg [i6 5, i6 0, u 0, .sl []]] (.tup [.str [114, 101, 112, 111, 114, 116, 32, 97, 116, 32, 53, 32, 119, 97, 105, 116, 105, 110, 103, 32, 48, 32, 100, 114, 111, 112, 112, 101, 100, 32, 48, 10], i6 0]) := by
  refine s43 rfl rfl ?_
  have RT := right33_awake
  have D5 := rdigits_spec 5 (by omega)
  have D0 := rdigits_spec 0 (by omega)
  rw [dec5] at D5
  rw [dec0] at D0
  have t5 : IntKind.u64.wrap 5 = 5 := by rw [wrap_u64] <;> omega
  have t0 : IntKind.u64.wrap 0 = 0 := by rw [wrap_u64] <;> omega
  have LN := fun (d : Nat) (hbd : (Id.n 13).isNw d = false) => line_spec d (.n 13) rfl hbd (.nilT (.n 13) 168 2) (.inl rfl) [] wsAwake (by decide) (by decide)
  have ST := fun (d : Nat) (hd : (Id.n 13).isNw d = false) => st_spec (d := d) (b := .n 13) rfl hd (c0 := .ptr (.n 13) 0) ([] ++ Lib.join wsAwake [32] ++ [10]) (by simp)
  rw [join_awake] at LN ST
  rw [rows_awake] at LN
  generalize ([114, 101, 112, 111, 114, 116, 32, 97, 116, 32, 53, 32, 119, 97, 105, 116, 105, 110, 103, 32, 48, 32, 100, 114, 111, 112, 112, 101, 100, 32, 48, 10] : List UInt8) = txt at *
  simp -implicitDefEqProofs [c43]
  refine onC_mk _ RT ?_
  simp -implicitDefEqProofs [t5, t0]
  refine onC_mk _ D5 ?_
  simp -implicitDefEqProofs [t5, t0]
  refine onC_mk _ D0 ?_
  simp -implicitDefEqProofs [t5, t0]
  refine onC_mk _ D0 ?_
  simp -implicitDefEqProofs [t5, t0]
  refine onH_mk _ _ (LN _ rfl) ⟨?_, ?_, ?_, ?_, ?_, ?_, ?_⟩ ?_
  iterate 7 (· simp -implicitDefEqProofs [bR_nil])
  simp -implicitDefEqProofs
  refine wp_lpk (α := Nat) (fun i => ⟨[(4, .ptr (.n 13) 0), (29, .sl []), (30, i6 0), (31, i6 0)], [(.n 13, [.ptr (.n 13) 0, .sl (byteRows txt)])], [(.b (.n 13) 1, bk 5)]⟩)
    (fun i => True) (fun i => 0) ?_ 0 trivial ?_
  · rintro K i hK h1
    clear hK LN
    simp -implicitDefEqProofs
    refine onH_mk _ _ (ST _ rfl) ⟨?_, ?_, ?_, ?_, ?_, ?_, ?_⟩ ?_
    iterate 7 (· simp -implicitDefEqProofs)
    simp -implicitDefEqProofs
  · refine weak_mk ?_ ?_ ?_ ?_ ?_ ?_ <;> simp -implicitDefEqProofs
set_option maxRecDepth 20000 in
theorem awake33_spec : Sp Tryz.prog gl 10 [] (.bool true) := by
  refine s10 rfl rfl ?_
  have OF := repof_spec ⟨5, 0, [], 0, 0, 0, 0, 0, [], 0, []⟩ ⟨by simp, by simp, by simp⟩
  have e1 : (Vw.row ⟨5, 0, [], 0, 0, 0, 0, 0, [], 0, []⟩) = [i6 5, u 0, .sl [], i6 0, i6 0, i6 0, i6 0, i6 0, .sl [], u 0, .sl []] := rfl
  have e2 : repOf ⟨5, 0, [], 0, 0, 0, 0, 0, [], 0, []⟩ = [i6 5, i6 0, u 0, .sl []] := rfl
  rw [e1, e2] at OF
  have PR := print33_awake
  generalize ht : ([114, 101, 112, 111, 114, 116, 32, 97, 116, 32, 53, 32, 119, 97, 105, 116, 105, 110, 103, 32, 48, 32, 100, 114, 111, 112, 112, 101, 100, 32, 48, 10] : List UInt8) = txt at *
  simp only [c10, ht]
  simp -implicitDefEqProofs
  refine onC_mk _ OF ?_
  simp -implicitDefEqProofs
  refine onC_mk _ PR ?_
  simp -implicitDefEqProofs
end Go.Ai
set_option linter.unusedSimpArgs false
set_option linter.unusedVariables false
namespace Go.Ai
open Go.Proofs
/-- What the types say of a view's numbers. -/
structure GVnum (g : GV) : Prop where
  t : g.g.t < 4294967296
  ws : wvok g.ws
  cg : g.cg < 18446744073709551616
  cn : g.cn < 18446744073709551616
  ru : ruok g.g.ru
theorem heavyG_ru {x : Gl} (h : heavyG x = false) : x.ru.length ≤ 10 := by
  simp only [heavyG, Bool.or_eq_false_iff, decide_eq_false_iff_not] at h
  omega
theorem vwok_of {x : Vw} (hn : ∀ g ∈ x.gs, GVnum g) (h : heavyVw x = false) : Vwok x := by
  simp only [heavyVw, heavyEn, heavySi, Bool.or_eq_false_iff, decide_eq_false_iff_not, List.any_eq_false] at h
  obtain ⟨h1, ⟨h2, _⟩, _, h4⟩ := h
  refine ⟨fun g hg => ?_, by omega, by omega⟩
  have hv := h4 g hg
  simp only [Bool.not_eq_true, heavyGv, Bool.or_eq_false_iff, decide_eq_false_iff_not] at hv
  have := heavyG_ru hv.1
  have n := hn g hg
  exact ⟨n.t, n.ws, n.cg, n.cn, n.ru, by omega, by omega, by omega⟩
theorem goalOf_rs (g : GV) : (goalOf g).rs = rulesOf g := by
  unfold goalOf
  split
  · rfl
  · split <;> rfl
set_option maxRecDepth 20000 in
theorem reportOf_spec (x : Vw) (hn : ∀ g ∈ x.gs, GVnum g) : Sp Tryz.prog gl 3 [.agg x.row] (.bool true) := by
  refine s3 rfl rfl ?_
  have A := awake33_spec
  have HV := heavyVw_spec x
  have P1 : x.row.length = 11 := rfl
  have P2 : idsL x.row = [] := rfl
  have P3 : shutL x.row = some x.row := rfl
  have P4 : List.take 11 x.row = x.row := List.take_of_length_le (by omega)
  cases hh : heavyVw x with
  | true =>
    rw [hh] at HV
    generalize x.row = M at *
    simp -implicitDefEqProofs [c3]
    refine onC_mk _ A ?_
    simp -implicitDefEqProofs [P1, P2, P3, P4]
    refine onC_mk _ HV ?_
    simp -implicitDefEqProofs
  | false =>
    rw [hh] at HV
    have ok := vwok_of hn hh
    have O1 := repof_spec x ok
    have O2 := rof_spec x ok
    have SM := same33_spec x.now (waitOf x.es) x.dr (x.gs.map goalOf) (by have := ok.ng; simp; omega) (by
      intro g hg
      obtain ⟨v, hv, rfl⟩ := List.mem_map.1 hg
      rw [goalOf_rs, rulesOf, rulesTo_len]
      have := (ok.gs v hv).nr
      omega)
    have hr : repOf x = [i6 x.now, i6 (waitOf x.es), u x.dr, .sl ((x.gs.map goalOf).map GRp.row)] := rfl
    rw [← hr] at SM
    have R1 : (repOf x).length = 4 := rfl
    have R2 : idsL (repOf x) = [] := rfl
    have R3 : shutL (repOf x) = some (repOf x) := rfl
    generalize repOf x = RP at *
    generalize x.row = M at *
    simp -implicitDefEqProofs [c3]
    refine onC_mk _ A ?_
    simp -implicitDefEqProofs [P1, P2, P3, P4]
    refine onC_mk _ HV ?_
    simp -implicitDefEqProofs [P1, P2, P3, P4]
    refine onC_mk _ O1 ?_
    simp -implicitDefEqProofs [P1, P2, P3, P4]
    refine onC_mk _ O2 ?_
    simp -implicitDefEqProofs [R1, R2, R3]
    refine onC_mk _ SM ?_
    simp -implicitDefEqProofs
end Go.Ai
