/- OutlookPrints, for every input: the law returns true, never panics, and its arguments read as they did. Conditions: none beyond the given statement's own. -/
import Derived.Test.YtbepaingfmlpeaaOPrint2
import Derived.Test.YtbepaingfmlpeaaAiIn
import Derived.Test.YtbepaingfmlpeaaRows
import Derived.ProofKit
namespace Go.Proofs.Ytbepaingfmlpeaa.outlookPrints
open Go.ChangeShapes Go.WideShapes Go.ChangeAt Go.RowKit Go.Ai
theorem own : ownKnob Try.prog.godebug = none := by kernel_rfl
theorem laid : laidOutB Try.prog = true := by kernel_rfl
theorem law (l : List AV) (h : ShpAll Try.prog 4 Try.f11.params.toList l) : Sp Try.prog gl 11 l (.bool true) := by
  rw [Try.params11] at h
  simp [ShpAll, Shp, shpF, -Bool.exists_bool] at h
  obtain ⟨cs0, r0, rfl, ⟨a00, b00, rfl, ⟨k, rfl, wk⟩, a01, b01, rfl, ⟨hi, rfl, whi⟩, lo, rfl, wlo⟩, cs1, rfl, s, rfl, ws⟩ := h
  have bk := bounds_i64 wk
  have bhi := bounds_u64 whi
  obtain ⟨hi, rfl⟩ := Int.eq_ofNat_of_zero_le bhi.1
  have blo := bounds_u64 wlo
  obtain ⟨lo, rfl⟩ := Int.eq_ofNat_of_zero_le blo.1
  simp [argOf]
  exact outlookPrints_spec k hi lo s (by omega) (by omega)
set_option maxRecDepth 100000 in
theorem contract (H : Type) (enc : TypeId × Value → H) (W : World) (base : Nat) (args : Array Value) (ds gs : List (DataW H)) (before : List MemPlace)
    (hval : ∀ (j : Nat) t v, Try.f11.params[j]? = some t → args[j]? = some v → Value.okWide Try.prog W .any base t v)
    (hW : DataW.Whole enc Try.prog Try.f11.params.toList Rows.outlookPrintsSpec.vars false W args.toList ds gs before) :
    Calls Try.prog 11 args W fun e W' => ∃ v, e = .returned v ∧ Rows.outlookPrintsSpec.post enc Try.prog Try.f11 false true false false W args v W' := by
  have hA := hW
  obtain ⟨p, q, hA, hrest⟩ := hA
  have hok : (Try.f11.params.toList.all fun t => okT Try.prog 4 t) = true := by kernel_rfl
  refine law_contract (GL := gl) (dr := drD) (n := 4) (af := a11) (tb := 4) Try.func11 m11 laid (by kernel_rfl) hok (by kernel_rfl) Try.underlying4 (by kernel_rfl) hval hW (fun ds hd => ?_) (fun _ _ h => by cases h) (law (avAll Try.prog 4 Try.f11.params.toList ds) (args_shp hok hA))
  obtain ⟨d1, d2, rfl⟩ : ∃ d1 d2, ds = [d1, d2] := by
    match ds, hd with
    | [d1, d2], hd => exact ⟨d1, d2, rfl⟩
  exact ⟨rfl, rfl, rfl⟩

set_option maxRecDepth 100000 in
theorem lifted (os : Os) (started : os.Started) (H : Type) (enc : TypeId × Value → H) :
    ReturnsInHanded {} Try.checked os 11 .any (Rows.outlookPrintsSpec.pre6 enc Try.prog Try.f11 Rows.outlookPrintsRow.domain false) (Rows.outlookPrintsSpec.post enc Try.prog Try.f11 false true false false) := by
  refine returnsInHanded_of_change (C := Try.checked) own started (by kernel_rfl) Try.func11
    (ChangeSpec.witness6 (enc := enc) (C := Try.checked) false ⟨#[], #[.agg #[.int .i64 0, .int .u64 0, .int .u64 0], .string ByteArray.empty], []⟩ 8 (by kernel_rfl) (by kernel_rfl) (by kernel_rfl) (by kernel_rfl)) ?_
  intro W base args ds gs before hval hW _ _
  exact contract H enc W base args ds gs before hval hW

theorem proved : Rows.OutlookPrintsSaid :=
  OpenClaim.holds_of_wide 11 Try.f11 rfl rfl rfl rfl rfl rfl rfl ⟨rfl, rfl, rfl, rfl, rfl⟩ rfl rfl rfl rfl rfl (by kernel_rfl) Try.func11 (by kernel_rfl)
    (of_decide_eq_true (by kernel_rfl)) (by unfold Func.isWrapper; first | (rw [if_pos (by decide +kernel)]; kernel_rfl) | (rw [if_neg (by decide +kernel)]; exact ⟨rfl, rfl⟩))
    (fun os started H enc _ => lifted os started H enc)
end Go.Proofs.Ytbepaingfmlpeaa.outlookPrints
