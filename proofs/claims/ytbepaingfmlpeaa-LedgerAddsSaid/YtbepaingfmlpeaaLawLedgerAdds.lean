/- LedgerAdds, for every input: the law returns true, never panics, and its arguments read as they did. Conditions: none beyond the given statement's own. -/
import Derived.Test.YtbepaingfmlpeaaLedger
import Derived.Test.YtbepaingfmlpeaaAiIn
import Derived.Test.YtbepaingfmlpeaaRows
import Derived.ProofKit
namespace Go.Proofs.Ytbepaingfmlpeaa.ledgerAdds
open Go.ChangeShapes Go.WideShapes Go.ChangeAt Go.RowKit Go.Ai
theorem own : ownKnob Try.prog.godebug = none := by kernel_rfl
theorem laid : laidOutB Try.prog = true := by kernel_rfl
theorem law (l : List AV) (h : ShpAll Try.prog 4 Try.f9.params.toList l) : Sp Try.prog 9 l (.bool true) := by
  rw [Try.params9] at h
  simp [ShpAll, Shp, shpF] at h
  obtain ⟨cs0, r0, rfl, ⟨t, rfl, wt⟩, cs1, r1, rfl, ⟨a10, b10, rfl, ⟨g, rfl, wg⟩, n, rfl, wn⟩, cs2, rfl, a20, b20, rfl, ⟨h, rfl, wh⟩, m, rfl, wm⟩ := h
  have bt := bounds_u32 wt
  obtain ⟨t, rfl⟩ := Int.eq_ofNat_of_zero_le bt.1
  have bg := bounds_u64 wg
  obtain ⟨g, rfl⟩ := Int.eq_ofNat_of_zero_le bg.1
  have bn := bounds_u64 wn
  obtain ⟨n, rfl⟩ := Int.eq_ofNat_of_zero_le bn.1
  have bh := bounds_u64 wh
  obtain ⟨h, rfl⟩ := Int.eq_ofNat_of_zero_le bh.1
  have bm := bounds_u64 wm
  obtain ⟨m, rfl⟩ := Int.eq_ofNat_of_zero_le bm.1
  simp [argOf]
  exact ledgerAdds_spec t g n h m (by omega) (by omega) (by omega) (by omega) (by omega)
set_option maxRecDepth 100000 in
theorem contract (H : Type) (enc : TypeId × Value → H) (W : World) (base : Nat) (args : Array Value) (ds gs : List (DataW H)) (before : List MemPlace)
    (hval : ∀ (j : Nat) t v, Try.f9.params[j]? = some t → args[j]? = some v → Value.okWide Try.prog W .any base t v)
    (hW : DataW.Whole enc Try.prog Try.f9.params.toList Rows.ledgerAddsSpec.vars false W args.toList ds gs before) :
    Calls Try.prog 9 args W fun e W' => ∃ v, e = .returned v ∧ Rows.ledgerAddsSpec.post enc Try.prog Try.f9 false true false false W args v W' := by
  have hA := hW
  obtain ⟨p, q, hA, hrest⟩ := hA
  have hok : (Try.f9.params.toList.all fun t => okT Try.prog 4 t) = true := by kernel_rfl
  refine law_contract (dr := drD) (n := 4) (af := a9) (tb := 4) Try.func9 m9 laid (by kernel_rfl) hok (by kernel_rfl) Try.underlying4 (by kernel_rfl) hval hW (fun ds hd => ?_) (sp_eq Try.prog ▸ law (avAll Try.prog 4 Try.f9.params.toList ds) (args_shp hok hA))
  obtain ⟨d1, d2, d3, rfl⟩ : ∃ d1 d2 d3, ds = [d1, d2, d3] := by
    match ds, hd with
    | [d1, d2, d3], hd => exact ⟨d1, d2, d3, rfl⟩
  exact ⟨rfl, rfl, rfl⟩

set_option maxRecDepth 100000 in
theorem lifted (os : Os) (started : os.Started) (H : Type) (enc : TypeId × Value → H) :
    ReturnsInHanded {} Try.checked os 9 .any (Rows.ledgerAddsSpec.pre6 enc Try.prog Try.f9 Rows.ledgerAddsRow.domain false) (Rows.ledgerAddsSpec.post enc Try.prog Try.f9 false true false false) := by
  refine returnsInHanded_of_change (C := Try.checked) own started (by kernel_rfl) Try.func9
    (ChangeSpec.witness6 (enc := enc) (C := Try.checked) false ⟨#[], #[.int .u32 0, .agg #[.int .u64 0, .int .u64 0], .agg #[.int .u64 0, .int .u64 0]], []⟩ 8 (by kernel_rfl) (by kernel_rfl) (by kernel_rfl) (by kernel_rfl)) ?_
  intro W base args ds gs before hval hW _ _
  exact contract H enc W base args ds gs before hval hW

theorem proved : Rows.LedgerAddsSaid :=
  OpenClaim.holds_of_wide 9 Try.f9 rfl rfl rfl rfl rfl rfl rfl ⟨rfl, rfl, rfl, rfl, rfl⟩ rfl rfl rfl rfl rfl (by kernel_rfl) Try.func9 (by kernel_rfl)
    (of_decide_eq_true (by kernel_rfl)) (by unfold Func.isWrapper; first | (rw [if_pos (by decide +kernel)]; kernel_rfl) | (rw [if_neg (by decide +kernel)]; exact ⟨rfl, rfl⟩))
    (fun os started H enc _ => lifted os started H enc)
end Go.Proofs.Ytbepaingfmlpeaa.ledgerAdds
