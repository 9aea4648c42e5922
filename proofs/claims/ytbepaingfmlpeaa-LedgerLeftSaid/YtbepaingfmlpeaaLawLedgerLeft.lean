/- LedgerLeft, for every input: the law returns true, never panics, and its arguments read as they did. Conditions: none beyond the given statement's own. -/
import Derived.Test.YtbepaingfmlpeaaLedger2
import Derived.Test.YtbepaingfmlpeaaAiIn
import Derived.Test.YtbepaingfmlpeaaRows
import Derived.ProofKit
namespace Go.Proofs.Ytbepaingfmlpeaa.ledgerLeft
open Go.ChangeShapes Go.WideShapes Go.ChangeAt Go.RowKit Go.Ai
theorem own : ownKnob Try.prog.godebug = none := by kernel_rfl
theorem laid : laidOutB Try.prog = true := by kernel_rfl
theorem law (l : List AV) (h : ShpAll Try.prog 4 Try.f8.params.toList l) : Sp Try.prog gl 8 l (.bool true) := by
  rw [Try.params8] at h
  simp [ShpAll, Shp, shpF] at h
  obtain ⟨cs0, r0, rfl, ⟨t, rfl, wt⟩, cs1, rfl, a10, b10, rfl, ⟨g, rfl, wg⟩, n, rfl, wn⟩ := h
  have bt := bounds_u32 wt
  obtain ⟨t, rfl⟩ := Int.eq_ofNat_of_zero_le bt.1
  have bg := bounds_u64 wg
  obtain ⟨g, rfl⟩ := Int.eq_ofNat_of_zero_le bg.1
  have bn := bounds_u64 wn
  obtain ⟨n, rfl⟩ := Int.eq_ofNat_of_zero_le bn.1
  simp [argOf]
  exact ledgerLeft_spec t g n (by omega) (by omega) (by omega)
set_option maxRecDepth 100000 in
theorem contract (H : Type) (enc : TypeId × Value → H) (W : World) (base : Nat) (args : Array Value) (ds gs : List (DataW H)) (before : List MemPlace)
    (hval : ∀ (j : Nat) t v, Try.f8.params[j]? = some t → args[j]? = some v → Value.okWide Try.prog W .any base t v)
    (hW : DataW.Whole enc Try.prog Try.f8.params.toList Rows.ledgerLeftSpec.vars false W args.toList ds gs before) :
    Calls Try.prog 8 args W fun e W' => ∃ v, e = .returned v ∧ Rows.ledgerLeftSpec.post enc Try.prog Try.f8 false true false false W args v W' := by
  have hA := hW
  obtain ⟨p, q, hA, hrest⟩ := hA
  have hok : (Try.f8.params.toList.all fun t => okT Try.prog 4 t) = true := by kernel_rfl
  refine law_contract (GL := gl) (dr := drD) (n := 4) (af := a8) (tb := 4) Try.func8 m8 laid (by kernel_rfl) hok (by kernel_rfl) Try.underlying4 (by kernel_rfl) hval hW (fun ds hd => ?_) (fun _ _ h => by cases h) (law (avAll Try.prog 4 Try.f8.params.toList ds) (args_shp hok hA))
  obtain ⟨d1, d2, rfl⟩ : ∃ d1 d2, ds = [d1, d2] := by
    match ds, hd with
    | [d1, d2], hd => exact ⟨d1, d2, rfl⟩
  exact ⟨rfl, rfl, rfl⟩

set_option maxRecDepth 100000 in
theorem lifted (os : Os) (started : os.Started) (H : Type) (enc : TypeId × Value → H) :
    ReturnsInHanded {} Try.checked os 8 .any (Rows.ledgerLeftSpec.pre6 enc Try.prog Try.f8 Rows.ledgerLeftRow.domain false) (Rows.ledgerLeftSpec.post enc Try.prog Try.f8 false true false false) := by
  refine returnsInHanded_of_change (C := Try.checked) own started (by kernel_rfl) Try.func8
    (ChangeSpec.witness6 (enc := enc) (C := Try.checked) false ⟨#[], #[.int .u32 0, .agg #[.int .u64 0, .int .u64 0]], []⟩ 8 (by kernel_rfl) (by kernel_rfl) (by kernel_rfl) (by kernel_rfl)) ?_
  intro W base args ds gs before hval hW _ _
  exact contract H enc W base args ds gs before hval hW

theorem proved : Rows.LedgerLeftSaid :=
  OpenClaim.holds_of_wide 8 Try.f8 rfl rfl rfl rfl rfl rfl rfl ⟨rfl, rfl, rfl, rfl, rfl⟩ rfl rfl rfl rfl rfl (by kernel_rfl) Try.func8 (by kernel_rfl)
    (of_decide_eq_true (by kernel_rfl)) (by unfold Func.isWrapper; first | (rw [if_pos (by decide +kernel)]; kernel_rfl) | (rw [if_neg (by decide +kernel)]; exact ⟨rfl, rfl⟩))
    (fun os started H enc _ => lifted os started H enc)
end Go.Proofs.Ytbepaingfmlpeaa.ledgerLeft
