/- BundleGroups, for every input: the law returns true, never panics, and its arguments read as they did. Conditions: none beyond the given statement's own. -/
import Derived.Test.YtbepaingfmlpeaaBun12
import Derived.Test.YtbepaingfmlpeaaAiIn
import Derived.Test.YtbepaingfmlpeaaRows
import Derived.ProofKit
namespace Go.Proofs.Ytbepaingfmlpeaa.bundleGroups
open Go.ChangeShapes Go.WideShapes Go.ChangeAt Go.RowKit Go.Ai
theorem own : ownKnob Try.prog.godebug = none := by kernel_rfl
theorem laid : laidOutB Try.prog = true := by kernel_rfl
theorem law (l : List AV) (h : ShpAll Try.prog 4 Try.f4.params.toList l) : Sp Try.prog gl 4 l (.bool true) := by
  rw [Try.params4] at h
  simp [ShpAll, Shp, shpF, -Bool.exists_bool] at h
  obtain ⟨cs0, rfl, rows, rfl, hlen, hrows⟩ := h
  obtain ⟨ks, rfl, hks⟩ := rows_of (ok := fun k : Ky => k.e < 18446744073709551616 ∧ k.g.length ≤ maxLen ∧ k.r.length ≤ maxLen) (f := Ky.row) (fun r hr => by
    obtain ⟨a, b, rfl, ⟨g, rfl, hg⟩, a, b, rfl, ⟨s, rfl, hs⟩, a, b, rfl, ⟨p, rfl⟩, a, b, rfl, ⟨e, rfl, he⟩, f, rfl⟩ := hr
    have be := bounds_u64 he
    obtain ⟨e, rfl⟩ := Int.eq_ofNat_of_zero_le be.1
    exact ⟨⟨g, s, p, e, f⟩, ⟨by simp only; omega, hg, hs⟩, rfl⟩) rows hrows
  simp [argOf]
  exact bundleGroups_spec ks
set_option maxRecDepth 100000 in
theorem contract (H : Type) (enc : TypeId × Value → H) (W : World) (base : Nat) (args : Array Value) (ds gs : List (DataW H)) (before : List MemPlace)
    (hval : ∀ (j : Nat) t v, Try.f4.params[j]? = some t → args[j]? = some v → Value.okWide Try.prog W .any base t v)
    (hW : DataW.Whole enc Try.prog Try.f4.params.toList Rows.bundleGroupsSpec.vars false W args.toList ds gs before) :
    Calls Try.prog 4 args W fun e W' => ∃ v, e = .returned v ∧ Rows.bundleGroupsSpec.post enc Try.prog Try.f4 false true false false W args v W' := by
  have hA := hW
  obtain ⟨p, q, hA, hrest⟩ := hA
  have hok : (Try.f4.params.toList.all fun t => okT Try.prog 4 t) = true := by kernel_rfl
  refine law_contract (GL := gl) (dr := drD) (n := 4) (af := a4) (tb := 4) Try.func4 m4 laid (by kernel_rfl) hok (by kernel_rfl) Try.underlying4 (by kernel_rfl) hval hW (fun ds hd => ?_) (fun _ _ h => by cases h) (law (avAll Try.prog 4 Try.f4.params.toList ds) (args_shp hok hA))
  obtain ⟨d1, rfl⟩ : ∃ d1, ds = [d1] := by
    match ds, hd with
    | [d1], hd => exact ⟨d1, rfl⟩
  exact ⟨rfl, rfl, rfl⟩

set_option maxRecDepth 100000 in
theorem lifted (os : Os) (started : os.Started) (H : Type) (enc : TypeId × Value → H) :
    ReturnsInHanded {} Try.checked os 4 .any (Rows.bundleGroupsSpec.pre6 enc Try.prog Try.f4 Rows.bundleGroupsRow.domain false) (Rows.bundleGroupsSpec.post enc Try.prog Try.f4 false true false false) := by
  refine returnsInHanded_of_change (C := Try.checked) own started (by kernel_rfl) Try.func4
    (ChangeSpec.witness6 (enc := enc) (C := Try.checked) false ⟨#[], #[.slice none 0 0], []⟩ 8 (by kernel_rfl) (by kernel_rfl) (by kernel_rfl) (by kernel_rfl)) ?_
  intro W base args ds gs before hval hW _ _
  exact contract H enc W base args ds gs before hval hW

theorem proved : Rows.BundleGroupsSaid :=
  OpenClaim.holds_of_wide 4 Try.f4 rfl rfl rfl rfl rfl rfl rfl ⟨rfl, rfl, rfl, rfl, rfl⟩ rfl rfl rfl rfl rfl (by kernel_rfl) Try.func4 (by kernel_rfl)
    (of_decide_eq_true (by kernel_rfl)) (by unfold Func.isWrapper; first | (rw [if_pos (by decide +kernel)]; kernel_rfl) | (rw [if_neg (by decide +kernel)]; exact ⟨rfl, rfl⟩))
    (fun os started H enc _ => lifted os started H enc)
end Go.Proofs.Ytbepaingfmlpeaa.bundleGroups
