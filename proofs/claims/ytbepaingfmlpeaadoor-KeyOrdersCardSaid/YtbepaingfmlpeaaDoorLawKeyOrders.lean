/- KeyOrders, for every input: the law returns true, never panics, and its arguments read as they did; the listed tables are tied to the program's text. Conditions: none beyond the given statement's own. -/
import Derived.Test.YtbepaingfmlpeaaDoorKey4
import Derived.Test.YtbepaingfmlpeaaDoorAiIn
import Derived.Test.YtbepaingfmlpeaaDoorRows
import Derived.Test.YtbepaingfmlpeaaDoorCards
import Derived.Test.YtbepaingfmlpeaaDoorTie
import Derived.ProofKit
import Derived.LaidMore
import Derived.OpenShut
import Derived.Stop.Joined
import Derived.SevenTiedAt
namespace Go.Proofs.YtbepaingfmlpeaaDoor.keyOrders
open Go Go.ChangeShapes Go.WideShapes Go.ChangeAt Go.RowKit Go.Ai
theorem own : ownKnob Tryd.prog.godebug = none := by kernel_rfl
theorem laid : laidOutB Tryd.prog = true := by kernel_rfl
theorem law (l : List AV) (h : ShpAll Tryd.prog 4 Tryd.f4.params.toList l) : Sp Tryd.prog gl 4 l (.bool true) := by
  rw [Tryd.params4] at h
  simp [ShpAll, Shp, shpF, -Bool.exists_bool] at h
  obtain ⟨cs1, r1, rfl, ⟨_, _, rfl, ⟨g1, rfl, hg1⟩, _, _, rfl, ⟨s1, rfl, hs1⟩, _, _, rfl, ⟨p1, rfl⟩, _, _, rfl, ⟨e1, rfl, he1⟩, f1, rfl⟩, cs2, r2, rfl, ⟨_, _, rfl, ⟨g2, rfl, hg2⟩, _, _, rfl, ⟨s2, rfl, hs2⟩, _, _, rfl, ⟨p2, rfl⟩, _, _, rfl, ⟨e2, rfl, he2⟩, f2, rfl⟩, cs3, rfl, _, _, rfl, ⟨g3, rfl, hg3⟩, _, _, rfl, ⟨s3, rfl, hs3⟩, _, _, rfl, ⟨p3, rfl⟩, _, _, rfl, ⟨e3, rfl, he3⟩, f3, rfl⟩ := h
  have be1 := bounds_u64 he1
  obtain ⟨e1, rfl⟩ := Int.eq_ofNat_of_zero_le be1.1
  have be2 := bounds_u64 he2
  obtain ⟨e2, rfl⟩ := Int.eq_ofNat_of_zero_le be2.1
  have be3 := bounds_u64 he3
  obtain ⟨e3, rfl⟩ := Int.eq_ofNat_of_zero_le be3.1
  simp [argOf]
  exact keyOrders_spec ⟨g1, s1, p1, e1, f1⟩ ⟨g2, s2, p2, e2, f2⟩ ⟨g3, s3, p3, e3, f3⟩
set_option maxRecDepth 100000 in
theorem contract (H : Type) (enc : TypeId × Value → H) (W : World) (base : Nat) (args : Array Value) (ds gs : List (DataW H)) (before : List MemPlace)
    (hval : ∀ (j : Nat) t v, Tryd.f4.params[j]? = some t → args[j]? = some v → Value.okWide Tryd.prog W .any base t v)
    (hW : DataW.Whole enc Tryd.prog Tryd.f4.params.toList Rows.keyOrdersSpec.vars false W args.toList ds gs before) :
    Calls Tryd.prog 4 args W fun e W' => ∃ v, e = .returned v ∧ Rows.keyOrdersSpec.post enc Tryd.prog Tryd.f4 false true false false W args v W' := by
  have hA := hW
  obtain ⟨p, q, hA, hrest⟩ := hA
  have hok : (Tryd.f4.params.toList.all fun t => okT Tryd.prog 4 t) = true := by kernel_rfl
  refine law_contract (GL := gl) (dr := drD) (n := 4) (af := a4) (tb := 4) Tryd.func4 m4 laid (by kernel_rfl) hok (by kernel_rfl) Tryd.underlying4 (by kernel_rfl) hval hW (fun ds hd => ?_) (fun _ _ h => by cases h) (law (avAll Tryd.prog 4 Tryd.f4.params.toList ds) (args_shp hok hA))
  obtain ⟨d1, d2, d3, rfl⟩ : ∃ d1 d2 d3, ds = [d1, d2, d3] := by
    match ds, hd with
    | [d1, d2, d3], hd => exact ⟨d1, d2, d3, rfl⟩
  exact ⟨rfl, rfl, rfl⟩
abbrev tabs := Rows.keyOrdersRow.laid
/-- The door's own heap meets the condition. -/
theorem door_met (os : Os) (args : Array Value) : laidMetH Tryd.prog tabs ((World.doorLaid Tryd.prog 400 os).forCall (fun _ _ => 0) ⟨#[], args, []⟩).memory :=
  laidMetH_of_parts3 (fuel := 8) (laidMet_of_run' 8 (by kernel_rfl) (by kernel_rfl)) (by kernel_rfl) (by kernel_rfl)
set_option maxRecDepth 100000 in
theorem lifted (os : Os) (started : os.Started) (H : Type) (enc : TypeId × Value → H) :
    ReturnsInHanded {} Tryd.checked os 4 .any (fun w args => (Rows.keyOrdersSpec.pre enc Tryd.prog Tryd.f4 [] false w args ∧ laidMetH Tryd.prog tabs w) ∧ sizedMet enc Tryd.prog Tryd.f4 (OpenSpec.ofChange Rows.keyOrdersSpec) false w args)
      (Rows.keyOrdersSpec.post enc Tryd.prog Tryd.f4 false true false false) := by
  refine returnsInHanded_of_change_and (C := Tryd.checked) (X := fun w _ => laidMetH Tryd.prog tabs w) (fun _ _ _ hh h => h.of_heap hh) own started (by kernel_rfl) Tryd.func4
    (ChangeSpec.witness_shaped (enc := enc) (C := Tryd.checked) (os := os) (X := fun w _ => laidMetH Tryd.prog tabs w) false (World.doorLaid Tryd.prog 400 os) #[.agg #[.string ByteArray.empty, .string ByteArray.empty, .bool false, .int .u64 0, .bool false], .agg #[.string ByteArray.empty, .string ByteArray.empty, .bool false, .int .u64 0, .bool false], .agg #[.string ByteArray.empty, .string ByteArray.empty, .bool false, .int .u64 0, .bool false]] 8 rfl (World.shaped_of_RefB (by kernel_rfl) (by kernel_rfl)) (by kernel_rfl) (by kernel_rfl) (by kernel_rfl) (door_met os _)) ?_
  intro W base args ds gs before hval hW _ _ _ _
  exact contract H enc W base args ds gs before hval hW
theorem row_proved : Rows.KeyOrdersSaid :=
  OpenClaim.holds_of_wide 4 Tryd.f4 rfl rfl rfl rfl rfl rfl rfl ⟨rfl, rfl, rfl, rfl, rfl⟩ rfl rfl rfl rfl rfl (by kernel_rfl) Tryd.func4 (by kernel_rfl)
    (of_decide_eq_true (by kernel_rfl)) (by unfold Func.isWrapper; first | (rw [if_pos (by decide +kernel)]; kernel_rfl) | (rw [if_neg (by decide +kernel)]; exact ⟨rfl, rfl⟩))
    (fun os started H enc _ => lifted os started H enc)
theorem proved : Rows.KeyOrdersCardSaid :=
  Claim7.holds_tied_plain_at .later [] [.data, .data, .data] true (true, "d237c1baaf13a07236fcd1373b632a21520dad81403a476471ea16e73ee54cbe") false
    row_proved (fun _ h => by cases h) (by kernel_rfl) (fun _ h => by cases h) keyOrders_row_tie rfl ⟨rfl, rfl⟩ (by kernel_rfl) rfl
    (fun f fn hf hfn => by
      obtain rfl : f = 4 := Option.some.inj ((show Tryd.prog.funcNamed "firebell/firebelllaw25.KeyOrders" = some 4 by kernel_rfl).symm.trans hf) |>.symm
      obtain rfl : fn = Tryd.f4 := (Option.some.inj (Tryd.func4.symm.trans hfn)).symm
      exact ⟨by kernel_rfl, fun j t ht => by
        have hm : t ∈ Tryd.f4.params.toList := by simpa using Array.mem_of_getElem? ht
        have hall : (Tryd.f4.params.toList.all fun u => !Tryd.prog.wantsStandIn u) = true := by kernel_rfl
        exact (show Tryd.prog.wantsStandIn t = false by simpa using List.all_eq_true.1 hall t hm)⟩)
    (by kernel_rfl)
end Go.Proofs.YtbepaingfmlpeaaDoor.keyOrders
