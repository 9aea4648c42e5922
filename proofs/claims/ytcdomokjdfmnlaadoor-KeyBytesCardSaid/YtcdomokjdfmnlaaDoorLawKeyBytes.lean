/- KeyBytes, for every input: the law returns true, never panics, and its arguments read as they did; the listed tables are tied to the program's text. Conditions: none beyond the given statement's own. -/
import Derived.Test.YtcdomokjdfmnlaaDoorP8
import Derived.Test.YtcdomokjdfmnlaaDoorAiIn
import Derived.Test.YtcdomokjdfmnlaaDoorRows
import Derived.Test.YtcdomokjdfmnlaaDoorCards
import Derived.Test.YtcdomokjdfmnlaaDoorTie
import Derived.ProofKit
import Derived.LaidMore
import Derived.OpenShut
import Derived.Stop.Joined
import Derived.SevenTiedAt
import Derived.MakeChecks
import Derived.Stop.LaidErr
namespace Go.Proofs.YtcdomokjdfmnlaaDoor.keyBytes
open Go Go.ChangeShapes Go.WideShapes Go.ChangeAt Go.RowKit Go.Ai
theorem own : ownKnob Tryd.prog.godebug = none := by kernel_rfl
theorem laid : laidOutB Tryd.prog = true := by kernel_rfl
theorem law (l : List AV) (h : ShpAll Tryd.prog 4 Tryd.f3.params.toList l) : Sp Tryd.prog gl 3 l (.bool true) := by
  rw [Tryd.params3] at h
  simp [ShpAll, Shp, shpF, -Bool.exists_bool] at h
  obtain ⟨cs1, r1, rfl, ⟨_, _, rfl, ⟨g1, rfl, hg1⟩, _, _, rfl, ⟨s1, rfl, hs1⟩, _, _, rfl, ⟨p1, rfl⟩, _, _, rfl, ⟨e1, rfl, he1⟩, f1, rfl⟩, cs2, rfl, rows, rfl, hlen, hrows⟩ := h
  have be1 := bounds_u64 he1
  obtain ⟨e1, rfl⟩ := Int.eq_ofNat_of_zero_le be1.1
  obtain ⟨bs, rfl, _⟩ := rows_of (ok := fun _ : UInt8 => True) (f := fun b : UInt8 => [AV.int .u8 b.toNat]) (fun r hr => by
    obtain ⟨n, rfl, hn⟩ := hr
    have bn := bounds_u8 hn
    obtain ⟨n, rfl⟩ := Int.eq_ofNat_of_zero_le bn.1
    exact ⟨UInt8.ofNat n, trivial, by simp; omega⟩) rows hrows
  simp [argOf]
  exact keyBytes_spec ⟨g1, s1, p1, e1, f1⟩ (by simp only; omega) bs
/-- The listed table, as cells. -/
theorem glo (W : World) (h : laidMetH Tryd.prog Rows.keyBytesRow.laid W) : ∀ i us, List.lookup i gl = some us → ∀ (o : Nat) (u : Value), us[o]? = some u → W.cell? ⟨i, o, none⟩ = some u ∧ u.oneCell' = true := by
  have h1 : laidMet Tryd.prog Rows.keyBytesRow.laid W := (MakeChecks.laidMetH_plain Tryd.prog Rows.keyBytesRow.laid W (by kernel_rfl)) ▸ h
  have hg : Tryd.prog.globalNamed "internal/strconv.uint64pow10" = some 0 := by kernel_rfl
  have h2 : laidMet Tryd.prog [("internal/strconv.uint64pow10", Lib.tabData .u64 Lib.pow10Tab)] W := laidMet.tail (laidMet.tail h1)
  have T := Lib.tabIs_of_head (t := 233) (e := 22) (n := 20) (zs := Lib.pow10Tab) (k := .u64) (rest := []) hg (by kernel_rfl) (by kernel_rfl) (by kernel_rfl) (by kernel_rfl) (by kernel_rfl) h2
  intro i us hi o u hu
  by_cases hi1 : i = 0
  · subst hi1
    rw [tab_gl] at hi
    obtain rfl := Option.some.inj hi
    have ho : o < 20 := by have := (List.getElem?_eq_some_iff.1 hu).1; simpa using this
    have hu2 : u = .int .u64 ((10 ^ o : Nat) : Int) := by simpa [ho] using hu.symm
    subst hu2
    refine ⟨?_, rfl⟩
    rw [T.cell hg o (by rw [Lib.pow10Tab_length]; exact ho), Lib.pow10Tab_at o ho]
  · have : List.lookup i gl = none := by
      have e : (i == 0) = false := by simp [hi1]
      show List.lookup i [(0, _)] = none
      simp [List.lookup, e]
    rw [this] at hi; cases hi
set_option maxRecDepth 100000 in
theorem contract (H : Type) (enc : TypeId × Value → H) (W : World) (base : Nat) (args : Array Value) (ds gs : List (DataW H)) (before : List MemPlace) (hX : laidMetH Tryd.prog Rows.keyBytesRow.laid W)
    (hval : ∀ (j : Nat) t v, Tryd.f3.params[j]? = some t → args[j]? = some v → Value.okWide Tryd.prog W .any base t v)
    (hW : DataW.Whole enc Tryd.prog Tryd.f3.params.toList Rows.keyBytesSpec.vars false W args.toList ds gs before) :
    Calls Tryd.prog 3 args W fun e W' => ∃ v, e = .returned v ∧ Rows.keyBytesSpec.post enc Tryd.prog Tryd.f3 false true false false W args v W' := by
  have hA := hW
  obtain ⟨p, q, hA, hrest⟩ := hA
  have hok : (Tryd.f3.params.toList.all fun t => okT Tryd.prog 4 t) = true := by kernel_rfl
  refine law_contract (GL := gl) (dr := drD) (n := 4) (af := a3) (tb := 4) Tryd.func3 m3 laid (by kernel_rfl) hok (by kernel_rfl) Tryd.underlying4 (by kernel_rfl) hval hW (fun ds hd => ?_) (glo W hX) (law (avAll Tryd.prog 4 Tryd.f3.params.toList ds) (args_shp hok hA))
  obtain ⟨d1, d2, rfl⟩ : ∃ d1 d2, ds = [d1, d2] := by
    match ds, hd with
    | [d1, d2], hd => exact ⟨d1, d2, rfl⟩
  exact ⟨rfl, rfl, rfl⟩
abbrev tabs := Rows.keyBytesRow.laid
/-- The door's own heap meets the condition. -/
theorem door_met (os : Os) (args : Array Value) : laidMetH Tryd.prog tabs ((World.doorLaid Tryd.prog 400 os).forCall (fun _ _ => 0) ⟨#[], args, []⟩).memory :=
  laidMetH_of_parts3 (fuel := 8) (laidMet_of_run' 8 (by kernel_rfl) (by kernel_rfl)) (by kernel_rfl) (by kernel_rfl)
set_option maxRecDepth 100000 in
theorem lifted (os : Os) (started : os.Started) (H : Type) (enc : TypeId × Value → H) :
    ReturnsInHanded {} Tryd.checked os 3 .any (fun w args => (Rows.keyBytesSpec.pre enc Tryd.prog Tryd.f3 [] false w args ∧ laidMetH Tryd.prog tabs w) ∧ sizedMet enc Tryd.prog Tryd.f3 (OpenSpec.ofChange Rows.keyBytesSpec) false w args)
      (Rows.keyBytesSpec.post enc Tryd.prog Tryd.f3 false true false false) := by
  refine returnsInHanded_of_change_and (C := Tryd.checked) (X := fun w _ => laidMetH Tryd.prog tabs w) (fun _ _ _ hh h => h.of_heap hh) own started (by kernel_rfl) Tryd.func3
    (ChangeSpec.witness_shaped (enc := enc) (C := Tryd.checked) (os := os) (X := fun w _ => laidMetH Tryd.prog tabs w) false (World.doorLaid Tryd.prog 400 os) #[.agg #[.string ByteArray.empty, .string ByteArray.empty, .bool false, .int .u64 0, .bool false], .slice none 0 0] 8 rfl (World.shaped_of_RefB (by kernel_rfl) (by kernel_rfl)) (by kernel_rfl) (by kernel_rfl) (by kernel_rfl) (door_met os _)) ?_
  intro W base args ds gs before hval hW _ _ hX _
  exact contract H enc W base args ds gs before hX hval hW
theorem row_proved : Rows.KeyBytesSaid :=
  OpenClaim.holds_of_wide 3 Tryd.f3 rfl rfl rfl rfl rfl rfl rfl ⟨rfl, rfl, rfl, rfl, rfl⟩ rfl rfl rfl rfl rfl (by kernel_rfl) Tryd.func3 (by kernel_rfl)
    (of_decide_eq_true (by kernel_rfl)) (by unfold Func.isWrapper; first | (rw [if_pos (by decide +kernel)]; kernel_rfl) | (rw [if_neg (by decide +kernel)]; exact ⟨rfl, rfl⟩))
    (fun os started H enc _ => lifted os started H enc)
theorem proved : Rows.KeyBytesCardSaid :=
  Claim7.holds_tied_plain_at .later [] [.data, .data, .data] true (true, "03e95bf6af31c01bb0800e649032b83c291b1fc0366db7a504a7d2d4d4dcd173") false
    row_proved (fun _ h => by cases h) (by kernel_rfl) (fun _ h => by cases h) keyBytes_row_tie rfl ⟨rfl, rfl⟩ (by kernel_rfl) rfl
    (fun f fn hf hfn => by
      obtain rfl : f = 3 := Option.some.inj ((show Tryd.prog.funcNamed "firebell/firebelllaw25.KeyBytes" = some 3 by kernel_rfl).symm.trans hf) |>.symm
      obtain rfl : fn = Tryd.f3 := (Option.some.inj (Tryd.func3.symm.trans hfn)).symm
      exact ⟨by kernel_rfl, fun j t ht => by
        have hm : t ∈ Tryd.f3.params.toList := by simpa using Array.mem_of_getElem? ht
        have hall : (Tryd.f3.params.toList.all fun u => !Tryd.prog.wantsStandIn u) = true := by kernel_rfl
        exact (show Tryd.prog.wantsStandIn t = false by simpa using List.all_eq_true.1 hall t hm)⟩)
    (by kernel_rfl)
end Go.Proofs.YtcdomokjdfmnlaaDoor.keyBytes
