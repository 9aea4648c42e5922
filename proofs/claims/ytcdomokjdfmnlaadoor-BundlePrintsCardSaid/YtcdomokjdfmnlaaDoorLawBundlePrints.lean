/- BundlePrints, for every input: the law returns true, never panics, and its arguments read as they did; the listed tables are tied to the program's text. Conditions: none beyond the given statement's own. -/
import Derived.Test.YtcdomokjdfmnlaaDoorP10
import Derived.Test.YtcdomokjdfmnlaaDoorP8
import Derived.Test.YtcdomokjdfmnlaaDoorAiIn
import Derived.Test.YtcdomokjdfmnlaaDoorRows
import Derived.Test.YtcdomokjdfmnlaaDoorCards
import Derived.Test.YtcdomokjdfmnlaaDoorTie
import Derived.ProofKit
import Derived.LaidMore
import Derived.Lay
import Derived.OpenShut
import Derived.Stop.Joined
import Derived.SevenTiedAt
import Derived.MakeChecks
import Derived.Stop.LaidErr
namespace Go.Proofs.YtcdomokjdfmnlaaDoor.bundlePrints
open Go Go.ChangeShapes Go.WideShapes Go.ChangeAt Go.RowKit Go.Ai
theorem own : ownKnob Tryd.prog.godebug = none := by kernel_rfl
theorem laid : laidOutB Tryd.prog = true := by kernel_rfl
set_option maxRecDepth 100000 in
theorem law (l : List AV) (h : ShpAll Tryd.prog 6 Tryd.f7.params.toList l) : Sp Tryd.prog gl 7 l (.bool true) := by
  rw [Tryd.params7] at h
  simp [ShpAll, Shp, shpF, -Bool.exists_bool] at h
  obtain ⟨cs1, r1, rfl, ⟨_, _, rfl, ⟨g1, rfl, _⟩, _, _, rfl, ⟨p1, rfl⟩, ks, rfl, _, hks⟩, cs2, rfl, s1, rfl, _⟩ := h
  obtain ⟨ks, rfl, _⟩ := rows_of (ok := fun _ : Ky => True) (f := Ky.row) (fun r hr => by
    obtain ⟨_, _, rfl, ⟨g, rfl, _⟩, _, _, rfl, ⟨s, rfl, _⟩, _, _, rfl, ⟨p, rfl⟩, _, _, rfl, ⟨e, rfl, he⟩, f, rfl⟩ := hr
    have be := bounds_u64 he
    obtain ⟨e, rfl⟩ := Int.eq_ofNat_of_zero_le be.1
    exact ⟨⟨g, s, p, e, f⟩, trivial, rfl⟩) ks hks
  simp [argOf]
  exact bundlePrints_spec ⟨g1, p1, ks⟩ s1
theorem gl3 : gl = [(0, (List.range 20).map fun q => Value.int .u64 ((10 ^ q : Nat) : Int)), (2, firstCells), (3, accCells)] := by kernel_rfl
/-- The listed tables, as cells. -/
theorem glo (W : World) (h : laidMetH Tryd.prog Rows.bundlePrintsRow.laid W) : ∀ i us, List.lookup i gl = some us → ∀ (o : Nat) (u : Value), us[o]? = some u → W.cell? ⟨i, o, none⟩ = some u ∧ u.oneCell' = true := by
  have h1 : laidMet Tryd.prog Rows.bundlePrintsRow.laid W := (MakeChecks.laidMetH_plain Tryd.prog Rows.bundlePrintsRow.laid W (by kernel_rfl)) ▸ h
  have e : Rows.bundlePrintsRow.laid.drop 2 = [("internal/strconv.uint64pow10", Lib.tabData .u64 Lib.pow10Tab), ("unicode/utf8.acceptRanges", Lib.acceptData), ("unicode/utf8.first", Lib.firstData)] := by kernel_rfl
  have h2 : laidMet Tryd.prog (Rows.bundlePrintsRow.laid.drop 2) W := laidMet.tail (laidMet.tail h1)
  rw [e] at h2
  clear h1 h
  have hg : Tryd.prog.globalNamed "internal/strconv.uint64pow10" = some 0 := by kernel_rfl
  have T := Lib.tabIs_of_head (t := 233) (e := 22) (n := 20) (zs := Lib.pow10Tab) (k := .u64) (rest := [("unicode/utf8.acceptRanges", Lib.acceptData), ("unicode/utf8.first", Lib.firstData)]) hg (by kernel_rfl) (by kernel_rfl) (by kernel_rfl) (by kernel_rfl) (by kernel_rfl) h2
  have A := acc_cell (Lib.laidMet.reads (n := "unicode/utf8.acceptRanges") (d := Lib.acceptData) h2 (by simp))
  have F := first_cell (Lib.laidMet.reads (n := "unicode/utf8.first") (d := Lib.firstData) h2 (by simp))
  intro i us hi o u hu
  rw [gl3] at hi
  simp only [List.lookup] at hi
  split at hi
  · rename_i e
    have e := eq_of_beq e
    subst e
    obtain rfl := Option.some.inj hi
    have ho : o < 20 := by have := (List.getElem?_eq_some_iff.1 hu).1; simpa using this
    have hu2 : u = .int .u64 ((10 ^ o : Nat) : Int) := by simpa [ho] using hu.symm
    subst hu2
    refine ⟨?_, rfl⟩
    rw [T.cell hg o (by rw [Lib.pow10Tab_length]; exact ho), Lib.pow10Tab_at o ho]
  · split at hi
    · rename_i e
      have e := eq_of_beq e
      subst e
      obtain rfl := Option.some.inj hi
      exact F o u hu
    · split at hi
      · rename_i e
        have e := eq_of_beq e
        subst e
        obtain rfl := Option.some.inj hi
        exact A o u hu
      · cases hi
set_option maxRecDepth 100000 in
theorem contract (H : Type) (enc : TypeId × Value → H) (W : World) (base : Nat) (args : Array Value) (ds gs : List (DataW H)) (before : List MemPlace) (hX : laidMetH Tryd.prog Rows.bundlePrintsRow.laid W)
    (hval : ∀ (j : Nat) t v, Tryd.f7.params[j]? = some t → args[j]? = some v → Value.okWide Tryd.prog W .any base t v)
    (hW : DataW.Whole enc Tryd.prog Tryd.f7.params.toList Rows.bundlePrintsSpec.vars false W args.toList ds gs before) :
    Calls Tryd.prog 7 args W fun e W' => ∃ v, e = .returned v ∧ Rows.bundlePrintsSpec.post enc Tryd.prog Tryd.f7 false true false false W args v W' := by
  have hA := hW
  obtain ⟨p, q, hA, hrest⟩ := hA
  have hok : (Tryd.f7.params.toList.all fun t => okT Tryd.prog 6 t) = true := by kernel_rfl
  refine law_contract (GL := gl) (dr := drD) (n := 6) (af := a7) (tb := 4) Tryd.func7 m7 laid (by kernel_rfl) hok (by kernel_rfl) Tryd.underlying4 (by kernel_rfl) hval hW (fun ds hd => ?_) (glo W hX) (law (avAll Tryd.prog 6 Tryd.f7.params.toList ds) (args_shp hok hA))
  obtain ⟨d1, d2, rfl⟩ : ∃ d1 d2, ds = [d1, d2] := by
    match ds, hd with
    | [d1, d2], hd => exact ⟨d1, d2, rfl⟩
  exact ⟨rfl, rfl, rfl⟩
abbrev tabs := Rows.bundlePrintsRow.laid
set_option maxRecDepth 100000 in
theorem lifted (os : Os) (started : os.Started) (H : Type) (enc : TypeId × Value → H) :
    ReturnsInHanded {} Tryd.checked os 7 .any (fun w args => (Rows.bundlePrintsSpec.pre enc Tryd.prog Tryd.f7 [] false w args ∧ laidMetH Tryd.prog tabs w) ∧ sizedMet enc Tryd.prog Tryd.f7 (OpenSpec.ofChange Rows.bundlePrintsSpec) false w args)
      (Rows.bundlePrintsSpec.post enc Tryd.prog Tryd.f7 false true false false) := by
  refine returnsInHanded_of_change_and (C := Tryd.checked) (X := fun w _ => laidMetH Tryd.prog tabs w) (fun _ _ _ hh h => h.of_heap hh) own started (by kernel_rfl) Tryd.func7
    (ChangeSpec.witness_shaped (enc := enc) (C := Tryd.checked) (os := os) (X := fun w _ => laidMetH Tryd.prog tabs w) false (World.laidAll Tryd.prog os tabs) #[.agg #[.string ByteArray.empty, .bool false, .slice none 0 0], .string ByteArray.empty] 8 (World.laidAll_os _ _ _) (World.shaped_of_ZipB (by kernel_rfl) (by kernel_rfl)) (by kernel_rfl) (by kernel_rfl) (by kernel_rfl) (by rw [MakeChecks.laidMetH_plain _ _ _ (by kernel_rfl)]; exact laidMet_laidAll _ (by kernel_rfl) (by kernel_rfl))) ?_
  intro W base args ds gs before hval hW _ _ hX _
  exact contract H enc W base args ds gs before hX hval hW
theorem row_proved : Rows.BundlePrintsSaid :=
  OpenClaim.holds_of_wide 7 Tryd.f7 rfl rfl rfl rfl rfl rfl rfl ⟨rfl, rfl, rfl, rfl, rfl⟩ rfl rfl rfl rfl rfl (by kernel_rfl) Tryd.func7 (by kernel_rfl)
    (of_decide_eq_true (by kernel_rfl)) (by unfold Func.isWrapper; first | (rw [if_pos (by decide +kernel)]; kernel_rfl) | (rw [if_neg (by decide +kernel)]; exact ⟨rfl, rfl⟩))
    (fun os started H enc _ => lifted os started H enc)
theorem proved : Rows.BundlePrintsCardSaid :=
  Claim7.holds_tied_plain_at .later [] [.data, .data, .data, .data, .pinned] true (true, "03e95bf6af31c01bb0800e649032b83c291b1fc0366db7a504a7d2d4d4dcd173") false
    row_proved (fun _ h => by cases h) (by kernel_rfl) (fun _ h => by cases h) bundlePrints_row_tie rfl ⟨rfl, rfl⟩ (by kernel_rfl) rfl
    (fun f fn hf hfn => by
      obtain rfl : f = 7 := Option.some.inj ((show Tryd.prog.funcNamed "firebell/firebelllaw30.BundlePrints" = some 7 by kernel_rfl).symm.trans hf) |>.symm
      obtain rfl : fn = Tryd.f7 := (Option.some.inj (Tryd.func7.symm.trans hfn)).symm
      exact ⟨by kernel_rfl, fun j t ht => by
        have hm : t ∈ Tryd.f7.params.toList := by simpa using Array.mem_of_getElem? ht
        have hall : (Tryd.f7.params.toList.all fun u => !Tryd.prog.wantsStandIn u) = true := by kernel_rfl
        exact (show Tryd.prog.wantsStandIn t = false by simpa using List.all_eq_true.1 hall t hm)⟩)
    (by kernel_rfl)
end Go.Proofs.YtcdomokjdfmnlaaDoor.bundlePrints
