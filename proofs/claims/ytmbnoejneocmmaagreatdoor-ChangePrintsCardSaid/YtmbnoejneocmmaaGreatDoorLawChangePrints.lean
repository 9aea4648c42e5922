/- ChangePrints, for every input: the law returns true, never panics, and its arguments read as they did; the listed tables are tied to the program's text. Conditions: none beyond the given statement's own. -/
import Derived.Test.YtmbnoejneocmmaaGreatDoorP14
import Derived.Test.YtmbnoejneocmmaaGreatDoorAiIn
import Derived.Test.YtmbnoejneocmmaaGreatDoorRows
import Derived.Test.YtmbnoejneocmmaaGreatDoorCards
import Derived.Test.YtmbnoejneocmmaaGreatDoorTie
import Derived.ProofKit
import Derived.LaidMore
import Derived.Lay
import Derived.OpenShut
import Derived.Stop.Joined
import Derived.SevenTiedAt
import Derived.MakeChecks
import Derived.Stop.LaidErr
namespace Go.Proofs.YtmbnoejneocmmaaGreatDoor.changePrints
open Go Go.ChangeShapes Go.WideShapes Go.ChangeAt Go.RowKit Go.Ai
theorem own : ownKnob Tryz.prog.godebug = none := by kernel_rfl
theorem laid : laidOutB Tryz.prog = true := by kernel_rfl
set_option maxRecDepth 100000 in
theorem law (l : List AV) (h : ShpAll Tryz.prog 4 Tryz.f8.params.toList l) : Sp Tryz.prog gl 8 l (.bool true) := by
  rw [Tryz.params8] at h
  simp only [ShpAll] at h
  obtain ⟨cs1, _, rfl, h1, cs2, _, rfl, h2, rfl⟩ := h
  simp [Shp, shpF, -Bool.exists_bool] at h1 h2
  obtain ⟨rows, rfl, hlen, hrows⟩ := h1
  obtain ⟨s, rfl, _⟩ := h2
  obtain ⟨ts, rfl, _⟩ := rows_of (ok := fun _ : Tu => True) (f := trow) (fun r hr => by
    obtain ⟨_, _, rfl, ⟨g, rfl, _⟩, _, _, rfl, ⟨q, rfl, _⟩, k, rfl, _⟩ := hr
    exact ⟨(g, q, k), trivial, rfl⟩) rows hrows
  simp [argOf]
  exact changePrints_spec ts s
def spaceCells : List Value := (List.range 256).map fun c => Value.int .u8 (if Lib.isSp (UInt8.ofNat c) then 1 else 0)
theorem gl3 : gl = [(0, spaceCells), (1, firstCells), (2, accCells)] := by kernel_rfl
/-- The listed tables, as cells. -/
theorem glo (W : World) (h : laidMetH Tryz.prog Rows.changePrintsRow.laid W) : ∀ i us, List.lookup i gl = some us → ∀ (o : Nat) (u : Value), us[o]? = some u → W.cell? ⟨i, o, none⟩ = some u ∧ u.oneCell' = true := by
  have h1 : laidMet Tryz.prog Rows.changePrintsRow.laid W := (MakeChecks.laidMetH_plain Tryz.prog Rows.changePrintsRow.laid W (by kernel_rfl)) ▸ h
  have e : Rows.changePrintsRow.laid = ("unicode/utf8.acceptRanges", Lib.acceptData) :: ("unicode.White_Space", Rows.laid_unicode_White_Space) :: [("strings.asciiSpace", Lib.tabData .u8 Lib.asciiSpaceTab), ("unicode/utf8.first", Lib.firstData)] := by kernel_rfl
  rw [e] at h1
  clear h
  have h2 : laidMet Tryz.prog [("strings.asciiSpace", Lib.tabData .u8 Lib.asciiSpaceTab), ("unicode/utf8.first", Lib.firstData)] W := laidMet.tail (laidMet.tail h1)
  have hg : Tryz.prog.globalNamed "strings.asciiSpace" = some 0 := by kernel_rfl
  have T := Lib.tabIs_of_head (t := 299) (e := 5) (n := 256) (zs := Lib.asciiSpaceTab) (k := .u8) (rest := [("unicode/utf8.first", Lib.firstData)]) hg (by kernel_rfl) (by kernel_rfl) (by kernel_rfl) (by kernel_rfl) (by kernel_rfl) h2
  have A := acc_cell (Lib.laidMet.reads (n := "unicode/utf8.acceptRanges") (d := Lib.acceptData) h1 (List.mem_cons_self ..))
  have F := first_cell (Lib.laidMet.reads (n := "unicode/utf8.first") (d := Lib.firstData) h2 (by simp))
  intro i us hi o u hu
  rw [gl3] at hi
  simp only [List.lookup] at hi
  split at hi
  · rename_i e
    have e := eq_of_beq e
    subst e
    obtain rfl := Option.some.inj hi
    have ho : o < 256 := by have := (List.getElem?_eq_some_iff.1 hu).1; simpa [spaceCells] using this
    have hu2 : u = .int .u8 (if Lib.isSp (UInt8.ofNat o) then 1 else 0) := by simpa [spaceCells, ho] using hu.symm
    subst hu2
    refine ⟨?_, rfl⟩
    rw [T.cell hg o (by rw [Lib.asciiSpaceTab_length]; exact ho), Lib.asciiSpaceTab_at o ho]
  · split at hi
    · rename_i e
      have e := eq_of_beq e
      subst e
      obtain rfl := Option.some.inj hi
      exact F o u hu
    · split at hi
      · rename_i e
        have e := eq_of_beq e
        subst e
        obtain rfl := Option.some.inj hi
        exact A o u hu
      · cases hi
set_option maxRecDepth 100000 in
theorem contract (H : Type) (enc : TypeId × Value → H) (W : World) (base : Nat) (args : Array Value) (ds gs : List (DataW H)) (before : List MemPlace) (hX : laidMetH Tryz.prog Rows.changePrintsRow.laid W)
    (hval : ∀ (j : Nat) t v, Tryz.f8.params[j]? = some t → args[j]? = some v → Value.okWide Tryz.prog W .any base t v)
    (hW : DataW.Whole enc Tryz.prog Tryz.f8.params.toList Rows.changePrintsSpec.vars false W args.toList ds gs before) :
    Calls Tryz.prog 8 args W fun e W' => ∃ v, e = .returned v ∧ Rows.changePrintsSpec.post enc Tryz.prog Tryz.f8 false true false false W args v W' := by
  have hA := hW
  obtain ⟨p, q, hA, hrest⟩ := hA
  have hok : (Tryz.f8.params.toList.all fun t => okT Tryz.prog 4 t) = true := by kernel_rfl
  refine law_contract (GL := gl) (dr := drD) (n := 4) (af := a8) (tb := 4) Tryz.func8 m8 laid (by kernel_rfl) hok (by kernel_rfl) Tryz.underlying4 (by kernel_rfl) hval hW (fun ds hd => ?_) (glo W hX) (law (avAll Tryz.prog 4 Tryz.f8.params.toList ds) (args_shp hok hA))
  obtain ⟨d1, d2, rfl⟩ : ∃ d1 d2, ds = [d1, d2] := by
    match ds, hd with
    | [d1, d2], hd => exact ⟨d1, d2, rfl⟩
  exact ⟨rfl, rfl, rfl⟩
abbrev tabs := Rows.changePrintsRow.laid
set_option maxRecDepth 100000 in
theorem lifted (os : Os) (started : os.Started) (H : Type) (enc : TypeId × Value → H) :
    ReturnsInHanded {} Tryz.checked os 8 .any (fun w args => (Rows.changePrintsSpec.pre enc Tryz.prog Tryz.f8 [] false w args ∧ laidMetH Tryz.prog tabs w) ∧ sizedMet enc Tryz.prog Tryz.f8 (OpenSpec.ofChange Rows.changePrintsSpec) false w args)
      (Rows.changePrintsSpec.post enc Tryz.prog Tryz.f8 false true false false) := by
  refine returnsInHanded_of_change_and (C := Tryz.checked) (X := fun w _ => laidMetH Tryz.prog tabs w) (fun _ _ _ hh h => h.of_heap hh) own started (by kernel_rfl) Tryz.func8
    (ChangeSpec.witness_shaped (enc := enc) (C := Tryz.checked) (os := os) (X := fun w _ => laidMetH Tryz.prog tabs w) false (World.laidAll Tryz.prog os tabs) #[.slice none 0 0, .string ByteArray.empty] 8 (World.laidAll_os _ _ _) (World.shaped_of_ZipB (by kernel_rfl) (by kernel_rfl)) (by kernel_rfl) (by kernel_rfl) (by kernel_rfl) (by rw [MakeChecks.laidMetH_plain _ _ _ (by kernel_rfl)]; exact laidMet_laidAll _ (by kernel_rfl) (by kernel_rfl))) ?_
  intro W base args ds gs before hval hW _ _ hX _
  exact contract H enc W base args ds gs before hX hval hW
/-! The row's closed cells, one by one (all in one declaration is more memory than a build has). -/
theorem k_inp : Tryz.checked.prog.inPlace 8 = Rows.changePrintsRow.inPlace := by kernel_rfl
theorem k_unf : Tryz.checked.prog.unfollowed 8 = Rows.changePrintsRow.unfollowed := by kernel_rfl
theorem k_rec : Tryz.checked.prog.recurses 8 = Rows.changePrintsRow.recurses := by kernel_rfl
theorem k_nam : Tryz.checked.prog.varsNamed 8 = Rows.changePrintsRow.named := by kernel_rfl
theorem k_lay : laidOutB Tryz.checked.prog = true := laid
theorem k_map : mapsRowed Tryz.checked.prog = true := by kernel_rfl
theorem k_sth : Tryz.checked.prog.stopsHeard = true := by kernel_rfl
theorem k_may : Tryz.checked.prog.mayEnter = true := by kernel_rfl
theorem closed : joinedFacts Tryz.checked.prog 8 Tryz.f8 Rows.changePrintsSpec Rows.changePrintsRow = true := by
  unfold joinedFacts
  rw [k_inp, k_unf, k_rec, k_nam, k_lay, k_map, k_sth, k_may]
  kernel_rfl
theorem row_proved : Rows.ChangePrintsSaid :=
  OpenClaim.holds_of_wide 8 Tryz.f8 rfl rfl rfl rfl rfl rfl rfl ⟨rfl, rfl, rfl, rfl, rfl⟩ rfl rfl rfl rfl rfl (by kernel_rfl) Tryz.func8 closed
    (of_decide_eq_true (by kernel_rfl)) (by unfold Func.isWrapper; first | (rw [if_pos (by decide +kernel)]; kernel_rfl) | (rw [if_neg (by decide +kernel)]; exact ⟨rfl, rfl⟩))
    (fun os started H enc _ => lifted os started H enc)
/-! The card's closed cells, one by one. -/
theorem k_w : Rows.changePrintsRow.wfByText (OpenSpec.ofChange Rows.changePrintsSpec) = true := by kernel_rfl
theorem k_main : Tryz.pinned.checked.prog.mainIs = some (true, "3ef3daab6b2ed701b203e3974e56f58d54588f5dc3208e45fa3b8596f45d25ac".toList) := by kernel_rfl
theorem k_fn : Tryz.prog.funcNamed "firebell/firebelllaw18.ChangePrints" = some 8 := by kernel_rfl
theorem k_looks : false = Tryz.pinned.checked.prog.looks [] := by kernel_rfl
theorem k_want : (Tryz.f8.params.toList.all fun u => !Tryz.prog.wantsStandIn u) = true := by kernel_rfl
theorem k_go : false = Rows.changePrintsRow.goesBy Tryz.pinned.checked.prog := by kernel_rfl
theorem proved : Rows.ChangePrintsCardSaid :=
  Claim7.holds_tied_plain_at .later [] [.data, .listed, .data, .pinned] true (true, "3ef3daab6b2ed701b203e3974e56f58d54588f5dc3208e45fa3b8596f45d25ac") false
    row_proved (fun _ h => by cases h) k_w (fun _ h => by cases h) changePrints_row_tie rfl ⟨rfl, rfl⟩ k_main rfl
    (fun f fn hf hfn => by
      obtain rfl : f = 8 := Option.some.inj (k_fn.symm.trans hf) |>.symm
      obtain rfl : fn = Tryz.f8 := (Option.some.inj (Tryz.func8.symm.trans hfn)).symm
      exact ⟨k_looks, fun j t ht => by
        have hm : t ∈ Tryz.f8.params.toList := by simpa using Array.mem_of_getElem? ht
        exact (show Tryz.prog.wantsStandIn t = false by simpa using List.all_eq_true.1 k_want t hm)⟩)
    k_go
end Go.Proofs.YtmbnoejneocmmaaGreatDoor.changePrints
