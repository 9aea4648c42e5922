/- ChangeBack, for every input: the law returns true, never panics, and its arguments read as they did; the listed tables are tied to the program's text. Conditions: none beyond the given statement's own. -/
import Derived.Test.YtcdomokjdfmnlaaDoorP8
import Derived.Test.YtcdomokjdfmnlaaDoorAiIn
import Derived.Test.YtcdomokjdfmnlaaDoorRows
import Derived.Test.YtcdomokjdfmnlaaDoorCards
import Derived.Test.YtcdomokjdfmnlaaDoorTie
import Derived.ProofKit
import Derived.LaidMore
import Derived.Lay
import Derived.OpenShut
import Derived.Stop.Joined
import Derived.SevenTiedAt
import Derived.MakeChecks
import Derived.Stop.LaidErr
namespace Go.Proofs.YtcdomokjdfmnlaaDoor.changeBack
open Go Go.ChangeShapes Go.WideShapes Go.ChangeAt Go.RowKit Go.Ai
theorem own : ownKnob Tryd.prog.godebug = none := by kernel_rfl
theorem laid : laidOutB Tryd.prog = true := by kernel_rfl
set_option maxRecDepth 100000 in
theorem cf_of {cs : List AV} (h : Shp Tryd.prog 6 43 cs) : ∃ c : Cf, cs = c.row := by
  simp [Shp, shpF, -Bool.exists_bool] at h
  obtain ⟨_, _, rfl, ⟨gs, rfl, _, hgs⟩, _, _, rfl, ⟨c1, rfl, _⟩, _, _, rfl, ⟨c2, rfl, _⟩, _, _, rfl, ⟨c3, rfl, _⟩, _, _, rfl, ⟨c4, rfl, _⟩, c5, rfl, _⟩ := h
  obtain ⟨l, rfl, _⟩ := rows_of (ok := fun _ : Gl => True) (f := Gl.row) (fun r hr => by
    obtain ⟨_, _, rfl, ⟨n1, rfl, _⟩, _, _, rfl, ⟨t1, rfl, ht1⟩, _, _, rfl, ⟨g1, rfl, _⟩, _, _, rfl, ⟨a1, rfl, _⟩, _, _, rfl, ⟨o1, rfl, _⟩, _, _, rfl, ⟨c1, rfl, _⟩, _, _, rfl, ⟨lb, rfl, _, hlb⟩, ru, rfl, _, hru⟩ := hr
    have bt := bounds_u32 ht1
    obtain ⟨t1, rfl⟩ := Int.eq_ofNat_of_zero_le bt.1
    obtain ⟨lbs, rfl, _⟩ := rows_of (ok := fun _ : Lb => True) (f := Lb.row) (fun r hr => by
      obtain ⟨_, _, rfl, ⟨a, rfl, _⟩, b, rfl, _⟩ := hr
      exact ⟨⟨a, b⟩, trivial, rfl⟩) lb hlb
    obtain ⟨rus, rfl, _⟩ := rows_of (ok := fun _ : Ru => True) (f := Ru.row) (fun r hr => by
      obtain ⟨_, _, rfl, ⟨n, rfl, _⟩, _, _, rfl, ⟨p, rfl⟩, _, _, rfl, ⟨l, rfl, _⟩, _, _, rfl, ⟨s, rfl, _⟩, _, _, rfl, ⟨f, rfl, hf⟩, _, _, rfl, ⟨w, rfl, _⟩, k, rfl, _⟩ := hr
      have bf := bounds_u64 hf
      obtain ⟨f, rfl⟩ := Int.eq_ofNat_of_zero_le bf.1
      exact ⟨⟨n, p, l, s, f, w, k⟩, trivial, rfl⟩) ru hru
    exact ⟨⟨n1, t1, g1, a1, o1, c1, lbs, rus⟩, trivial, rfl⟩) gs hgs
  exact ⟨⟨l, c1, c2, c3, c4, c5⟩, rfl⟩
set_option maxRecDepth 100000 in
theorem law (l : List AV) (h : ShpAll Tryd.prog 6 Tryd.f4.params.toList l) : Sp Tryd.prog gl 4 l (.bool true) := by
  rw [Tryd.params4] at h
  simp only [ShpAll] at h
  obtain ⟨cs1, _, rfl, h1, cs2, _, rfl, h2, rfl⟩ := h
  obtain ⟨a, rfl⟩ := cf_of h1
  obtain ⟨b, rfl⟩ := cf_of h2
  simp [argOf]
  exact changeBack_spec a b
/-- The listed tables, as cells. -/
theorem glo (W : World) (h : laidMetH Tryd.prog Rows.changeBackRow.laid W) : ∀ i us, List.lookup i gl = some us → ∀ (o : Nat) (u : Value), us[o]? = some u → W.cell? ⟨i, o, none⟩ = some u ∧ u.oneCell' = true := by
  have h1 : laidMet Tryd.prog Rows.changeBackRow.laid W := (MakeChecks.laidMetH_plain Tryd.prog Rows.changeBackRow.laid W (by kernel_rfl)) ▸ h
  have e : Rows.changeBackRow.laid = [("unicode/utf8.acceptRanges", Lib.acceptData), ("unicode/utf8.first", Lib.firstData)] := by kernel_rfl
  rw [e] at h1
  exact u8_glo W h1
set_option maxRecDepth 100000 in
theorem contract (H : Type) (enc : TypeId × Value → H) (W : World) (base : Nat) (args : Array Value) (ds gs : List (DataW H)) (before : List MemPlace) (hX : laidMetH Tryd.prog Rows.changeBackRow.laid W)
    (hval : ∀ (j : Nat) t v, Tryd.f4.params[j]? = some t → args[j]? = some v → Value.okWide Tryd.prog W .any base t v)
    (hW : DataW.Whole enc Tryd.prog Tryd.f4.params.toList Rows.changeBackSpec.vars false W args.toList ds gs before) :
    Calls Tryd.prog 4 args W fun e W' => ∃ v, e = .returned v ∧ Rows.changeBackSpec.post enc Tryd.prog Tryd.f4 false true false false W args v W' := by
  have hA := hW
  obtain ⟨p, q, hA, hrest⟩ := hA
  have hok : (Tryd.f4.params.toList.all fun t => okT Tryd.prog 6 t) = true := by kernel_rfl
  refine law_contract (GL := gl) (dr := drD) (n := 6) (af := a4) (tb := 4) Tryd.func4 m4 laid (by kernel_rfl) hok (by kernel_rfl) Tryd.underlying4 (by kernel_rfl) hval hW (fun ds hd => ?_) (glo W hX) (law (avAll Tryd.prog 6 Tryd.f4.params.toList ds) (args_shp hok hA))
  obtain ⟨d1, d2, rfl⟩ : ∃ d1 d2, ds = [d1, d2] := by
    match ds, hd with
    | [d1, d2], hd => exact ⟨d1, d2, rfl⟩
  exact ⟨rfl, rfl, rfl⟩
abbrev tabs := Rows.changeBackRow.laid
set_option maxRecDepth 100000 in
theorem lifted (os : Os) (started : os.Started) (H : Type) (enc : TypeId × Value → H) :
    ReturnsInHanded {} Tryd.checked os 4 .any (fun w args => (Rows.changeBackSpec.pre enc Tryd.prog Tryd.f4 [] false w args ∧ laidMetH Tryd.prog tabs w) ∧ sizedMet enc Tryd.prog Tryd.f4 (OpenSpec.ofChange Rows.changeBackSpec) false w args)
      (Rows.changeBackSpec.post enc Tryd.prog Tryd.f4 false true false false) := by
  refine returnsInHanded_of_change_and (C := Tryd.checked) (X := fun w _ => laidMetH Tryd.prog tabs w) (fun _ _ _ hh h => h.of_heap hh) own started (by kernel_rfl) Tryd.func4
    (ChangeSpec.witness_shaped (enc := enc) (C := Tryd.checked) (os := os) (X := fun w _ => laidMetH Tryd.prog tabs w) false (World.laidAll Tryd.prog os tabs) #[.agg #[.slice none 0 0, .int .i64 0, .int .i64 0, .int .i64 0, .int .i64 0, .int .i64 0], .agg #[.slice none 0 0, .int .i64 0, .int .i64 0, .int .i64 0, .int .i64 0, .int .i64 0]] 8 (World.laidAll_os _ _ _) (World.shaped_of_ZipB (by kernel_rfl) (by kernel_rfl)) (by kernel_rfl) (by kernel_rfl) (by kernel_rfl) (by rw [MakeChecks.laidMetH_plain _ _ _ (by kernel_rfl)]; exact laidMet_laidAll _ (by kernel_rfl) (by kernel_rfl))) ?_
  intro W base args ds gs before hval hW _ _ hX _
  exact contract H enc W base args ds gs before hX hval hW
theorem row_proved : Rows.ChangeBackSaid :=
  OpenClaim.holds_of_wide 4 Tryd.f4 rfl rfl rfl rfl rfl rfl rfl ⟨rfl, rfl, rfl, rfl, rfl⟩ rfl rfl rfl rfl rfl (by kernel_rfl) Tryd.func4 (by kernel_rfl)
    (of_decide_eq_true (by kernel_rfl)) (by unfold Func.isWrapper; first | (rw [if_pos (by decide +kernel)]; kernel_rfl) | (rw [if_neg (by decide +kernel)]; exact ⟨rfl, rfl⟩))
    (fun os started H enc _ => lifted os started H enc)
theorem proved : Rows.ChangeBackCardSaid :=
  Claim7.holds_tied_plain_at .later [] [.data, .pinned] true (true, "03e95bf6af31c01bb0800e649032b83c291b1fc0366db7a504a7d2d4d4dcd173") false
    row_proved (fun _ h => by cases h) (by kernel_rfl) (fun _ h => by cases h) changeBack_row_tie rfl ⟨rfl, rfl⟩ (by kernel_rfl) rfl
    (fun f fn hf hfn => by
      obtain rfl : f = 4 := Option.some.inj ((show Tryd.prog.funcNamed "firebell/firebelllaw18.ChangeBack" = some 4 by kernel_rfl).symm.trans hf) |>.symm
      obtain rfl : fn = Tryd.f4 := (Option.some.inj (Tryd.func4.symm.trans hfn)).symm
      exact ⟨by kernel_rfl, fun j t ht => by
        have hm : t ∈ Tryd.f4.params.toList := by simpa using Array.mem_of_getElem? ht
        have hall : (Tryd.f4.params.toList.all fun u => !Tryd.prog.wantsStandIn u) = true := by kernel_rfl
        exact (show Tryd.prog.wantsStandIn t = false by simpa using List.all_eq_true.1 hall t hm)⟩)
    (by kernel_rfl)
end Go.Proofs.YtcdomokjdfmnlaaDoor.changeBack
