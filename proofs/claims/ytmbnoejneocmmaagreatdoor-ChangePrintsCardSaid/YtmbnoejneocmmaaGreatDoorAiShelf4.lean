/- YtmbnoejneocmmaaGreatDoorAiShelf4: part of the abstract interpreter library (values, rules, soundness against the model) or of what a function of the seat computes. Conditions: as each theorem says. -/
import Derived.Test.YtmbnoejneocmmaaGreatDoorAiBuild
import Derived.Shelf.Small.Wraps
import Derived.Shelf.LaysM
import Derived.Shelf.Strings.SplitCore
import Derived.Shelf.Strings.Search3
import Derived.Shelf.Strings.Count
import Derived.Lib.SplitLaws
set_option linter.unusedSimpArgs false
set_option linter.unusedVariables false
namespace Go.Ai
open Go.RowKit Go.Shelf Go.Proofs
variable {P : Program} {ρ : Ren}
/-- As 'shelf_spec', of a function that makes new blocks. -/
theorem shelf_specN {GL : List (Nat × List Value)} {f : Nat} {fn : Func} (hf : P.funcs[f]? = some fn) (hname : (fn.name == "runtime.NumGoroutine") = false) (hb : fn.body.isSome = true) {l : List AV} {r : AV}
    (h : ∀ (S : Mem) (gb : Gb) (w : World) (vs : List Value), PRlist S gb l vs → (∀ g o v, S g o = some v → w.cell? ⟨g, o, none⟩ = some v) →
      Calls P f vs.toArray w fun e w' => ∃ v S', e = .returned v ∧ Below w.heap.size w w' ∧ S.le S' ∧ (∀ g o, g < w.heap.size → S' g o = S g o) ∧ (∀ g o u, S' g o = some u → w'.cell? ⟨g, o, none⟩ = some u) ∧ PR S' gb r v) : Sp P GL f l r := by
  rw [sp_eq]
  intro d S gb w vs hvs hhr hglo hnw
  have h1 := h S gb w vs hvs hhr.agree
  unfold Does
  have hcall : (callFunc f vs.toArray).run P w = .ok (.enter f vs.toArray) w := by
    obtain ⟨c, hc⟩ := Option.isSome_iff_exists.1 hb
    have hn : ¬ fn.name = "runtime.NumGoroutine" := by simpa using hname
    simp [callFunc, hf, hc, hn]
  rw [hcall]
  refine h1.mono fun e w' ⟨v, S', he, hbel, hle, hext, hag, hp⟩ => ⟨v, he, S', gb, Bw.of_below hbel, fun g o hg _ => hext g o hg, hle, fun _ _ => rfl, fun i hi hne => absurd (hnw i hi) hne, hp, ⟨?_, ?_, ?_, ?_, ?_, ?_, ?_, ?_⟩, ?_, ?_⟩
  · exact hag
  · intro d cs hcs; simp [lkB] at hcs
  · intro d cs hcs; simp [lkB] at hcs
  · intro d d' g z z' hg; simp [lkB] at hg
  · intro p k hk; simp [lkP] at hk
  · intro p q k l b hk; simp [lkP] at hk
  · intro p k b d z hk; simp [lkP] at hk
  · intro d off k hk; simp [lkP] at hk
  · intro d g z hg; simp [lkB] at hg
  · intro p k g hk; simp [lkP] at hk
theorem cutP_shelf {GL : List (Nat × List Value)} (L : Lays.n103 P ρ) (hname : ((Body.n103 ρ).name == "runtime.NumGoroutine") = false) (hb : (Body.n103 ρ).body.isSome = true) (s p : List UInt8) :
    Sp P GL (ρ.f 103) [.str s, .str p] (.tup [.str (Lib.trimPrefix s p), .bool (Lib.hasPrefix s p)]) := by
  refine shelf_spec L.f103 hname hb ?_
  intro S gb w vs hvs hag
  simp only [PRlist] at hvs
  obtain ⟨v1, _, rfl, p1, v2, _, rfl, p2, rfl⟩ := hvs
  simp only [PR] at p1 p2
  subst p1; subst p2
  refine (Any.strings_CutPrefix L ⟨s.toArray⟩ ⟨p.toArray⟩ w).mono ?_
  rintro e w' ⟨rfl, rfl⟩
  exact ⟨_, rfl, Below.refl _ _, by simp only [PR, PRlist]; exact ⟨_, rfl, _, _, rfl, rfl, _, _, rfl, rfl, rfl⟩⟩
theorem cutS_shelf {GL : List (Nat × List Value)} (L : Lays.n104 P ρ) (hname : ((Body.n104 ρ).name == "runtime.NumGoroutine") = false) (hb : (Body.n104 ρ).body.isSome = true) (s p : List UInt8) (hs : s.length ≤ 9223372036854775807) :
    Sp P GL (ρ.f 104) [.str s, .str p] (.tup [.str (Lib.trimSuffix s p), .bool (Lib.hasSuffix s p)]) := by
  refine shelf_spec L.f104 hname hb ?_
  intro S gb w vs hvs hag
  simp only [PRlist] at hvs
  obtain ⟨v1, _, rfl, p1, v2, _, rfl, p2, rfl⟩ := hvs
  simp only [PR] at p1 p2
  subst p1; subst p2
  refine (Any.strings_CutSuffix L ⟨s.toArray⟩ ⟨p.toArray⟩ w (by simpa [ByteArray.size] using hs)).mono ?_
  rintro e w' ⟨rfl, rfl⟩
  exact ⟨_, rfl, Below.refl _ _, by simp only [PR, PRlist]; exact ⟨_, rfl, _, _, rfl, rfl, _, _, rfl, rfl, rfl⟩⟩
theorem strRows_flat : ∀ (xs : List (List UInt8)), (strRows xs).flatten = xs.map AV.str
  | [] => rfl
  | x :: r => by
    have := strRows_flat r
    simp only [strRows, List.map_cons, List.flatten_cons] at this ⊢
    rw [this]; rfl
theorem strs_PR {S : Mem} {gb : Gb} : ∀ (ps : List ByteArray), PRlist S gb (ps.map fun x => AV.str x.data.toList) (ps.map Value.string)
  | [] => by simp [PRlist]
  | a :: m => by
    have ih := strs_PR (S := S) (gb := gb) m
    simp only [List.map_cons, PRlist, PR] at ih ⊢
    exact ⟨_, _, rfl, rfl, ih⟩
theorem index_one (c : UInt8) : ∀ s : List UInt8, Lib.index s [c] = Lib.indexByte s c
  | [] => rfl
  | b :: l => by
    rw [Lib.index, Lib.indexByte, index_one c l]
    simp only [List.isPrefixOf, Bool.and_true]
    by_cases h : c = b
    · subst h; simp
    · have : ¬ b = c := fun e => h e.symm
      simp [h, this]
set_option maxHeartbeats 1000000 in
/-- strings.Split at one byte. -/
theorem split1 (L : LaysM.n146 P ρ) (s : ByteArray) (c : UInt8) (w : World) (hs : s.size < 4294967281) :
    Calls P (ρ.f 146) #[.string s, .string ⟨#[c]⟩] w fun e w' =>
      e = .returned (.slice (some ⟨w.heap.size, 0, none⟩) (Lib.countB s ⟨#[c]⟩ + 1) (Lib.countB s ⟨#[c]⟩ + 1)) ∧ w' = w.alloc (.cells ((Lib.splitB ⟨#[c]⟩ 0 (Lib.countB s ⟨#[c]⟩) s).map Value.string).toArray (ρ.t 9)) := by
  have h1 : 1 ≤ (ByteArray.mk #[c]).size := Nat.le_refl 1
  have hle := Lib.countB_le ⟨#[c]⟩ h1 s.size s (Nat.le_refl _)
  have hlen := Lib.splitB_all ⟨#[c]⟩ h1 0 _ s rfl
  have hC : Calls P (ρ.f 138) #[.string s, .string ⟨#[c]⟩] w fun e w' => e = .returned (.int .i64 (Lib.countB s ⟨#[c]⟩)) ∧ w' = w := by
    refine (Any.strings_Count_one { L with } s c w).mono fun e w' ⟨he, hw⟩ => ⟨?_, hw⟩
    rw [he]
    show _ = Ending.returned (Value.int .i64 ((Lib.count s.data.toList [c] : Nat) : Int))
    rw [Lib.count_one]
    rfl
  have hI : ∀ (x : ByteArray) (cs : Array Value), x.size ≤ s.size → Calls P (ρ.f 143) #[.string x, .string ⟨#[c]⟩] (w.alloc (.cells cs (ρ.t 9))) fun e w' => e = .returned (.int .i64 (Lib.indexB x ⟨#[c]⟩)) ∧ w' = w.alloc (.cells cs (ρ.t 9)) := by
    intro x cs _
    refine (Any.strings_Index_one { L with } x c _).mono fun e w' ⟨he, hw⟩ => ⟨?_, hw⟩
    rw [he, ← index_one]
  have cc := Any.strings_genSplit_core { L with } L.i9 s ⟨#[c]⟩ 0 (-1) (Lib.countB s ⟨#[c]⟩ + 1) w hs h1 (Nat.zero_le _) hI hC (by decide) (by decide) (by rw [if_pos (by decide)]; omega)
  rw [Nat.add_sub_cancel, hlen] at cc
  have e2 : Lib.cellsOf (Lib.splitB ⟨#[c]⟩ 0 (Lib.countB s ⟨#[c]⟩) s) (Lib.countB s ⟨#[c]⟩ + 1) = ((Lib.splitB ⟨#[c]⟩ 0 (Lib.countB s ⟨#[c]⟩) s).map Value.string).toArray := by rw [← hlen]; exact Lib.cellsOf_full _
  rw [e2] at cc
  have t3 := L.t3; have t9 := L.t9; have t31 := L.t31
  have a3 := L.a3; have a9 := L.a9; have a31 := L.a31
  have z3 := L.z3; have v3 := L.v3; have z9 := L.z9; have v9 := L.v9; have z31 := L.z31; have v31 := L.v31
  have e221 : ∀ args w, (callFunc (ρ.f 221) args).run P w = .ok (.enter (ρ.f 221) args) w := enters_of L.f221 (by kernel_rfl) rfl
  go_enter L.f146, Body.n146_ntmps ρ
  go_wp2_with (go_at_fn (ρ.f 221); refine cc.mono ?_; rintro e w' ⟨rfl, hw⟩; rw [hw])
  go_ret
  exact ⟨rfl, rfl⟩
theorem split1_shelf {GL : List (Nat × List Value)} (L : LaysM.n146 P ρ) (hname : ((Body.n146 ρ).name == "runtime.NumGoroutine") = false) (hb : (Body.n146 ρ).body.isSome = true) (s : List UInt8) (c : UInt8) (hs : s.length < 4294967281) :
    Sp P GL (ρ.f 146) [.str s, .str [c]] (.sl (strRows (Lib.split s [c]))) := by
  refine shelf_specN L.f146 hname hb ?_
  intro S gb w vs hvs hag
  simp only [PRlist] at hvs
  obtain ⟨v1, _, rfl, p1, v2, _, rfl, p2, rfl⟩ := hvs
  simp only [PR] at p1 p2
  subst p1; subst p2
  refine (split1 L ⟨s.toArray⟩ c w (by simpa [ByteArray.size] using hs)).mono ?_
  rintro e w' ⟨rfl, rfl⟩
  have hpc : (Lib.splitB ⟨#[c]⟩ 0 (Lib.countB ⟨s.toArray⟩ ⟨#[c]⟩) ⟨s.toArray⟩).map (·.data.toList) = Lib.split s [c] := Lib.splitB_data ⟨#[c]⟩ 0 _ ⟨s.toArray⟩
  have hlen := Lib.splitB_all ⟨#[c]⟩ (Nat.le_refl 1) 0 _ ⟨s.toArray⟩ rfl
  generalize Lib.splitB ⟨#[c]⟩ 0 (Lib.countB ⟨s.toArray⟩ ⟨#[c]⟩) ⟨s.toArray⟩ = ps at hpc hlen ⊢
  rw [← hlen]
  have hrl : (strRows (Lib.split s [c])).length = ps.length := by rw [strRows, List.length_map, ← hpc, List.length_map]
  refine ⟨_, (fun g o => if g = w.heap.size then (ps.map Value.string)[o]? else S g o), rfl, (Below.refl _ w).alloc (Nat.le_refl _) _, ?_, ?_, ?_, ?_⟩
  · intro g o u hu
    have := World.block_lt_of_cell? w _ (hag g o u hu)
    show (if g = w.heap.size then (ps.map Value.string)[o]? else S g o) = some u
    rw [if_neg (fun e => by subst e; exact Nat.lt_irrefl _ this)]; exact hu
  · intro g o hg
    show (if g = w.heap.size then (ps.map Value.string)[o]? else S g o) = S g o
    rw [if_neg (by omega)]
  · intro g o u hu
    replace hu : (if g = w.heap.size then (ps.map Value.string)[o]? else S g o) = some u := hu
    split at hu
    · rename_i e; subst e
      rw [World.cell?_alloc_new]
      simpa using hu
    · have := World.block_lt_of_cell? w _ (hag g o u hu)
      rw [World.cell?_alloc_lt]
      · exact hag g o u hu
      · exact this
  · simp only [PR]
    refine .inr ⟨⟨w.heap.size, 0, none⟩, ps.length, 1, by rw [hrl], by rw [hrl]; exact Nat.le_refl _, .inr ⟨rfl, ?_⟩⟩
    rw [PRrows.flat]
    refine ⟨fun r hr => by simp only [strRows, List.mem_map] at hr; obtain ⟨_, _, rfl⟩ := hr; rfl, ?_⟩
    have hfl : (strRows (Lib.split s [c])).flatten = ps.map fun x => AV.str x.data.toList := by
      rw [← hpc, strRows_flat, List.map_map]; rfl
    rw [hfl]
    refine PRcells.of_list (us := ps.map Value.string) ?_ ?_ (fun j u hu => ?_)
    · exact strs_PR ps
    · intro u hu; simp only [List.mem_map] at hu; obtain ⟨_, _, rfl⟩ := hu; rfl
    · simp only [if_true, Nat.zero_add]; exact hu
end Go.Ai
