/- YtmbnoejneocmmaaGreatDoorAiShelf5: part of the abstract interpreter library (values, rules, soundness against the model) or of what a function of the seat computes. Conditions: as each theorem says. -/
import Derived.Test.YtmbnoejneocmmaaGreatDoorAiShelf4
import Derived.Shelf.Strings.Fields
import Derived.Shelf.Strings.Search2
set_option linter.unusedSimpArgs false
set_option linter.unusedVariables false
namespace Go.Ai
open Go.RowKit Go.Shelf Go.Proofs
variable {P : Program} {ρ : Ren}
/-- As 'shelf_specN', that also hands on what the package-level arrays hold. -/
theorem shelf_specNG {GL : List (Nat × List Value)} {f : Nat} {fn : Func} (hf : P.funcs[f]? = some fn) (hname : (fn.name == "runtime.NumGoroutine") = false) (hb : fn.body.isSome = true) {l : List AV} {r : AV}
    (h : ∀ (S : Mem) (gb : Gb) (w : World) (vs : List Value), PRlist S gb l vs → (∀ g o v, S g o = some v → w.cell? ⟨g, o, none⟩ = some v) →
      (∀ i us, GL.lookup i = some us → ∀ (o : Nat) (u : Value), us[o]? = some u → w.cell? ⟨i, o, none⟩ = some u) →
      Calls P f vs.toArray w fun e w' => ∃ v S', e = .returned v ∧ Below w.heap.size w w' ∧ S.le S' ∧ (∀ g o, g < w.heap.size → S' g o = S g o) ∧ (∀ g o u, S' g o = some u → w'.cell? ⟨g, o, none⟩ = some u) ∧ PR S' gb r v) : Sp P GL f l r := by
  rw [sp_eq]
  intro d S gb w vs hvs hhr hglo hnw
  have h1 := h S gb w vs hvs hhr.agree (fun i us hi o u hu => hhr.agree _ _ _ (hglo i us hi o u hu).1)
  unfold Does
  have hcall : (callFunc f vs.toArray).run P w = .ok (.enter f vs.toArray) w := by
    obtain ⟨c, hc⟩ := Option.isSome_iff_exists.1 hb
    have hn : ¬ fn.name = "runtime.NumGoroutine" := by simpa using hname
    simp [callFunc, hf, hc, hn]
  rw [hcall]
  refine h1.mono fun e w' ⟨v, S', he, hbel, hle, hext, hag, hp⟩ => ⟨v, he, S', gb, Bw.of_below hbel, fun g o hg _ => hext g o hg, hle, fun _ _ => rfl, fun i hi hne => absurd (hnw i hi) hne, hp, ⟨?_, ?_, ?_, ?_, ?_, ?_, ?_, ?_⟩, ?_, ?_⟩
  · exact hag
  · intro d cs hcs; simp [lkB] at hcs
  · intro d cs hcs; simp [lkB] at hcs
  · intro d d' g z z' hg; simp [lkB] at hg
  · intro p k hk; simp [lkP] at hk
  · intro p q k l b hk; simp [lkP] at hk
  · intro p k b d z hk; simp [lkP] at hk
  · intro d off k hk; simp [lkP] at hk
  · intro d g z hg; simp [lkB] at hg
  · intro p k g hk; simp [lkP] at hk
/-- A slice of strings in a new block. -/
theorem strs_new {S : Mem} {gb : Gb} {w : World} {T : TypeId} (hag : ∀ g o v, S g o = some v → w.cell? ⟨g, o, none⟩ = some v) (xs : List (List UInt8)) :
    ∃ S' : Mem, S.le S' ∧ (∀ g o, g < w.heap.size → S' g o = S g o) ∧ (∀ g o u, S' g o = some u → (w.alloc (.cells (xs.map fun l => Value.string ⟨l.toArray⟩).toArray T)).cell? ⟨g, o, none⟩ = some u) ∧
      PR S' gb (.sl (strRows xs)) (.slice (some ⟨w.heap.size, 0, none⟩) xs.length xs.length) := by
  have hrl : (strRows xs).length = xs.length := by simp [strRows]
  refine ⟨(fun g o => if g = w.heap.size then (xs.map fun l => Value.string ⟨l.toArray⟩)[o]? else S g o), ?_, ?_, ?_, ?_⟩
  · intro g o u hu
    have := World.block_lt_of_cell? w _ (hag g o u hu)
    show (if g = w.heap.size then _ else S g o) = some u
    rw [if_neg (fun e => by subst e; exact Nat.lt_irrefl _ this)]; exact hu
  · intro g o hg
    show (if g = w.heap.size then _ else S g o) = S g o
    rw [if_neg (by omega)]
  · intro g o u hu
    replace hu : (if g = w.heap.size then (xs.map fun l => Value.string ⟨l.toArray⟩)[o]? else S g o) = some u := hu
    split at hu
    · rename_i e; subst e
      rw [World.cell?_alloc_new]
      simpa using hu
    · have := World.block_lt_of_cell? w _ (hag g o u hu)
      rw [World.cell?_alloc_lt]
      · exact hag g o u hu
      · exact this
  · simp only [PR]
    refine .inr ⟨⟨w.heap.size, 0, none⟩, xs.length, 1, by rw [hrl], by rw [hrl]; exact Nat.le_refl _, .inr ⟨rfl, ?_⟩⟩
    rw [PRrows.flat]
    refine ⟨fun r hr => by simp only [strRows, List.mem_map] at hr; obtain ⟨_, _, rfl⟩ := hr; rfl, ?_⟩
    rw [strRows_flat]
    refine PRcells.of_list (us := xs.map fun l => Value.string ⟨l.toArray⟩) ?_ ?_ (fun j u hu => ?_)
    · have := strs_PR (S := fun g o => if g = w.heap.size then (xs.map fun l => Value.string ⟨l.toArray⟩)[o]? else S g o) (gb := gb0) (xs.map fun l => (⟨l.toArray⟩ : ByteArray))
      simpa [List.map_map, Function.comp_def] using this
    · intro u hu; simp only [List.mem_map] at hu; obtain ⟨_, _, rfl⟩ := hu; rfl
    · simp only [if_true, Nat.zero_add]; exact hu
/-- strings.Fields at bytes below 128. -/
theorem fields_shelf {GL : List (Nat × List Value)} (L : Lays.n157 P ρ) (hname : ((Body.n157 ρ).name == "runtime.NumGoroutine") = false) (hb : (Body.n157 ρ).body.isSome = true)
    (hi9 : (P.info? (ρ.t 9)).map (fun i => (i.zero, i.size, i.bytes)) = some (some (.string ByteArray.empty), 1, 16)) {us : List Value} (hgl : GL.lookup (ρ.g 0) = some us)
    (htab : ∀ c : Nat, c < 256 → us[c]? = some (.int .u8 (if Lib.isSp (UInt8.ofNat c) then 1 else 0))) (s : List UInt8) (hs : s.length < 4294967281) (hascii : ∀ b ∈ s, b.toNat < 128) :
    Sp P GL (ρ.f 157) [.str s] (.sl (strRows (Lib.fields s))) := by
  refine shelf_specNG L.f157 hname hb ?_
  intro S gb w vs hvs hag hg
  simp only [PRlist] at hvs
  obtain ⟨v1, _, rfl, p1, rfl⟩ := hvs
  simp only [PR] at p1
  subst p1
  refine (Any.strings_Fields_core L hi9 ⟨s.toArray⟩ w (by simpa [ByteArray.size] using hs) (fun j b hj => hascii b (List.mem_of_getElem? (by simpa using hj))) (fun c hc => hg _ _ hgl c _ (htab c hc))).mono ?_
  rintro e w' ⟨rfl, rfl⟩
  obtain ⟨S', h1, h2, h3, h4⟩ := strs_new (gb := gb) (T := ρ.t 9) hag (Lib.fields s)
  exact ⟨_, S', rfl, (Below.refl _ w).alloc (Nat.le_refl _) _, h1, h2, h3, h4⟩
/-- internal/stringslite.Index at one byte. -/
theorem idx1_shelf {GL : List (Nat × List Value)} (L : Lays.n219 P ρ) (hname : ((Body.n219 ρ).name == "runtime.NumGoroutine") = false) (hb : (Body.n219 ρ).body.isSome = true) (s : List UInt8) (c : UInt8) :
    Sp P GL (ρ.f 219) [.str s, .str [c]] (.int .i64 (Lib.indexByte s c)) := by
  refine shelf_spec L.f219 hname hb ?_
  intro S gb w vs hvs hag
  simp only [PRlist] at hvs
  obtain ⟨v1, _, rfl, p1, v2, _, rfl, p2, rfl⟩ := hvs
  simp only [PR] at p1 p2
  subst p1; subst p2
  refine (Any.stringslite_Index_one L ⟨s.toArray⟩ c w).mono ?_
  rintro e w' ⟨rfl, rfl⟩
  exact ⟨_, rfl, Below.refl _ _, by simp [PR]⟩
open Builder in
set_option maxHeartbeats 1000000 in
set_option maxRecDepth 100000 in
/-- String of a builder that was never written. -/
theorem bld_string0 (L : Lays.n169 P ρ) (X : Builder.Extra P ρ) {b : Nat} {w : World} {p : Value} {us : Array Value} {T : TypeId} (h : BldAt w b p (.slice none 0 0) us T) :
    Calls P (ρ.f 169) #[.pointer (some ⟨b, 0, none⟩)] w fun e w' => e = .returned (.string ⟨#[]⟩) ∧ w' = w.drew := by
  have c1 : w.drew.cell? ⟨b, 1, none⟩ = some (.slice none 0 0) := h.cell.2.1
  have hSD : (Builtin.unsafeSliceData_ #[(ρ.t 37)] (ρ.t 127) #[.slice none 0 0]).run P w.drew = .ok (.pointer none) w.drew := rfl
  have hUS : (Builtin.unsafeString_ #[(ρ.t 127), (ρ.t 3)] (ρ.t 9) #[.pointer none, .int .i64 0]).run P w.drew = .ok (.string ⟨#[]⟩) w.drew := rfl
  have mixed := L.mixed
  have t72 := L.t72; have a72 := L.a72; have z72 := L.z72; have v72 := L.v72; have u72 := run_underlying L.t72
  have t70 := L.t70; have a70 := L.a70; have z70 := L.z70; have v70 := L.v70; have u70 := run_underlying L.t70
  have t37 := L.t37; have a37 := L.a37; have z37 := L.z37; have v37 := L.v37; have u37 := run_underlying L.t37
  have t127 := L.t127; have a127 := L.a127; have z127 := L.z127; have v127 := L.v127; have u127 := run_underlying L.t127
  have t3 := L.t3; have a3 := L.a3; have z3 := L.z3; have v3 := L.v3; have u3 := run_underlying L.t3
  have t9 := L.t9; have a9 := L.a9; have z9 := L.z9; have v9 := L.v9; have u9 := run_underlying L.t9
  have t5 := X.t5; have a5 := X.a5; have z5 := X.z5; have v5 := X.v5; have u5 := run_underlying X.t5
  go_enter L.f169, Body.n169_ntmps ρ
  go_wp2
  go_region_o
  all_goals (go_wp2; go_ret; exact ⟨rfl, rfl⟩)
/-- The text of a builder that was never written. -/
theorem st0_shelf {GL : List (Nat × List Value)} (L : Lays.n169 P ρ) (X : Builder.Extra P ρ) (hname : ((Body.n169 ρ).name == "runtime.NumGoroutine") = false) (hbd : (Body.n169 ρ).body.isSome = true) {d : Nat} {b : Id} (hit : b.isIt = false) (hnwb : b.isNw d = false)
    {c0 : AV} {rest : List AV} : SpH P GL (ρ.f 169) d ⟨[.ptr b 0], [(b, c0 :: .nils :: rest)], []⟩ ⟨.str [], [(b, c0 :: .nils :: rest)], []⟩ := by
  unfold SpH
  intro S gb w vs hvs hhr hglo hnw
  simp only [PRlist] at hvs
  obtain ⟨v0, _, rfl, hv0, rfl⟩ := hvs
  simp only [PR] at hv0
  obtain ⟨g, z, hg, _, rfl⟩ := hv0
  obtain ⟨g', us, T1, e1, e3, e0, e4, e5, e6⟩ := hhr.box b _ (by simp [lkB]; rfl) hit
  rw [hg] at e1; cases e1
  obtain ⟨p, v, us2, hus, hp0, hv, hrest⟩ := e4.two
  have hu0 : us[0]? = some p := by
    have : (us.toList.take (c0 :: .nils :: rest).length)[0]? = some p := by rw [hus]; rfl
    rw [List.getElem?_take, if_pos (by simp)] at this; simpa using this
  have hu1 : us[1]? = some v := by
    have : (us.toList.take (c0 :: .nils :: rest).length)[1]? = some v := by rw [hus]; rfl
    rw [List.getElem?_take, if_pos (by simp)] at this; simpa using this
  simp only [PR] at hv
  subst hv
  have hB : BldAt w g p (.slice none 0 0) us T1 := ⟨e3, hu0, hu1⟩
  have h1 := bld_string0 L X hB
  unfold Does
  have hcall : (callFunc (ρ.f 169) [Value.pointer (some ⟨g, 0, none⟩)].toArray).run P w = .ok (.enter (ρ.f 169) #[Value.pointer (some ⟨g, 0, none⟩)]) w := by
    obtain ⟨c, hc⟩ := Option.isSome_iff_exists.1 hbd
    have hn : ¬ (Body.n169 ρ).name = "runtime.NumGoroutine" := by simpa using hname
    simp [callFunc, L.f169, hc, hn]
  rw [hcall]
  refine h1.mono ?_
  rintro e w' ⟨he, rfl⟩
  refine ⟨_, he, S, gb, ⟨rfl, rfl, rfl, Nat.le_refl _, fun _ _ _ => rfl⟩, fun _ _ _ _ => rfl, Mem.le.refl _, fun _ _ => rfl, fun i hi hne => absurd (hnw i hi) hne, by simp [PR], ⟨?_, ?_, ?_, ?_, ?_, ?_, ?_, ?_⟩, ?_, ?_⟩
  · intro g1 o u hu
    exact hhr.agree _ _ _ hu
  · intro d' cs1 hcs1 hi
    simp only [lkB] at hcs1
    split at hcs1
    · rename_i e; subst e; cases hcs1
      exact ⟨g, us, T1, hg, e3, e0, e4, e5, e6⟩
    · cases hcs1
  · intro d' cs1 hcs1 hi
    simp only [lkB] at hcs1
    split at hcs1
    · rename_i e; subst e; rw [hit] at hi; cases hi
    · cases hcs1
  · intro d1 d2 g1 z1 z2 i1 i2 _ _
    simp only [lkB] at i1 i2
    split at i1
    · split at i2
      · rename_i e1 e2; rw [← e1, ← e2]
      · cases i2
    · cases i1
  · intro p1 k hk; simp [lkP] at hk
  · intro p1 p2 k1 k2 b1 h1; simp [lkP] at h1
  · intro p1 k b1 d' z1 hk; simp [lkP] at hk
  · intro d' off k hk; simp [lkP] at hk
  · intro i g1 z1 hi hgi
    simp only [lkB] at hi
    split at hi
    · rename_i e; subst e
      rw [hg] at hgi; cases hgi
      exact .inr (.inl ⟨b, _, by simp [lkB], hg⟩)
    · cases hi
  · intro p1 k g1 hk; simp [lkP] at hk
end Go.Ai
