/- YtmbnoejneocmmaaGreatDoorP6: part of the abstract interpreter library (values, rules, soundness against the model) or of what a function of the seat computes. Conditions: as each theorem says. -/
import Derived.Test.YtmbnoejneocmmaaGreatDoorP5
import Derived.Test.YtmbnoejneocmmaaGreatDoorP4
import Derived.Lib.Join
import Derived.Lib.ItoaNum
import Derived.Test.YtmbnoejneocmmaaGreatDoorP1
import Derived.Test.YtmbnoejneocmmaaGreatDoorP2
import Derived.Test.YtmbnoejneocmmaaGreatDoorAiShelf5
import Derived.Test.YtmbnoejneocmmaaGreatDoorCode
import Derived.Test.YtmbnoejneocmmaaGreatDoorAiShelf2
import Derived.Shelf.SlicesE.Compact
import Derived.Shelf.SortM.Plain
import Derived.Shelf.SortM.SortNone
set_option linter.unusedSimpArgs false
set_option linter.unusedVariables false
namespace Go.Ai
open Go.Proofs
end Go.Ai
set_option linter.unusedSimpArgs false
set_option linter.unusedVariables false
namespace Go.Ai
/-! ### A text between strokes, no program in sight -/
/-! ### Runes and strokes -/
theorem conts_all {s : List UInt8} {i : Nat} : ∀ {n : Nat}, conts s i n = true → ∀ k, 1 ≤ k → k ≤ n → cont s (i + k) = true
  | 0, _, k, h1, h2 => by omega
  | n + 1, h, k, h1, h2 => by
    simp only [conts, Bool.and_eq_true] at h
    rcases Nat.lt_or_ge k (n + 1) with h3 | h3
    · exact conts_all h.1 k h1 (by omega)
    · have : k = n + 1 := by omega
      subst this; exact h.2
/-! ### Keys' prints -/
end Go.Ai
set_option linter.unusedSimpArgs false
set_option linter.unusedVariables false
namespace Go.Ai
open Go.Proofs
/-! What Spl says of a stroke, of the end of a line. -/
theorem stepF_seg32 {s : List UInt8} {i n r0 least : Nat} (h : i < s.length) (hb : byt s i ≠ 32) : i + (stepF s i n r0 least).2 ≤ s.length ∧ ∀ j (hj : j < s.length), i ≤ j → j < i + (stepF s i n r0 least).2 → s[j] ≠ 32 := by
  have one : ∀ j (hj : j < s.length), i ≤ j → j < i + 1 → s[j] ≠ 32 := by
    intro j hj h1 h2 e
    obtain rfl : j = i := by omega
    rw [byt_at h, e] at hb; exact hb rfl
  unfold stepF
  split
  · rename_i hc
    simp only [Bool.and_eq_true] at hc
    refine ⟨?_, ?_⟩
    · simp only
      by_cases hn : n = 0
      · subst hn; omega
      · have := (cont_iff.1 (conts_all hc.1 n (by omega) (Nat.le_refl _))).1; omega
    · intro j hj h1 h2 e
      simp only at h2
      by_cases hji : j = i
      · exact one j hj h1 (by omega) e
      · have h3 := conts_all hc.1 (j - i) (by omega) (by omega)
        rw [show i + (j - i) = j by omega] at h3
        have h4 := (cont_iff.1 h3).2
        rw [byt_at hj, e] at h4
        simp at h4
  · exact ⟨by simp only; omega, fun j hj h1 h2 => one j hj h1 h2⟩
theorem rune_seg32 {s : List UInt8} {i : Nat} (h : i < s.length) (hb : s[i] ≠ 32) : (runeAt s i).1 ≠ 32 ∧ 1 ≤ (runeAt s i).2 ∧ i + (runeAt s i).2 ≤ s.length ∧ ∀ j (hj : j < s.length), i ≤ j → j < i + (runeAt s i).2 → s[j] ≠ 32 := by
  have hb2 : byt s i ≠ 32 := fun e => hb (UInt8.toNat.inj (by rw [← byt_at h, e]; rfl))
  have one : i + 1 ≤ s.length ∧ ∀ j (hj : j < s.length), i ≤ j → j < i + 1 → s[j] ≠ 32 := ⟨by omega, by
    intro j hj h1 h2 e
    obtain rfl : j = i := by omega
    exact hb e⟩
  have hst : i + (stepR s i).2 ≤ s.length ∧ ∀ j (hj : j < s.length), i ≤ j → j < i + (stepR s i).2 → s[j] ≠ 32 := by
    unfold stepR
    simp only
    split
    · exact one
    · split
      · exact stepF_seg32 h hb2
      · split
        · exact stepF_seg32 h hb2
        · split
          · exact stepF_seg32 h hb2
          · exact one
  refine ⟨?_, rune_pos, ?_, ?_⟩
  · by_cases g : s[i].toNat < 128
    · rw [rune_lo h g]
      simp only
      intro e
      exact hb (UInt8.toNat.inj (by have : s[i].toNat = 32 := by omega
                                    rw [this]; rfl))
    · have := rune_hi h g; omega
  · rw [step_rune s i h]; split
    · exact one.1
    · exact hst.1
  · rw [step_rune s i h]; split
    · exact one.2
    · exact hst.2
theorem nameGo_no32 : ∀ (l : List Int) (n : Nat) (last : Int), nameGo n last l = true → ∀ r ∈ l, r ≠ 32
  | [], _, _, _, r, hr => by simp at hr
  | x :: l, n, last, h, r, hr => by
    simp only [nameGo, Bool.and_eq_true] at h
    rcases List.mem_cons.1 hr with rfl | hr
    · rintro rfl
      have := h.1
      revert this
      simp [letter, digR]
    · exact nameGo_no32 l _ _ h.2 r hr
theorem runes_no32 (s : List UInt8) : ∀ (n i : Nat), s.length - i ≤ n → (∀ r ∈ runesL s i, r ≠ 32) → ∀ j (hj : j < s.length), i ≤ j → s[j] ≠ 32
  | 0, i, hn, _, j, hj, h => by omega
  | n + 1, i, hn, hr, j, hj, h => by
    have hi : i < s.length := by omega
    rw [runesL_in hi] at hr
    have hp := stepR_pos s i
    have h1 : (stepR s i).1 ≠ 32 := hr _ (by simp)
    have hb : s[i] ≠ 32 := by
      intro e
      apply h1
      unfold stepR
      simp only
      rw [byt_at hi, e]
      rw [if_pos (by decide)]; rfl
    have hs := rune_seg32 hi hb
    have hsr := step_rune s i hi
    have hk : (runeAt s i).2 = (stepR s i).2 := by
      rw [hsr]; split
      · rename_i e
        have : (stepR s i).2 = 1 := by
          revert e
          have lp : ∀ a r0 least, (stepF s i a r0 least).1 = -1 → (stepF s i a r0 least).2 = 1 := by
            intro a r0 least
            unfold stepF
            split
            · simp only; intro e; omega
            · simp
          unfold stepR
          simp only
          split
          · simp only; intro e; omega
          · split
            · exact lp _ _ _
            · split
              · exact lp _ _ _
              · split
                · exact lp _ _ _
                · simp
        rw [this]
      · rfl
    rw [hk] at hs
    rcases Nat.lt_or_ge j (i + (stepR s i).2) with h2 | h2
    · exact hs.2.2.2 j hj h h2
    · exact runes_no32 s n (i + (stepR s i).2) (by omega) (fun r hr' => hr r (by simp [hr'])) j hj h2
theorem nameT_no32 {s : List UInt8} (h : nameT s = true) : ∀ b ∈ s, b ≠ 32 := by
  intro b hb
  obtain ⟨j, hj, rfl⟩ := List.getElem_of_mem hb
  exact runes_no32 s s.length 0 (by omega) (nameGo_no32 _ _ _ h) j hj (Nat.zero_le _)
end Go.Ai
set_option linter.unusedSimpArgs false
set_option linter.unusedVariables false
namespace Go.Ai
open Go.Proofs Go.Shelf
theorem asc_gl : List.lookup 0 gl = some ((List.range 256).map fun c => Value.int .u8 (if Lib.isSp (UInt8.ofNat c) then 1 else 0)) := by kernel_rfl
def wordsT : List UInt8 := [99, 111, 109, 101, 115, 32, 115, 116, 97, 121, 115, 32, 116, 117, 114, 110, 115, 32, 103, 111, 101, 115]
def wordsW : List (List AV) := [[.str [99, 111, 109, 101, 115]], [.str [115, 116, 97, 121, 115]], [.str [116, 117, 114, 110, 115]], [.str [103, 111, 101, 115]]]
theorem fields_words : strRows (Lib.fields wordsT) = wordsW := by rfl
theorem fieldsW_spec : Sp Tryz.prog gl 158 [.str wordsT] (.sl wordsW) := by
  have := fields_shelf (GL := gl) laysFields (by kernel_rfl) (by kernel_rfl) (by kernel_rfl) asc_gl (fun c hc => by simp [hc]) wordsT (by decide) (by decide)
  rw [fields_words] at this
  exact this
theorem idx1_spec (s : List UInt8) (c : UInt8) : Sp Tryz.prog gl 212 [.str s, .str [c]] (i6 (Lib.indexByte s c)) :=
  idx1_shelf laysIdx (by kernel_rfl) (by kernel_rfl) s c
theorem ib_line (s : List UInt8) : Lib.indexByte s 10 = if (s.takeWhile notNl).length < s.length then ((s.takeWhile notNl).length : Int) else -1 := by
  rcases cutB 10 s with h | ⟨a, r, rfl, h⟩
  · have e : s.takeWhile notNl = s := tw_all fun b hb => by simp [notNl, h b hb]
    rw [ibB_none 10 s h, e, if_neg (Nat.lt_irrefl _)]
  · have e : (a ++ 10 :: r).takeWhile notNl = a := tw_app (by decide) fun b hb => by simp [notNl, h b hb]
    rw [ibB_some 10 a r h, e, if_pos (by simp)]
theorem take_twG {p : UInt8 → Bool} : ∀ (u : List UInt8), u.take (u.takeWhile p).length = u.takeWhile p
  | [] => rfl
  | b :: s => by
    rw [List.takeWhile_cons]
    split
    · rw [List.length_cons, List.take_succ_cons, take_twG s]
    · rfl
theorem take_tw : ∀ (s : List UInt8), s.take (s.takeWhile notNl).length = s.takeWhile notNl
  | [] => rfl
  | b :: s => by
    rw [List.takeWhile_cons]
    split
    · rw [List.length_cons, List.take_succ_cons, take_tw s]
    · rfl
def cutV (s : List UInt8) : AV := if (s.takeWhile notNl).length < s.length then .tup [.str (s.takeWhile notNl), .str (s.drop ((s.takeWhile notNl).length + 1)), .bool true] else .tup [.str s, .str [], .bool false]
theorem cut0_spec (s : List UInt8) (hl : s.length ≤ 1000000) : Sp Tryz.prog gl 159 [.str s, .str [10]] (cutV s) := by
  refine s159 rfl rfl ?_
  have IX := idx1_spec s 10
  rw [ib_line] at IX
  have ht := take_tw s
  unfold cutV
  by_cases h : (s.takeWhile notNl).length < s.length
  · rw [if_pos h] at IX ⊢
    generalize (s.takeWhile notNl).length = n at *
    have t1 : IntKind.i64.wrap ((n : Int) + 1) = (n + 1 : Nat) := by rw [wrap_i64] <;> omega
    have q1 : (0 : Int) ≤ n := by omega
    have q2 : (n : Int) ≤ s.length := by omega
    have q5 : n ≤ s.length := by omega
    have q3 : ((n + 1 : Nat) : Int) ≤ s.length := by omega
    have q4 : (0 : Int) ≤ ((n + 1 : Nat) : Int) := by omega
    have e1 : ((n + 1 : Nat) : Int).toNat = n + 1 := by omega
    have e2 : List.drop (n + 1) (s.take s.length) = s.drop (n + 1) := by rw [List.take_length]
    generalize ((n + 1 : Nat) : Int) = m at *
    simp -implicitDefEqProofs [c159]
    refine onC_mk _ IX ?_
    simp -implicitDefEqProofs [q1]
    simp only [t1]
    simp -implicitDefEqProofs [q1, q2, q3, q4, q5, e1, ht]
  · rw [if_neg h] at IX ⊢
    clear ht
    simp -implicitDefEqProofs [c159]
    refine onC_mk _ IX ?_
    simp -implicitDefEqProofs
theorem cut_spec (s : List UInt8) (hl : s.length ≤ 1000000) : Sp Tryz.prog gl 101 [.str s, .str [10]] (cutV s) := by
  refine s101 rfl rfl ?_
  have C := cut0_spec s hl
  unfold cutV at C ⊢
  by_cases h : (s.takeWhile notNl).length < s.length
  · rw [if_pos h] at C ⊢
    simp -implicitDefEqProofs [c101]
    refine onC_mk _ C ?_
    simp -implicitDefEqProofs
  · rw [if_neg h] at C ⊢
    simp -implicitDefEqProofs [c101]
    refine onC_mk _ C ?_
    simp -implicitDefEqProofs
end Go.Ai
set_option linter.unusedSimpArgs false
set_option linter.unusedVariables false
namespace Go.Ai
open Go.Proofs Go.Shelf
def ren_laysSort : Ren := {
  f := fun x => match x with
    | 5 => 225
    | 8 => 272
    | 7 => 271
    | 19 => 319
    | 20 => 285
    | 10 => 310
    | 11 => 311
    | 12 => 312
    | 13 => 313
    | 14 => 314
    | 15 => 315
    | 16 => 316
    | 17 => 317
    | 18 => 318
    | 30 => 337
    | 31 => 338
    | 32 => 339
    | 33 => 340
    | 34 => 341
    | 35 => 342
    | 40 => 349
    | n => n
  t := fun x => match x with
    | 23 => 201
    | 25 => 2
    | 3 => 3
    | 32 => 290
    | 22 => 201
    | 0 => 0
    | 44 => 22
    | 46 => 27
    | 4 => 4
    | 36 => 397
    | 35 => 396
    | 41 => 402
    | 5 => 5
    | 9 => 9
    | 53 => 421
    | 57 => 425
    | 63 => 432
    | 64 => 433
    | n => n
  g := fun x => x }
set_option maxRecDepth 100000 in
theorem laysSort : SlLaysM.n5 Tryz.prog ren_laysSort where
  mixed := by kernel_rfl
  f5 := ⟨Tryz.f225.name, by kernel_rfl, Eq.trans Tryz.func225 (congrArg some (show Tryz.f225 = { SlBodyM.n5 ren_laysSort with name := Tryz.f225.name } by kernel_rfl))⟩
  f7 := ⟨Tryz.f271.name, by kernel_rfl, Eq.trans Tryz.func271 (congrArg some (show Tryz.f271 = { SlBodyM.n7 ren_laysSort with name := Tryz.f271.name } by kernel_rfl))⟩
  f8 := Eq.trans Tryz.func272 (congrArg some (show Tryz.f272 = SlBodyM.n8 ren_laysSort by kernel_rfl))
  f10 := ⟨Tryz.f310.name, by kernel_rfl, Eq.trans Tryz.func310 (congrArg some (show Tryz.f310 = { SlBodyM.n10 ren_laysSort with name := Tryz.f310.name } by kernel_rfl))⟩
  f11 := ⟨Tryz.f311.name, by kernel_rfl, Eq.trans Tryz.func311 (congrArg some (show Tryz.f311 = { SlBodyM.n11 ren_laysSort with name := Tryz.f311.name } by kernel_rfl))⟩
  f12 := ⟨Tryz.f312.name, by kernel_rfl, Eq.trans Tryz.func312 (congrArg some (show Tryz.f312 = { SlBodyM.n12 ren_laysSort with name := Tryz.f312.name } by kernel_rfl))⟩
  f13 := ⟨Tryz.f313.name, by kernel_rfl, Eq.trans Tryz.func313 (congrArg some (show Tryz.f313 = { SlBodyM.n13 ren_laysSort with name := Tryz.f313.name } by kernel_rfl))⟩
  f14 := ⟨Tryz.f314.name, by kernel_rfl, Eq.trans Tryz.func314 (congrArg some (show Tryz.f314 = { SlBodyM.n14 ren_laysSort with name := Tryz.f314.name } by kernel_rfl))⟩
  f15 := ⟨Tryz.f315.name, by kernel_rfl, Eq.trans Tryz.func315 (congrArg some (show Tryz.f315 = { SlBodyM.n15 ren_laysSort with name := Tryz.f315.name } by kernel_rfl))⟩
  f16 := ⟨Tryz.f316.name, by kernel_rfl, Eq.trans Tryz.func316 (congrArg some (show Tryz.f316 = { SlBodyM.n16 ren_laysSort with name := Tryz.f316.name } by kernel_rfl))⟩
  f17 := ⟨Tryz.f317.name, by kernel_rfl, Eq.trans Tryz.func317 (congrArg some (show Tryz.f317 = { SlBodyM.n17 ren_laysSort with name := Tryz.f317.name } by kernel_rfl))⟩
  f18 := ⟨Tryz.f318.name, by kernel_rfl, Eq.trans Tryz.func318 (congrArg some (show Tryz.f318 = { SlBodyM.n18 ren_laysSort with name := Tryz.f318.name } by kernel_rfl))⟩
  f19 := Eq.trans Tryz.func319 (congrArg some (show Tryz.f319 = SlBodyM.n19 ren_laysSort by kernel_rfl))
  f20 := Eq.trans Tryz.func285 (congrArg some (show Tryz.f285 = SlBodyM.n20 ren_laysSort by kernel_rfl))
  f30 := ⟨Tryz.f337.name, by kernel_rfl, Eq.trans Tryz.func337 (congrArg some (show Tryz.f337 = { SlBodyM.n30 ren_laysSort with name := Tryz.f337.name } by kernel_rfl))⟩
  f31 := Eq.trans Tryz.func338 (congrArg some (show Tryz.f338 = SlBodyM.n31 ren_laysSort by kernel_rfl))
  f32 := Eq.trans Tryz.func339 (congrArg some (show Tryz.f339 = SlBodyM.n32 ren_laysSort by kernel_rfl))
  f33 := ⟨Tryz.f340.name, by kernel_rfl, Eq.trans Tryz.func340 (congrArg some (show Tryz.f340 = { SlBodyM.n33 ren_laysSort with name := Tryz.f340.name } by kernel_rfl))⟩
  f34 := ⟨Tryz.f341.name, by kernel_rfl, Eq.trans Tryz.func341 (congrArg some (show Tryz.f341 = { SlBodyM.n34 ren_laysSort with name := Tryz.f341.name } by kernel_rfl))⟩
  f35 := ⟨Tryz.f342.name, by kernel_rfl, Eq.trans Tryz.func342 (congrArg some (show Tryz.f342 = { SlBodyM.n35 ren_laysSort with name := Tryz.f342.name } by kernel_rfl))⟩
  f40 := ⟨Tryz.f349.name, by kernel_rfl, Eq.trans Tryz.func349 (congrArg some (show Tryz.f349 = { SlBodyM.n40 ren_laysSort with name := Tryz.f349.name } by kernel_rfl))⟩
  t0 := Tryz.underlying0
  a0 := Tryz.isAgg0
  z0 := Tryz.sizeOf0
  v0 := Tryz.zeroValue0
  t3 := Tryz.underlying3
  a3 := Tryz.isAgg3
  z3 := Tryz.sizeOf3
  v3 := Tryz.zeroValue3
  t4 := Tryz.underlying4
  a4 := Tryz.isAgg4
  z4 := Tryz.sizeOf4
  v4 := Tryz.zeroValue4
  t5 := Tryz.underlying5
  a5 := Tryz.isAgg5
  z5 := Tryz.sizeOf5
  v5 := Tryz.zeroValue5
  t9 := Tryz.underlying9
  a9 := Tryz.isAgg9
  z9 := Tryz.sizeOf9
  v9 := Tryz.zeroValue9
  t22 := Tryz.underlying201
  a22 := Tryz.isAgg201
  z22 := Tryz.sizeOf201
  v22 := Tryz.zeroValue201
  t23 := Tryz.underlying201
  a23 := Tryz.isAgg201
  z23 := Tryz.sizeOf201
  v23 := Tryz.zeroValue201
  t25 := Tryz.underlying2
  a25 := Tryz.isAgg2
  z25 := Tryz.sizeOf2
  v25 := Tryz.zeroValue2
  t32 := Tryz.underlying290
  a32 := Tryz.isAgg290
  z32 := Tryz.sizeOf290
  v32 := Tryz.zeroValue290
  t35 := Tryz.underlying396
  a35 := Tryz.isAgg396
  z35 := Tryz.sizeOf396
  v35 := Tryz.zeroValue396
  t36 := Tryz.underlying397
  a36 := Tryz.isAgg397
  z36 := Tryz.sizeOf397
  v36 := Tryz.zeroValue397
  t41 := Tryz.underlying402
  a41 := Tryz.isAgg402
  z41 := Tryz.sizeOf402
  v41 := Tryz.zeroValue402
  t44 := Tryz.underlying22
  a44 := Tryz.isAgg22
  z44 := Tryz.sizeOf22
  v44 := Tryz.zeroValue22
  t46 := Tryz.underlying27
  a46 := Tryz.isAgg27
  z46 := Tryz.sizeOf27
  v46 := Tryz.zeroValue27
  t53 := Tryz.underlying421
  a53 := Tryz.isAgg421
  z53 := Tryz.sizeOf421
  v53 := Tryz.zeroValue421
  t57 := Tryz.underlying425
  a57 := Tryz.isAgg425
  z57 := Tryz.sizeOf425
  v57 := Tryz.zeroValue425
  t63 := Tryz.underlying432
  a63 := Tryz.isAgg432
  z63 := Tryz.sizeOf432
  v63 := Tryz.zeroValue432
  t64 := Tryz.underlying433
  a64 := Tryz.isAgg433
  z64 := Tryz.sizeOf433
  v64 := Tryz.zeroValue433
def ren_laysCompact : Ren := {
  f := fun x => match x with
    | 43 => 226
    | n => n
  t := fun x => match x with
    | 22 => 201
    | 23 => 2
    | 3 => 3
    | 4 => 4
    | 0 => 0
    | n => n
  g := fun x => x }
set_option maxRecDepth 100000 in
theorem laysCompact : SlLaysE.n43 Tryz.prog ren_laysCompact where
  mixed := by kernel_rfl
  f43 := ⟨Tryz.f226.name, by kernel_rfl, Eq.trans Tryz.func226 (congrArg some (show Tryz.f226 = { SlBodyN.n43 ren_laysCompact with name := Tryz.f226.name } by kernel_rfl))⟩
  t0 := Tryz.underlying0
  a0 := Tryz.isAgg0
  z0 := Tryz.sizeOf0
  v0 := Tryz.zeroValue0
  t3 := Tryz.underlying3
  a3 := Tryz.isAgg3
  z3 := Tryz.sizeOf3
  v3 := Tryz.zeroValue3
  t4 := Tryz.underlying4
  a4 := Tryz.isAgg4
  z4 := Tryz.sizeOf4
  v4 := Tryz.zeroValue4
  t22 := Tryz.underlying201
  a22 := Tryz.isAgg201
  z22 := Tryz.sizeOf201
  v22 := Tryz.zeroValue201
  a23 := Tryz.isAgg2
  z23 := Tryz.sizeOf2
end Go.Ai
set_option linter.unusedSimpArgs false
set_option linter.unusedVariables false
namespace Go.Ai
open Go.Proofs
/-! ### Configs, no program in sight -/
structure Lb where
  n : List UInt8
  t : List UInt8
  deriving DecidableEq
structure Ru where
  n : List UInt8
  p : Bool
  l : Int
  s : Int
  f : Nat
  w : Int
  k : Int
  deriving DecidableEq
structure Gl where
  n : List UInt8
  t : Nat
  g : Int
  a : Int
  o : Int
  c : Int
  lb : List Lb
  ru : List Ru
  deriving DecidableEq
structure Cf where
  gs : List Gl
  r : Int
  v : Int
  i : Int
  x : Int
  y : Int
def Lb.row (x : Lb) : List AV := [.str x.n, .str x.t]
def Ru.row (x : Ru) : List AV := [.str x.n, .bool x.p, i6 x.l, i6 x.s, u x.f, i6 x.w, i6 x.k]
def Gl.row (x : Gl) : List AV := [.str x.n, .int .u32 x.t, i6 x.g, i6 x.a, i6 x.o, i6 x.c, .sl (x.lb.map Lb.row), .sl (x.ru.map Ru.row)]
def Cf.row (x : Cf) : List AV := [.sl (x.gs.map Gl.row), i6 x.r, i6 x.v, i6 x.i, i6 x.x, i6 x.y]
/-- How many unlike ones a list (the last first) has. -/
def distR {α : Type} [DecidableEq α] : List α → Nat
  | [] => 0
  | x :: r => distR r + if x ∈ r then 0 else 1
theorem distR_le {α : Type} [DecidableEq α] : ∀ l : List α, distR l ≤ l.length
  | [] => Nat.le_refl _
  | x :: r => by have := distR_le r; simp only [distR, List.length_cons]; split <;> omega
theorem distR_iff {α : Type} [DecidableEq α] : ∀ l : List α, distR l = l.length ↔ l.Nodup
  | [] => by simp [distR]
  | x :: r => by
    have h1 := distR_le r
    have h2 := distR_iff r
    simp only [distR, List.length_cons, List.nodup_cons]
    by_cases h : x ∈ r
    · rw [if_pos h]
      constructor
      · intro e; omega
      · intro e; exact absurd h e.1
    · rw [if_neg h, ← h2]
      constructor
      · intro e; exact ⟨h, by omega⟩
      · intro e; omega
def uniq (l : List (List UInt8)) : Bool := decide l.Nodup
theorem uniq_dist (l : List (List UInt8)) : (((distR l.reverse : Nat) : Int) == ((l.length : Nat) : Int)) = uniq l := by
  unfold uniq
  rw [Bool.eq_iff_iff]
  simp only [beq_iff_eq, decide_eq_true_eq]
  rw [show ((distR l.reverse : Nat) : Int) = ((l.length : Nat) : Int) ↔ distR l.reverse = l.reverse.length by rw [List.length_reverse]; omega, distR_iff]
  unfold List.Nodup
  rw [List.pairwise_reverse]
  constructor
  · intro h; exact h.imp (fun h => Ne.symm h)
  · intro h; exact h.imp (fun h => Ne.symm h)
/-! ### A map of counts -/
def cntV (l : List (List UInt8 × Nat)) : List (MK × MK) := l.map fun p => (.s p.1, .i .i64 p.2)
def bump (l : List (List UInt8 × Nat)) (n : List UInt8) : List (List UInt8 × Nat) := match l with
  | [] => [(n, 1)]
  | (m, c) :: r => if n = m then (m, c + 1) :: r else (m, c) :: bump r n
theorem bump_len (n : List UInt8) : ∀ l, (bump l n).length = l.length + if n ∈ l.map Prod.fst then 0 else 1
  | [] => by simp [bump]
  | (m, c) :: r => by
    simp only [bump]
    split
    · rename_i h; subst h; simp
    · rename_i h
      simp only [List.length_cons, List.map_cons, List.mem_cons, bump_len n r]
      by_cases h2 : n ∈ r.map Prod.fst
      · rw [if_pos h2, if_pos (.inr h2)]
      · rw [if_neg h2, if_neg (fun e => e.elim h h2)]
theorem bump_mem (n x : List UInt8) : ∀ l, x ∈ (bump l n).map Prod.fst ↔ x = n ∨ x ∈ l.map Prod.fst
  | [] => by simp [bump]
  | (m, c) :: r => by
    simp only [bump]
    split
    · rename_i h; subst h; simp
    · rename_i h
      simp only [List.map_cons, List.mem_cons, bump_mem n x r]
      constructor
      · rintro (h | h | h)
        · exact .inr (.inl h)
        · exact .inl h
        · exact .inr (.inr h)
      · rintro (h | h | h)
        · exact .inr (.inl h)
        · exact .inl h
        · exact .inr (.inr h)
theorem bump_le (n : List UInt8) (N : Nat) : ∀ l, (∀ p ∈ l, p.2 ≤ N) → ∀ p ∈ bump l n, p.2 ≤ N + 1
  | [], _, p, hp => by simp only [bump, List.mem_singleton] at hp; subst hp; simp
  | (m, c) :: r, h, p, hp => by
    simp only [bump] at hp
    have h1 := h (m, c) (by simp)
    simp only at h1
    split at hp
    · rcases List.mem_cons.1 hp with rfl | hp
      · simp only; omega
      · have := h p (by simp [hp]); omega
    · rcases List.mem_cons.1 hp with rfl | hp
      · simp only; omega
      · exact bump_le n N r (fun q hq => h q (by simp [hq])) p hp
/-- What a look finds, and what the entry behind 'm[n]++' is. -/
theorem cnt_find (n : List UInt8) : ∀ (l : List (List UInt8 × Nat)) (i : Nat),
    (mfind (.s n) (cntV l) i = some none ∧ cntV (bump l n) = cntV l ++ [(.s n, .i .i64 1)]) ∨ ∃ j c, (n, c) ∈ l ∧ mfind (.s n) (cntV l) i = some (some (i + j, .i .i64 (c : Nat))) ∧ mset (cntV l) j (.i .i64 ((c + 1 : Nat) : Int)) = cntV (bump l n)
  | [], i => .inl ⟨rfl, rfl⟩
  | (m, c) :: r, i => by
    have e : cntV ((m, c) :: r) = (.s m, .i .i64 c) :: cntV r := rfl
    rw [e]
    simp only [mfind, MK.same, bump]
    by_cases h : n = m
    · subst h
      refine .inr ⟨0, c, by simp, ?_, ?_⟩
      · simp
      · rw [if_pos rfl]; rfl
    · have hb : (n == m) = false := by simpa using h
      rw [hb, if_neg h]
      rcases cnt_find n r (i + 1) with ⟨h1, h2⟩ | ⟨j, c', h0, h1, h2⟩
      · refine .inl ⟨by simp [h1], ?_⟩
        show (MK.s m, MK.i .i64 (c : Int)) :: cntV (bump r n) = _
        rw [h2]; rfl
      · refine .inr ⟨j + 1, c', by simp [h0], ?_, ?_⟩
        · simp only [h1]; rw [show i + 1 + j = i + (j + 1) by omega]
        · show mset _ (j + 1) _ = (MK.s m, MK.i .i64 (c : Int)) :: cntV (bump r n)
          rw [← h2]; rfl
end Go.Ai
