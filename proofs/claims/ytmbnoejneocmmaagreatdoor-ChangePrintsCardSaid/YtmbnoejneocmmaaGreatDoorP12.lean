/- YtmbnoejneocmmaaGreatDoorP12: part of the abstract interpreter library (values, rules, soundness against the model) or of what a function of the seat computes. Conditions: as each theorem says. -/
import Derived.Test.YtmbnoejneocmmaaGreatDoorP11
import Derived.Test.YtmbnoejneocmmaaGreatDoorP6
set_option linter.unusedSimpArgs false
set_option linter.unusedVariables false
namespace Go.Ai
open Go.Proofs
end Go.Ai
set_option linter.unusedSimpArgs false
set_option linter.unusedVariables false
namespace Go.Ai
open Go.Proofs
/-! ### The turns, as triples -/
abbrev Tr := List UInt8 × List UInt8 × Int
def trow (t : Tr) : List AV := tn t.1 t.2.1 t.2.2
end Go.Ai
set_option linter.unusedSimpArgs false
set_option linter.unusedVariables false
namespace Go.Ai
open Go.Proofs
set_option maxRecDepth 20000 in
theorem sameT_spec (l : List Tr) (hl : l.length ≤ 1000000) : Sp Tryz.prog gl 38 [.sl (l.map trow), .sl (l.map trow)] (.bool true) := by
  refine s38 rfl rfl ?_
  have rl : (l.map trow).length = l.length := by simp
  have rat : ∀ i (h : i < l.length), ∀ h2, (l.map trow)[i]'h2 = [.str l[i].1, .str l[i].2.1, i6 l[i].2.2] := fun i h h2 => by simp [trow, tn]
  generalize l.map trow = RR at *
  simp -implicitDefEqProofs [c38, rl]
  refine wp_lpk (α := Nat) (fun i => ⟨[(0, .sl RR), (1, .sl RR), (5, i6 i)], [], []⟩) (fun i => i ≤ l.length) (fun i => l.length - i) ?_ 0 ?_ ?_
  · rintro K i hK h1
    by_cases g : i < l.length
    · have t1 : IntKind.i64.wrap ((i : Int) + 1) = (i + 1 : Nat) := by rw [wrap_i64] <;> omega
      have ra := rat i g
      have gR : i < RR.length := by omega
      have fin : ∀ σ', Weak σ' ⟨[(0, .sl RR), (1, .sl RR), (5, i6 (i + 1 : Nat))], [], []⟩ → K σ' :=
        fun σ' hσ => hK (i + 1) σ' (by omega) (by omega) hσ
      clear hK rat
      generalize l[i] = x at *
      simp -implicitDefEqProofs [g, gR, ra, rl, t1, cellsEq, cellEq]
      refine fin _ ?_
      refine weak_mk ?_ ?_ ?_ ?_ ?_ ?_ <;> simp -implicitDefEqProofs [t1]
    · obtain rfl : i = l.length := by omega
      clear hK
      simp -implicitDefEqProofs [rl]
  · exact Nat.zero_le _
  · refine weak_mk ?_ ?_ ?_ ?_ ?_ ?_ <;> simp -implicitDefEqProofs
end Go.Ai
set_option linter.unusedSimpArgs false
set_option linter.unusedVariables false
namespace Go.Ai
open Go.Proofs
/-! What Spl says of a stroke, of the end of a line. -/
theorem stepF_seg10 {s : List UInt8} {i n r0 least : Nat} (h : i < s.length) (hb : byt s i ≠ 10) : i + (stepF s i n r0 least).2 ≤ s.length ∧ ∀ j (hj : j < s.length), i ≤ j → j < i + (stepF s i n r0 least).2 → s[j] ≠ 10 := by
  have one : ∀ j (hj : j < s.length), i ≤ j → j < i + 1 → s[j] ≠ 10 := by
    intro j hj h1 h2 e
    obtain rfl : j = i := by omega
    rw [byt_at h, e] at hb; exact hb rfl
  unfold stepF
  split
  · rename_i hc
    simp only [Bool.and_eq_true] at hc
    refine ⟨?_, ?_⟩
    · simp only
      by_cases hn : n = 0
      · subst hn; omega
      · have := (cont_iff.1 (conts_all hc.1 n (by omega) (Nat.le_refl _))).1; omega
    · intro j hj h1 h2 e
      simp only at h2
      by_cases hji : j = i
      · exact one j hj h1 (by omega) e
      · have h3 := conts_all hc.1 (j - i) (by omega) (by omega)
        rw [show i + (j - i) = j by omega] at h3
        have h4 := (cont_iff.1 h3).2
        rw [byt_at hj, e] at h4
        simp at h4
  · exact ⟨by simp only; omega, fun j hj h1 h2 => one j hj h1 h2⟩
theorem rune_seg10 {s : List UInt8} {i : Nat} (h : i < s.length) (hb : s[i] ≠ 10) : (runeAt s i).1 ≠ 10 ∧ 1 ≤ (runeAt s i).2 ∧ i + (runeAt s i).2 ≤ s.length ∧ ∀ j (hj : j < s.length), i ≤ j → j < i + (runeAt s i).2 → s[j] ≠ 10 := by
  have hb2 : byt s i ≠ 10 := fun e => hb (UInt8.toNat.inj (by rw [← byt_at h, e]; rfl))
  have one : i + 1 ≤ s.length ∧ ∀ j (hj : j < s.length), i ≤ j → j < i + 1 → s[j] ≠ 10 := ⟨by omega, by
    intro j hj h1 h2 e
    obtain rfl : j = i := by omega
    exact hb e⟩
  have hst : i + (stepR s i).2 ≤ s.length ∧ ∀ j (hj : j < s.length), i ≤ j → j < i + (stepR s i).2 → s[j] ≠ 10 := by
    unfold stepR
    simp only
    split
    · exact one
    · split
      · exact stepF_seg10 h hb2
      · split
        · exact stepF_seg10 h hb2
        · split
          · exact stepF_seg10 h hb2
          · exact one
  refine ⟨?_, rune_pos, ?_, ?_⟩
  · by_cases g : s[i].toNat < 128
    · rw [rune_lo h g]
      simp only
      intro e
      exact hb (UInt8.toNat.inj (by have : s[i].toNat = 10 := by omega
                                    rw [this]; rfl))
    · have := rune_hi h g; omega
  · rw [step_rune s i h]; split
    · exact one.1
    · exact hst.1
  · rw [step_rune s i h]; split
    · exact one.2
    · exact hst.2
theorem nameGo_no10 : ∀ (l : List Int) (n : Nat) (last : Int), nameGo n last l = true → ∀ r ∈ l, r ≠ 10
  | [], _, _, _, r, hr => by simp at hr
  | x :: l, n, last, h, r, hr => by
    simp only [nameGo, Bool.and_eq_true] at h
    rcases List.mem_cons.1 hr with rfl | hr
    · rintro rfl
      have := h.1
      revert this
      simp [letter, digR]
    · exact nameGo_no10 l _ _ h.2 r hr
theorem runes_no10 (s : List UInt8) : ∀ (n i : Nat), s.length - i ≤ n → (∀ r ∈ runesL s i, r ≠ 10) → ∀ j (hj : j < s.length), i ≤ j → s[j] ≠ 10
  | 0, i, hn, _, j, hj, h => by omega
  | n + 1, i, hn, hr, j, hj, h => by
    have hi : i < s.length := by omega
    rw [runesL_in hi] at hr
    have hp := stepR_pos s i
    have h1 : (stepR s i).1 ≠ 10 := hr _ (by simp)
    have hb : s[i] ≠ 10 := by
      intro e
      apply h1
      unfold stepR
      simp only
      rw [byt_at hi, e]
      rw [if_pos (by decide)]; rfl
    have hs := rune_seg10 hi hb
    have hsr := step_rune s i hi
    have hk : (runeAt s i).2 = (stepR s i).2 := by
      rw [hsr]; split
      · rename_i e
        have : (stepR s i).2 = 1 := by
          revert e
          have lp : ∀ a r0 least, (stepF s i a r0 least).1 = -1 → (stepF s i a r0 least).2 = 1 := by
            intro a r0 least
            unfold stepF
            split
            · simp only; intro e; omega
            · simp
          unfold stepR
          simp only
          split
          · simp only; intro e; omega
          · split
            · exact lp _ _ _
            · split
              · exact lp _ _ _
              · split
                · exact lp _ _ _
                · simp
        rw [this]
      · rfl
    rw [hk] at hs
    rcases Nat.lt_or_ge j (i + (stepR s i).2) with h2 | h2
    · exact hs.2.2.2 j hj h h2
    · exact runes_no10 s n (i + (stepR s i).2) (by omega) (fun r hr' => hr r (by simp [hr'])) j hj h2
theorem nameT_no10 {s : List UInt8} (h : nameT s = true) : ∀ b ∈ s, b ≠ 10 := by
  intro b hb
  obtain ⟨j, hj, rfl⟩ := List.getElem_of_mem hb
  exact runes_no10 s s.length 0 (by omega) (nameGo_no10 _ _ _ h) j hj (Nat.zero_le _)
end Go.Ai
set_option linter.unusedSimpArgs false
set_option linter.unusedVariables false
namespace Go.Ai
open Go.Proofs
theorem nmOk : NamesOk nameT := ⟨by unfold nameT; rw [runesL_out (by simp)]; rfl, fun s h b hb => ⟨nameT_no32 h b hb, nameT_no10 h b hb⟩⟩
theorem wW_at {i : Nat} (h : i < 4) : ∀ h2, wordsW[i]'h2 = [.str (wdK ((i + 1 : Nat) : Int))] := by
  have : i = 0 ∨ i = 1 ∨ i = 2 ∨ i = 3 := by omega
  rcases this with rfl | rfl | rfl | rfl <;> intro _ <;> rfl
set_option maxRecDepth 20000 in
theorem word_spec (k : Int) : Sp Tryz.prog gl 99 [i6 k] (.str (wdK k)) := by
  refine s99 rfl rfl ?_
  have F := fieldsW_spec
  have rl : wordsW.length = 4 := rfl
  have rat := @wW_at
  unfold wordsT at F
  generalize wordsW = W at *
  simp -implicitDefEqProofs [c99]
  refine onC_mk _ F ?_
  simp -implicitDefEqProofs [rl]
  refine wp_lpk (α := Nat) (fun i => ⟨[(0, i6 k), (5, .sl W), (6, i6 4), (7, i6 i)], [], []⟩) (fun i => i ≤ 4 ∧ (k < 1 ∨ (i : Int) < k)) (fun i => 4 - i) ?_ 0 ?_ ?_
  · rintro K i hK ⟨h1, h2⟩
    by_cases g : i < 4
    · have t1 : IntKind.i64.wrap ((i : Int) + 1) = (i + 1 : Nat) := by rw [wrap_i64] <;> omega
      have ra := @rat i g
      have gR : i < W.length := by omega
      have g2 : (i : Int) < 4 := by omega
      by_cases hk : ((i + 1 : Nat) : Int) = k
      · subst hk
        clear hK F rat h2
        generalize ((i + 1 : Nat) : Int) = m at *
        simp -implicitDefEqProofs [g2, gR, ra, t1]
      · have hb : (((i + 1 : Nat) : Int) == k) = false := by rw [beq_eq_false_iff_ne]; exact hk
        have fin : ∀ σ', Weak σ' ⟨[(0, i6 k), (5, .sl W), (6, i6 4), (7, i6 (i + 1 : Nat))], [], []⟩ → K σ' :=
          fun σ' hσ => hK (i + 1) σ' ⟨by omega, by omega⟩ (by omega) hσ
        clear hK F rat
        generalize ((i + 1 : Nat) : Int) = m at *
        simp -implicitDefEqProofs [g2, gR, ra, t1, hb]
        refine fin _ ?_
        refine weak_mk ?_ ?_ ?_ ?_ ?_ ?_ <;> simp -implicitDefEqProofs [t1]
    · obtain rfl : i = 4 := by omega
      have e : wdK k = [] := by
        apply Classical.byContradiction
        intro hne
        have := wdK_ne.1 hne
        omega
      rw [e]
      clear hK F rat
      simp -implicitDefEqProofs
  · exact ⟨Nat.zero_le _, by omega⟩
  · refine weak_mk ?_ ?_ ?_ ?_ ?_ ?_ <;> simp -implicitDefEqProofs
set_option maxRecDepth 20000 in
theorem sindex_spec (w : List UInt8) : Sp Tryz.prog gl 214 [.sl wordsW, .str w] (i6 (kwd w - 1)) := by
  refine s214 rfl rfl ?_
  have rl : wordsW.length = 4 := rfl
  have rat := @wW_at
  have ki := kwd_in w
  generalize wordsW = W at *
  simp -implicitDefEqProofs [c214, rl]
  refine wp_lpk (α := Nat) (fun i => ⟨[(0, .sl W), (1, .str w), (7, i6 4), (8, i6 i)], [], []⟩) (fun i => i ≤ 4 ∧ (kwd w < 1 ∨ (i : Int) < kwd w)) (fun i => 4 - i) ?_ 0 ?_ ?_
  · rintro K i hK ⟨h1, h2⟩
    by_cases g : i < 4
    · have t1 : IntKind.i64.wrap ((i : Int) + 1) = (i + 1 : Nat) := by rw [wrap_i64] <;> omega
      have ra := @rat i g
      have gR : i < W.length := by omega
      have g2 : (i : Int) < 4 := by omega
      by_cases hk : w = wdK ((i + 1 : Nat) : Int)
      · have hkw : kwd w = ((i + 1 : Nat) : Int) := by rw [hk]; exact kwd_wdK (by omega) (by omega)
        have e : kwd w - 1 = (i : Int) := by omega
        rw [e]
        have hb : (w == wdK ((i + 1 : Nat) : Int)) = true := by rw [← hk]; simp
        clear hK rat h2 hk hkw e ki
        generalize wdK ((i + 1 : Nat) : Int) = m at *
        simp -implicitDefEqProofs [g2, gR, ra, hb]
      · have hb : (w == wdK ((i + 1 : Nat) : Int)) = false := by rw [beq_eq_false_iff_ne]; exact hk
        have hne : kwd w ≠ ((i + 1 : Nat) : Int) := fun e => hk (by rw [← e]; exact (wdK_kwd (by omega)).symm)
        have fin : ∀ σ', Weak σ' ⟨[(0, .sl W), (1, .str w), (7, i6 4), (8, i6 (i + 1 : Nat))], [], []⟩ → K σ' :=
          fun σ' hσ => hK (i + 1) σ' ⟨by omega, by omega⟩ (by omega) hσ
        clear hK rat h2 hk hne ki
        generalize wdK ((i + 1 : Nat) : Int) = m at *
        simp -implicitDefEqProofs [g2, gR, ra, hb]
        refine fin _ ?_
        refine weak_mk ?_ ?_ ?_ ?_ ?_ ?_ <;> simp -implicitDefEqProofs [t1]
    · obtain rfl : i = 4 := by omega
      have e : kwd w - 1 = -1 := by omega
      rw [e]
      clear hK rat ki h2 e
      simp -implicitDefEqProofs
  · exact ⟨Nat.zero_le _, by omega⟩
  · refine weak_mk ?_ ?_ ?_ ?_ ?_ ?_ <;> simp -implicitDefEqProofs
theorem kindOf_spec (w : List UInt8) : Sp Tryz.prog gl 161 [.str w] (i6 (kwd w)) := by
  refine s161 rfl rfl ?_
  have F := fieldsW_spec
  have X := sindex_spec w
  have ki := kwd_in w
  have t1 : IntKind.i64.wrap (1 + (kwd w - 1)) = kwd w := by rw [wrap_i64] <;> omega
  unfold wordsT at F
  generalize wordsW = W at *
  generalize kwd w = k at *
  simp -implicitDefEqProofs [c161]
  refine onC_mk _ F ?_
  simp -implicitDefEqProofs
  refine onC_mk _ X ?_
  simp -implicitDefEqProofs [t1]
theorem cright_spec (t : Tu) (h1 : t.1.length ≤ 900000) (h2 : t.2.1.length ≤ 900000) : Sp Tryz.prog gl 97 [.agg (trow t)] (.bool (rightT nameT t)) := by
  refine s97 rfl rfl ?_
  obtain ⟨g, r, k⟩ := t
  have W := word_spec k
  have N1 := tname_spec g h1
  have N2 := tname_spec r h2
  have hx : trow (g, r, k) = [.str g, .str r, i6 k] := rfl
  rw [hx]
  have e0 : rightT nameT (g, r, k) = (decide (1 ≤ k ∧ k ≤ 4) && (nameT g && (decide (r = []) || nameT r))) := rfl
  rw [e0]
  by_cases hk : 1 ≤ k ∧ k ≤ 4
  · have hb : (wdK k == []) = false := by rw [beq_eq_false_iff_ne]; exact wdK_ne.2 hk
    have hd : decide (1 ≤ k ∧ k ≤ 4) = true := decide_eq_true hk
    rw [hd]
    generalize wdK k = w at *
    generalize nameT g = b1 at *
    generalize nameT r = b2 at *
    simp -implicitDefEqProofs [c97]
    refine onC_mk _ W ?_
    simp -implicitDefEqProofs [hb]
    refine onC_mk _ N1 ?_
    cases b1
    · simp -implicitDefEqProofs
    · cases r with
      | nil => simp -implicitDefEqProofs
      | cons c r =>
        simp -implicitDefEqProofs
        refine onC_mk _ N2 ?_
        simp -implicitDefEqProofs
  · have hb : wdK k = [] := by
      apply Classical.byContradiction
      intro hne
      exact hk (wdK_ne.1 hne)
    have hd : decide (1 ≤ k ∧ k ≤ 4) = false := decide_eq_false hk
    rw [hd]
    rw [hb] at W
    simp -implicitDefEqProofs [c97]
    refine onC_mk _ W ?_
    simp -implicitDefEqProofs
end Go.Ai
set_option linter.unusedSimpArgs false
set_option linter.unusedVariables false
namespace Go.Ai
open Go.Proofs
theorem spb_lens (c : UInt8) : ∀ (s cur : List UInt8), (∀ x ∈ spb c cur s, x.length ≤ cur.length + s.length)
  | [], cur, x, hx => by simp [spb] at hx; subst hx; simp
  | b :: r, cur, x, hx => by
    simp only [spb] at hx
    split at hx
    · rcases List.mem_cons.1 hx with rfl | hx
      · simp
      · have := spb_lens c r [] x hx
        simp at this ⊢; omega
    · have := spb_lens c r _ x hx
      simp at this ⊢; omega
theorem trow3 (g r : List UInt8) (k : Int) : trow (g, r, k) = [.str g, .str r, i6 k] := rfl
set_option maxRecDepth 20000 in
theorem turn_spec (s : List UInt8) (hl : s.length ≤ 900000) : Sp Tryz.prog gl 102 [.str s] (.tup [.agg (trow (turnV nameT s).1), .bool (turnV nameT s).2]) := by
  refine s102 rfl rfl ?_
  have SP := split1_spec s 32 (by omega)
  rw [split_spb] at SP
  have ln := spb_lens 32 s []
  rcases hw : spb 32 [] s with _ | ⟨x, _ | ⟨y, _ | ⟨z, _ | ⟨u, v⟩⟩⟩⟩
  · exact absurd hw (spb_ne 32 s [])
  · have e : turnV nameT s = (([], [], 0), false) := by simp [turnV, hw]
    rw [e, trow3]
    rw [hw] at SP
    simp -implicitDefEqProofs [c102]
    refine onC_mk _ SP ?_
    simp -implicitDefEqProofs [strRows]
  · have e : turnV nameT s = ((y, [], kwd x), rightT nameT (y, [], kwd x)) := by simp [turnV, hw]
    have ly := ln y (by rw [hw]; simp)
    rw [e]
    rw [hw] at SP
    have K := kindOf_spec x
    have R := cright_spec (y, [], kwd x) (by simp at ly; simp only; omega) (by simp)
    generalize rightT nameT (y, [], kwd x) = ok at *
    rw [trow3] at R ⊢
    generalize kwd x = k at *
    simp -implicitDefEqProofs [c102]
    refine onC_mk _ SP ?_
    simp -implicitDefEqProofs [strRows]
    refine onC_mk _ K ?_
    simp -implicitDefEqProofs
    refine onC_mk _ R ?_
    cases ok <;> simp -implicitDefEqProofs
  · have e : turnV nameT s = ((y, z, kwd x), rightT nameT (y, z, kwd x) && decide (z ≠ [])) := by simp [turnV, hw]
    have ly := ln y (by rw [hw]; simp)
    have lz := ln z (by rw [hw]; simp)
    rw [e]
    rw [hw] at SP
    have K := kindOf_spec x
    have R := cright_spec (y, z, kwd x) (by simp at ly; simp only; omega) (by simp at lz; simp only; omega)
    generalize rightT nameT (y, z, kwd x) = ok at *
    rw [trow3] at R ⊢
    generalize kwd x = k at *
    simp -implicitDefEqProofs [c102]
    refine onC_mk _ SP ?_
    simp -implicitDefEqProofs [strRows]
    refine onC_mk _ K ?_
    simp -implicitDefEqProofs
    refine onC_mk _ R ?_
    cases ok
    · simp -implicitDefEqProofs
    · cases z <;> simp -implicitDefEqProofs
  · have e : turnV nameT s = (([], [], 0), false) := by simp [turnV, hw]
    rw [e, trow3]
    rw [hw] at SP
    have hL : (strRows (x :: y :: z :: u :: v)).length = v.length + 4 := by simp [strRows]
    generalize strRows (x :: y :: z :: u :: v) = L at *
    have q1 : ¬ ((L.length : Int) < 2) := by omega
    have q2 : (3 : Int) < L.length := by omega
    have q3 : ¬ (L.length < 2) := by omega
    have q4 : 3 < L.length := by omega
    simp -implicitDefEqProofs [c102]
    refine onC_mk _ SP ?_
    simp -implicitDefEqProofs [q1, q2, q3, q4]
def rdV : Option (List Tu) → AV
  | some l => .tup [.sl (l.map trow), i6 0]
  | none => .tup [.sl [], i6 5]
set_option maxRecDepth 20000 in
theorem cread_spec (s : List UInt8) (hl : s.length ≤ 200000) : Sp Tryz.prog gl 37 [.str s] (rdV (rdT nameT s)) := by
  refine s37 rfl rfl ?_
  have hlim : lim = 140737488355328 := rfl
  obtain ⟨R, hR⟩ : ∃ R, R = rdT nameT s := ⟨_, rfl⟩
  rw [← hR]
  simp -implicitDefEqProofs [c37]
  refine wp_lpk (α := List UInt8 × List Tu) (fun x => ⟨[(0, .str x.1), (4, .sl (x.2.map trow))], [], [(.s 4, 3)]⟩)
    (fun x => x.1.length + x.2.length ≤ s.length ∧ (rdT nameT x.1).map (x.2 ++ ·) = R) (fun x => x.1.length) ?_ (s, []) ?_ ?_
  · rintro K ⟨w, acc⟩ hK ⟨h1, h2⟩
    simp only at h1 h2
    by_cases g : w = []
    · subst g
      rw [rdT_nil] at h2
      simp only [Option.map_some, List.append_nil] at h2
      subst h2
      clear hK
      unfold rdV
      simp only
      generalize acc.map trow = A at *
      simp -implicitDefEqProofs
    · have g0 : (w == []) = false := by rw [beq_eq_false_iff_ne]; exact g
      have C := cut_spec w (by omega)
      unfold cutV at C
      have hstep : lnP nameT w = if (w.takeWhile notNl).length < w.length ∧ (turnV nameT (w.takeWhile notNl)).2 = true then some ((turnV nameT (w.takeWhile notNl)).1, w.drop ((w.takeWhile notNl).length + 1)) else none := rfl
      have hA3 : ∀ r ∈ acc.map trow, r.length = 3 := by
        intro r hr
        obtain ⟨⟨a, b, c⟩, _, rfl⟩ := List.mem_map.1 hr
        rfl
      have hAl : (acc.map trow).length = acc.length := by simp
      have hfin : ∀ t r', lnP nameT w = some (t, r') → ∀ σ', Weak σ' ⟨[(0, .str r'), (4, .sl (acc.map trow ++ [trow t]))], [], [(.s 4, 3)]⟩ → K σ' := by
        intro t r' ht σ' hσ
        have hlt := lnP_lt ht
        refine hK (r', acc ++ [t]) σ' ⟨by simp; omega, ?_⟩ hlt ?_
        · rw [rdT_some ht] at h2
          rw [← h2]
          cases rdT nameT r' <;> simp
        · simpa using hσ
      have hll : (acc.length + 1) * 40 ≤ 140737488355328 := by omega
      have hbad : lnP nameT w = none → R = none := by
        intro hn
        rw [rdT_none g hn] at h2
        exact h2.symm
      have htw := take_tw w
      by_cases hc : (w.takeWhile notNl).length < w.length
      · rw [if_pos hc] at C
        have T := turn_spec (w.takeWhile notNl) (by omega)
        generalize w.takeWhile notNl = a at *
        obtain ⟨⟨⟨tg, tr, tk⟩, ok⟩, htv⟩ : ∃ p, turnV nameT a = p := ⟨_, rfl⟩
        rw [htv] at T hstep
        simp only at T hstep
        rw [trow3] at T
        generalize w.drop (a.length + 1) = r' at *
        cases ok
        · have hn := hbad (by rw [hstep, if_neg (by simp)])
          subst hn
          clear hK hfin hbad hstep h2 hR
          unfold rdV
          generalize acc.map trow = A at *
          simp -implicitDefEqProofs [g0]
          refine onC_mk _ C ?_
          simp -implicitDefEqProofs
          refine onC_mk _ T ?_
          simp -implicitDefEqProofs
        · have fin := hfin (tg, tr, tk) r' (by rw [hstep, if_pos ⟨hc, rfl⟩])
          rw [trow3] at fin
          clear hK hfin hbad hstep h2 hR
          rw [← hAl] at hll
          generalize acc.map trow = A at *
          simp -implicitDefEqProofs [g0]
          refine onC_mk _ C ?_
          simp -implicitDefEqProofs
          refine onC_mk _ T ?_
          simp -implicitDefEqProofs [hlim, hll]
          refine ⟨hA3, ?_⟩
          refine fin _ ?_
          refine weak_mk ?_ ?_ ?_ ?_ ?_ ?_ <;> simp -implicitDefEqProofs
      · rw [if_neg hc] at C
        have T := turn_spec w (by omega)
        have hn := hbad (by rw [hstep, if_neg (fun h => hc h.1)])
        subst hn
        obtain ⟨⟨⟨tg, tr, tk⟩, ok⟩, htv⟩ : ∃ p, turnV nameT w = p := ⟨_, rfl⟩
        rw [htv] at T
        simp only at T
        rw [trow3] at T
        clear hK hfin hbad hstep h2 hR
        unfold rdV
        generalize acc.map trow = A at *
        simp -implicitDefEqProofs [g0]
        refine onC_mk _ C ?_
        simp -implicitDefEqProofs
        refine onC_mk _ T ?_
        cases ok <;> simp -implicitDefEqProofs
  · refine ⟨by simp, ?_⟩
    rw [hR]
    cases rdT nameT s <;> simp
  · refine weak_mk ?_ ?_ ?_ ?_ ?_ ?_ <;> simp -implicitDefEqProofs
end Go.Ai
