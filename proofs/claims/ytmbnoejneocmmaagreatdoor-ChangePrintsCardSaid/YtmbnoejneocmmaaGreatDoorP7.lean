/- YtmbnoejneocmmaaGreatDoorP7: part of the abstract interpreter library (values, rules, soundness against the model) or of what a function of the seat computes. Conditions: as each theorem says. -/
import Derived.Test.YtmbnoejneocmmaaGreatDoorP6
import Derived.Lib.TrimUEq
import Derived.Lib.ValidU
import Derived.Lib.MapLaws
import Derived.Test.YtmbnoejneocmmaaGreatDoorP1
set_option linter.unusedSimpArgs false
set_option linter.unusedVariables false
namespace Go.Ai
open Go.Proofs
/-- 'unlike' at elements of 'sz' cells. -/
def cUnlike (sz : Nat) (z : List AV) : AC :=
 (.sq (.rg [.mv 4 (.c (.bool false))])
  (.sq (.rg [.mkp 8,
   .mv 5 (.s 8)])
  (.sq (.sq (.rg [.mv 9 (.s 0),
   .ln 10 (.s 9),
   .mv 11 (.c (.int .i64 0))])
  (.bl 0 (.lp (.sq (.rg [.bi 12 .lss (.s 11) (.s 10)])
  (.sq (.cd (.s 12) .sk (.ex 0))
  (.sq (.bl 1 (.sq (.rg [.ia 13 sz (.s 9) (.s 11),
   .lda 14 sz (.s 13),
   .al 7 z,
   .st sz (.s 7) (.s 14)])
  (.rg [.mv 15 (.s 5),
   .mv 16 (.s 1),
   .lda 17 sz (.s 7),
   .cd 18 (.s 16) [(.s 17)],
   .mlk 19 .s (.i .i64 0) (.s 15) (.s 18) false,
   .bi 20 .add (.s 19) (.c (.int .i64 1)),
   .mup .s (.s 15) (.s 18) (.s 20)])))
  (.rg [.bi 21 .add (.s 11) (.c (.int .i64 1)),
   .mv 11 (.s 21)])))))))
  (.sq (.rg [.mv 22 (.s 5),
   .mpl 23 (.s 22),
   .mv 24 (.s 0),
   .ln 25 (.s 24),
   .bi 26 .eql (.s 23) (.s 25),
   .mv 4 (.s 26)])
  .rt))))
theorem unl_eq1 : c116 = cUnlike 8 [(.str []), (.int .u32 0), (.int .i64 0), (.int .i64 0), (.int .i64 0), (.int .i64 0), .nils, .nils] := rfl
theorem unl_eq2 : c110 = cUnlike 2 [(.str []), (.str [])] := rfl
theorem unl_eq3 : c112 = cUnlike 7 [(.str []), (.bool false), (.int .i64 0), (.int .i64 0), (.int .u64 0), (.int .i64 0), (.int .i64 0)] := rfl
theorem nameG_spec (x : Gl) : Sp Tryz.prog gl 117 [.agg x.row] (.str x.n) := by
  refine s117 rfl rfl ?_
  unfold Gl.row
  simp -implicitDefEqProofs [c117]
theorem nameL_spec (x : Lb) : Sp Tryz.prog gl 111 [.agg x.row] (.str x.n) := by
  refine s111 rfl rfl ?_
  unfold Lb.row
  simp -implicitDefEqProofs [c111]
theorem nameR_spec (x : Ru) : Sp Tryz.prog gl 113 [.agg x.row] (.str x.n) := by
  refine s113 rfl rfl ?_
  unfold Ru.row
  simp -implicitDefEqProofs [c113]
set_option maxRecDepth 20000 in
theorem unlike_code (sz : Nat) (z : List AV) (f : Nat) (rows : List (List AV)) (names : List (List UInt8)) (hz : z.length = sz) (hl : names.length = rows.length) (hn : rows.length ≤ 1000000)
    (hr : ∀ i (h : i < rows.length), rows[i].length = sz ∧ idsL rows[i] = [] ∧ Sp Tryz.prog gl f [.agg rows[i]] (.str (names[i]'(by omega)))) :
    wpA (SpH Tryz.prog gl) (cUnlike sz z) (postA [.t 4] (.bool (uniq names))) ⟨initE 0 [.sl rows, .fn f []], [], []⟩ := by
  unfold cUnlike
  have w1 : IntKind.i64.wrap 1 = 1 := by rw [wrap_i64] <;> omega
  simp -implicitDefEqProofs
  refine wp_lpk (α := Nat × List (List UInt8 × Nat)) (fun x => ⟨[(0, .sl rows), (1, .fn f []), (5, .mref (.it 8)), (9, .sl rows), (10, i6 rows.length), (11, i6 x.1)], [(.it 8, [.mpv (cntV x.2)])], []⟩)
    (fun x => x.1 ≤ rows.length ∧ x.2.length = distR (names.take x.1).reverse ∧ (∀ n, n ∈ x.2.map Prod.fst ↔ n ∈ names.take x.1) ∧ ∀ p ∈ x.2, p.2 ≤ x.1) (fun x => rows.length - x.1) ?_ (0, []) ?_ ?_
  · rintro K ⟨i, l⟩ hK ⟨h1, h2, h3, h4⟩
    simp only at h1 h2 h3 h4
    by_cases g : i < rows.length
    · obtain ⟨r1, r2, r3⟩ := hr i g
      have r3 := Sp.h (d := 18) r3
      have hi : i < names.length := by omega
      have et : names.take (i + 1) = names.take i ++ [names[i]] := by rw [List.take_succ_eq_append_getElem hi]
      have fin : ∀ σ', Weak σ' ⟨[(0, .sl rows), (1, .fn f []), (5, .mref (.it 8)), (9, .sl rows), (10, i6 rows.length), (11, i6 (i + 1 : Nat))], [(.it 8, [.mpv (cntV (bump l names[i]))])], []⟩ → K σ' :=
        fun σ' hσ => hK (i + 1, bump l names[i]) σ' ⟨by simp only; omega, by
          simp only
          rw [bump_len, et, List.reverse_append, h2]
          simp only [List.reverse_cons, List.reverse_nil, List.nil_append, List.singleton_append, distR, h3, List.mem_reverse], by
          intro n
          rw [bump_mem, et, List.mem_append, h3]
          simp only [List.mem_singleton]
          exact Or.comm, bump_le _ _ _ h4⟩ (by simp only; omega) hσ
      have t1 : IntKind.i64.wrap ((i : Int) + 1) = (i + 1 : Nat) := by rw [wrap_i64] <;> omega
      obtain ⟨row, hrow⟩ : ∃ row, row = rows[i] := ⟨_, rfl⟩
      rw [← hrow] at r1 r2 r3
      have e1 : List.take sz row = row := List.take_of_length_le (by omega)
      have e2 : List.drop sz z = [] := List.drop_eq_nil_of_le (by omega)
      have hat : ∀ h, rows[i]'h = row := fun _ => hrow.symm
      rcases cnt_find names[i] l 0 with ⟨q1, q2⟩ | ⟨j, c, q0, q1, q2⟩
      · rw [q2] at fin
        generalize names[i] = nm at *
        clear hK hr hrow h2 h3 h4 et
        simp -implicitDefEqProofs [g, hat, r1, e1, hz, e2]
        refine onH_mk _ _ r3 ⟨?_, ?_, ?_, ?_, ?_, ?_, ?_⟩ ?_
        iterate 7 (· simp -implicitDefEqProofs)
        simp -implicitDefEqProofs [q1]
        refine fin _ (weak_mk ?_ ?_ ?_ ?_ ?_ ?_) <;> simp -implicitDefEqProofs [t1, w1]
      · rw [← q2] at fin
        have w2 : IntKind.i64.wrap ((c : Int) + 1) = ((c + 1 : Nat) : Int) := by have := h4 _ q0; simp only at this; rw [wrap_i64] <;> omega
        generalize names[i] = nm at *
        clear hK hr hrow h2 h3 h4 et
        rw [Nat.zero_add] at q1
        simp -implicitDefEqProofs [g, hat, r1, e1, hz, e2]
        refine onH_mk _ _ r3 ⟨?_, ?_, ?_, ?_, ?_, ?_, ?_⟩ ?_
        iterate 7 (· simp -implicitDefEqProofs)
        simp -implicitDefEqProofs [q1]
        refine fin _ (weak_mk ?_ ?_ ?_ ?_ ?_ ?_) <;> simp -implicitDefEqProofs [t1, w2]
    · obtain rfl : i = rows.length := by omega
      have ud := uniq_dist names
      rw [List.take_of_length_le (by omega)] at h2
      rw [← h2, hl] at ud
      have cl : (cntV l).length = l.length := by simp [cntV]
      clear hK hr h3 h4
      generalize uniq names = R at *
      simp -implicitDefEqProofs [cl, ud]
  · exact ⟨Nat.zero_le _, by simp [distR], by simp, by simp⟩
  · refine weak_mk ?_ ?_ ?_ ?_ ?_ ?_ <;> simp -implicitDefEqProofs [cntV]
theorem unlG_spec (l : List Gl) (hn : l.length ≤ 1000000) : Sp Tryz.prog gl 116 [.sl (l.map Gl.row), .fn 117 []] (.bool (uniq (l.map Gl.n))) := by
  refine s116 rfl rfl ?_
  rw [unl_eq1]
  refine unlike_code 8 _ _ (l.map Gl.row) (l.map Gl.n) rfl (by simp) (by simpa using hn) (fun i h => ?_)
  simp only [List.getElem_map]
  exact ⟨rfl, rfl, nameG_spec _⟩
theorem unlL_spec (l : List Lb) (hn : l.length ≤ 1000000) : Sp Tryz.prog gl 110 [.sl (l.map Lb.row), .fn 111 []] (.bool (uniq (l.map Lb.n))) := by
  refine s110 rfl rfl ?_
  rw [unl_eq2]
  refine unlike_code 2 _ _ (l.map Lb.row) (l.map Lb.n) rfl (by simp) (by simpa using hn) (fun i h => ?_)
  simp only [List.getElem_map]
  exact ⟨rfl, rfl, nameL_spec _⟩
theorem unlR_spec (l : List Ru) (hn : l.length ≤ 1000000) : Sp Tryz.prog gl 112 [.sl (l.map Ru.row), .fn 113 []] (.bool (uniq (l.map Ru.n))) := by
  refine s112 rfl rfl ?_
  rw [unl_eq3]
  refine unlike_code 7 _ _ (l.map Ru.row) (l.map Ru.n) rfl (by simp) (by simpa using hn) (fun i h => ?_)
  simp only [List.getElem_map]
  exact ⟨rfl, rfl, nameR_spec _⟩
end Go.Ai
set_option linter.unusedSimpArgs false
set_option linter.unusedVariables false
namespace Go.Ai
open Go.Proofs
def btw (n lo hi : Int) : Bool := decide (lo ≤ n ∧ n ≤ hi)
theorem btw_and (n lo hi : Int) : btw n lo hi = (decide (lo ≤ n) && decide (n ≤ hi)) := by simp [btw]
theorem btwI_spec (n lo hi : Int) : Sp Tryz.prog gl 44 [i6 n, i6 lo, i6 hi] (.bool (btw n lo hi)) := by
  refine s44 rfl rfl ?_
  rw [btw_and]
  simp -implicitDefEqProofs [c44]
  refine onB_dec (fun h => ?_) (fun h => ?_) <;> simp -implicitDefEqProofs [h]
theorem between6_spec (n lo hi : Int) : Sp Tryz.prog gl 43 [i6 n, i6 lo, i6 hi] (.bool (btw n lo hi)) := by
  refine s43 rfl rfl ?_
  rw [btw_and]
  simp -implicitDefEqProofs [c43]
  refine onB_dec (fun h => ?_) (fun h => ?_) <;> simp -implicitDefEqProofs [h]
theorem betweenU_spec (n lo hi : Nat) : Sp Tryz.prog gl 51 [u n, u lo, u hi] (.bool (btw n lo hi)) := by
  refine s51 rfl rfl ?_
  rw [btw_and]
  simp -implicitDefEqProofs [c51]
  refine onB_dec (fun h => ?_) (fun h => ?_) <;> simp -implicitDefEqProofs [h]
theorem between3_spec (n lo hi : Nat) : Sp Tryz.prog gl 42 [.int .u32 n, .int .u32 lo, .int .u32 hi] (.bool (btw n lo hi)) := by
  refine s42 rfl rfl ?_
  rw [btw_and]
  simp -implicitDefEqProofs [c42]
  refine onB_dec (fun h => ?_) (fun h => ?_) <;> simp -implicitDefEqProofs [h]
/-- A right rule, in the program's order. -/
def ruP (r : Ru) (g : Int) : Bool := decide (0 < g) && (btw r.s 1 r.l && (btw r.l 1 34560000 && (nameT r.n && (r.l.tmod g == 0 && (r.s.tmod g == 0 && (btw r.f 1 1000000 && (btw r.w 0 604800 && btw r.k 0 604800)))))))
set_option maxRecDepth 20000 in
theorem rru_spec (r : Ru) (g : Int) (hn : r.n.length ≤ 900000) : Sp Tryz.prog gl 13 [.agg r.row, i6 g] (.bool (ruP r g)) := by
  refine s13 rfl rfl ?_
  have N := tname_spec r.n hn
  obtain ⟨nm, p, l, s, f, w, k⟩ := r
  have hR : ruP ⟨nm, p, l, s, f, w, k⟩ g = (decide (0 < g) && (btw s 1 l && (btw l 1 34560000 && (nameT nm && (l.tmod g == 0 && (s.tmod g == 0 && (btw f 1 1000000 && (btw w 0 604800 && btw k 0 604800)))))))) := rfl
  simp only [Ru.row] at N ⊢
  generalize ruP ⟨nm, p, l, s, f, w, k⟩ g = R at *
  generalize nameT nm = T at *
  have B1 := between6_spec s 1 l
  have B2 := between6_spec l 1 34560000
  have B3 : Sp Tryz.prog gl 51 [u f, .int .u64 1, .int .u64 1000000] (.bool (btw f 1 1000000)) := betweenU_spec f 1 1000000
  have B4 := between6_spec w 0 604800
  have B5 := between6_spec k 0 604800
  generalize x1 : btw s 1 l = b1 at *
  generalize x2 : btw l 1 34560000 = b2 at *
  generalize x3 : btw (f : Int) 1 1000000 = b3 at *
  generalize x4 : btw w 0 604800 = b4 at *
  generalize x5 : btw k 0 604800 = b5 at *
  by_cases g0 : 0 < g
  · have g1 : ¬ g = 0 := by omega
    rw [decide_eq_true g0] at hR
    clear x1 x2 x3 x4 x5
    simp -implicitDefEqProofs [c13, g0, g1]
    repeat' first
      | (refine onC_mk _ (B1) ?_; simp -implicitDefEqProofs [g1])
      | (refine onC_mk _ (B2) ?_; simp -implicitDefEqProofs [g1])
      | (refine onC_mk _ (N) ?_; simp -implicitDefEqProofs [g1])
      | (refine onC_mk _ (B3) ?_; simp -implicitDefEqProofs [g1])
      | (refine onC_mk _ (B4) ?_; simp -implicitDefEqProofs [g1])
      | (refine onC_mk _ (B5) ?_; simp -implicitDefEqProofs [g1])
      | (refine onB_mk (fun h => ?_) (fun h => ?_) <;> (try simp only [Bool.not_eq_true', Bool.not_eq_false', decide_eq_true_eq, decide_eq_false_iff_not] at h) <;> simp -implicitDefEqProofs [h, g1])
    all_goals (rw [hR]; simp [*])
  · rw [decide_eq_false g0] at hR
    simp -implicitDefEqProofs [c13, g0]
    rw [hR]; simp
end Go.Ai
set_option linter.unusedSimpArgs false
set_option linter.unusedVariables false
namespace Go.Ai
open Go.Proofs
theorem stepF_bad (s : List UInt8) (i n r0 least : Nat) (h : (stepF s i n r0 least).1 = -1) : (stepF s i n r0 least).2 = 1 := by
  unfold stepF at h ⊢
  split
  · rename_i hc
    rw [if_pos hc] at h
    simp only at h
    omega
  · rfl
theorem stepR_bad (s : List UInt8) (i : Nat) (h : (stepR s i).1 = -1) : (stepR s i).2 = 1 := by
  unfold stepR at h ⊢
  simp only at h ⊢
  repeat' split
  all_goals first
    | rfl
    | (simp_all; done)
    | (simp_all; exact stepF_bad _ _ _ _ _ (by assumption))
theorem stepF_one (s : List UInt8) (i n r0 least : Nat) (hn : 1 ≤ n) (h : (stepF s i n r0 least).1 ≠ -1) : (stepF s i n r0 least).2 ≠ 1 := by
  unfold stepF at h ⊢
  split
  · simp only; omega
  · rename_i hc
    rw [if_neg hc] at h
    exact absurd rfl h
theorem stepR_one (s : List UInt8) (i : Nat) (h : (stepR s i).1 ≠ -1) (h1 : (stepR s i).2 = 1) : (stepR s i).1 < 128 := by
  by_cases hb : byt s i < 128
  · unfold stepR
    simp only [hb, if_true]; omega
  · exfalso
    unfold stepR at h h1
    simp only [hb, if_false] at h h1
    split at h
    · rename_i q; rw [if_pos q] at h1; exact stepF_one _ _ _ _ _ (by omega) h h1
    · rename_i q; rw [if_neg q] at h1
      split at h
      · rename_i q; rw [if_pos q] at h1; exact stepF_one _ _ _ _ _ (by omega) h h1
      · rename_i q; rw [if_neg q] at h1
        split at h
        · rename_i q; rw [if_pos q] at h1; exact stepF_one _ _ _ _ _ (by omega) h h1
        · exact absurd rfl h
/-- How many bytes the next rune has. -/
theorem rune_w (s : List UInt8) (i : Nat) (h : i < s.length) : (runeAt s i).2 = (stepR s i).2 := by
  rw [step_rune s i h]
  split
  · rename_i hb; rw [stepR_bad s i hb]
  · rfl
def goodR (l : List Int) : Bool := l.all fun r => decide (0 ≤ r)
theorem stepF_nn (s : List UInt8) (i n r0 least : Nat) : (stepF s i n r0 least).1 = -1 ∨ 0 ≤ (stepF s i n r0 least).1 := by
  unfold stepF
  split
  · right; simp only; omega
  · left; rfl
theorem stepR_nn (s : List UInt8) (i : Nat) : (stepR s i).1 = -1 ∨ 0 ≤ (stepR s i).1 := by
  unfold stepR
  simp only
  repeat' split
  all_goals first
    | exact stepF_nn _ _ _ _ _
    | (left; rfl)
    | (right; simp only; omega)
theorem decodeL_at (s : List UInt8) (i : Nat) : runeAt s i = (((Lib.decodeL (s.drop i)).1 : Int), (Lib.decodeL (s.drop i)).2) := by
  have := Lib.decodeL_drop ⟨s.toArray⟩ i
  simp only at this
  rw [this]
  rfl
theorem good_go (s : List UInt8) : ∀ (n i : Nat), s.length - i ≤ n → Lib.validGoD n (s.drop i) = goodR (runesL s i)
  | 0, i, h => by
    rw [runesL_out (by omega)]; rfl
  | n + 1, i, h => by
    by_cases g : i < s.length
    · have hne : s.drop i ≠ [] := by
        intro e
        have := congrArg List.length e
        rw [List.length_drop] at this
        simp at this; omega
      have sr := step_rune s i g
      have da := decodeL_at s i
      rw [da] at sr
      simp only [Lib.validGoD, if_neg hne]
      rw [runesL_in g]
      have pos := stepR_pos s i
      by_cases hb : (stepR s i).1 = -1
      · rw [if_pos hb] at sr
        simp only [Prod.mk.injEq] at sr
        rw [if_pos ⟨by omega, sr.2⟩]
        simp [goodR, hb]
      · rw [if_neg hb] at sr
        have e1 : ((Lib.decodeL (s.drop i)).1 : Int) = (stepR s i).1 := congrArg Prod.fst sr
        have e2 : (Lib.decodeL (s.drop i)).2 = (stepR s i).2 := congrArg Prod.snd sr
        rw [if_neg (by
          rintro ⟨q1, q2⟩
          have := stepR_one s i hb (by omega)
          omega)]
        rw [List.drop_drop, e2, good_go s n (i + (stepR s i).2) (by omega)]
        have h0 : 0 ≤ (stepR s i).1 := by rcases stepR_nn s i with h | h; exact absurd h hb; exact h
        simp [goodR, h0]
    · have e : s.drop i = [] := List.drop_eq_nil_of_le (by omega)
      simp only [Lib.validGoD, e, if_true]
      rw [runesL_out g]; rfl
theorem validD_good (s : List UInt8) : Lib.validD s = goodR (runesL s 0) := by
  have := good_go s s.length 0 (by omega)
  rwa [List.drop_zero] at this
set_option maxRecDepth 20000 in
theorem tcount_spec (s : List UInt8) (hl : s.length ≤ 900000) : Sp Tryz.prog gl 109 [.str s] (i6 (runesL s 0).length) := by
  refine s109 rfl rfl ?_
  obtain ⟨R, hR⟩ : ∃ R, R = (runesL s 0).length := ⟨_, rfl⟩
  rw [← hR]
  simp -implicitDefEqProofs [c109]
  refine wp_lpk (α := Nat × Nat) (fun x => ⟨[(3, i6 x.2), (5, .itp 5)], [(.it 5, [.itr s x.1])], []⟩)
    (fun x => x.2 ≤ x.1 ∧ x.2 + (runesL s x.1).length = R ∧ x.1 ≤ s.length + 3) (fun x => s.length + 4 - x.1) ?_ (0, 0) ?_ ?_
  · rintro K ⟨i, n⟩ hK ⟨h1, h2, h3⟩
    simp only at h1 h2 h3
    by_cases g : i < s.length
    · rw [runesL_in g] at h2
      simp only [List.length_cons] at h2
      have sw := rune_w s i g
      have sl := stepR_lt g
      have sp := stepR_pos s i
      have fin : ∀ σ', Weak σ' ⟨[(3, i6 (n + 1 : Nat)), (5, .itp 5)], [(.it 5, [.itr s (i + (stepR s i).2)])], []⟩ → K σ' :=
        fun σ' hσ => hK (i + (stepR s i).2, n + 1) σ' ⟨by simp only; omega, by simp only; omega, by simp only; omega⟩ (by simp only; omega) hσ
      have t1 : IntKind.i64.wrap ((n : Int) + 1) = (n + 1 : Nat) := by rw [wrap_i64] <;> omega
      clear hK hR h2
      simp -implicitDefEqProofs [g, sw]
      refine fin _ (weak_mk ?_ ?_ ?_ ?_ ?_ ?_) <;> simp -implicitDefEqProofs [t1]
    · rw [runesL_out g] at h2
      have : n = R := by simpa using h2
      subst this
      simp -implicitDefEqProofs [g]
  · exact ⟨Nat.le_refl _, by simp [hR], by simp⟩
  · refine weak_mk ?_ ?_ ?_ ?_ ?_ ?_ <;> simp -implicitDefEqProofs
end Go.Ai
set_option linter.unusedSimpArgs false
set_option linter.unusedVariables false
namespace Go.Ai
open Go.Proofs
theorem first_gl : List.lookup 1 gl = some ((List.range 256).map fun c => Value.int .u8 (Lib.firstT c)) := by kernel_rfl
theorem accept_gl : List.lookup 2 gl = some ((List.range 32).map fun c => Value.int .u8 (if c % 2 = 0 then Lib.accLo (c / 2) else Lib.accHi (c / 2))) := by kernel_rfl
theorem utf8_tabs {w : World} (h : ∀ i us, List.lookup i gl = some us → ∀ (o : Nat) (u : Value), us[o]? = some u → w.cell? ⟨i, o, none⟩ = some u) : Lib.Utf8Tabs 1 2 w := by
  refine ⟨fun c hc => ?_, fun i hi => ⟨?_, ?_⟩⟩
  · exact h _ _ first_gl c _ (by simp [hc])
  · refine h _ _ accept_gl (2 * i) _ ?_
    have h1 : 2 * i < 32 := by omega
    have h2 : 2 * i % 2 = 0 := by omega
    have h3 : 2 * i / 2 = i := by omega
    simp [h1, h2, h3]
  · refine h _ _ accept_gl (2 * i + 1) _ ?_
    have h1 : 2 * i + 1 < 32 := by omega
    have h2 : ¬ (2 * i + 1) % 2 = 0 := by omega
    have h3 : (2 * i + 1) / 2 = i := by omega
    simp only [List.getElem?_map, List.getElem?_range h1, Option.map_some, if_neg h2, h3]
theorem valid_spec (s : List UInt8) (hl : s.length ≤ 900000) : Sp Tryz.prog gl 169 [.str s] (.bool (Lib.validD s)) := by
  refine shelf_specG Tryz.func169 (by kernel_rfl) (by kernel_rfl) ?_
  intro S gb w vs hvs hag hgl
  simp only [PRlist, PR] at hvs
  obtain ⟨_, _, rfl, rfl, rfl⟩ := hvs
  have hs : (ByteArray.mk s.toArray).size ≤ 9223372036854775807 := by
    have : (ByteArray.mk s.toArray).size = s.length := rfl
    omega
  exact (Any.utf8_ValidString laysValid ⟨s.toArray⟩ w hs (utf8_tabs hgl)).mono fun e w' ⟨he, hw⟩ => ⟨_, he, hw, by simp [PR]⟩
theorem tgood_spec (s : List UInt8) (hl : s.length ≤ 900000) : Sp Tryz.prog gl 108 [.str s] (.bool (goodR (runesL s 0))) := by
  refine s108 rfl rfl ?_
  have V := valid_spec s hl
  rw [validD_good] at V
  generalize goodR (runesL s 0) = b at *
  simp -implicitDefEqProofs [c108]
  refine onC_mk _ (V) ?_
  simp -implicitDefEqProofs
end Go.Ai
set_option linter.unusedSimpArgs false
set_option linter.unusedVariables false
namespace Go.Ai
open Go.Proofs
def lbOk (x : Lb) : Bool := nameT x.n && (goodR (runesL x.t 0) && decide ((runesL x.t 0).length ≤ 120))
def lbFit (x : Lb) : Prop := x.n.length ≤ 2000 ∧ x.t.length ≤ 2000
def ruFit (x : Ru) : Prop := x.n.length ≤ 2000
structure Gl.Fit (x : Gl) : Prop where
  n : x.n.length ≤ 2000
  lb : x.lb.length ≤ 10
  ru : x.ru.length ≤ 10
  lbs : ∀ y ∈ x.lb, lbFit y
  rus : ∀ y ∈ x.ru, ruFit y
structure Cf.Fit (x : Cf) : Prop where
  n : x.gs.length ≤ 10
  gs : ∀ y ∈ x.gs, y.Fit
def labelsP (l : List Lb) : Bool := l.all lbOk && (decide (l.length ≤ 4) && uniq (l.map Lb.n))
def rulesP (l : List Ru) (g : Int) : Bool := l.all (fun r => ruP r g) && (btw l.length 1 4 && uniq (l.map Ru.n))
def goalP (x : Gl) : Bool := nameT x.n && (btw x.t 1 999999 && (btw x.g 1 86400 && (btw x.a 0 86400 && (btw x.o 0 34560000 && (x.o.tmod x.g == 0 && (btw x.c 0 2 && (labelsP x.lb && rulesP x.ru x.g)))))))
def rightP (c : Cf) : Bool := c.gs.all goalP && (btw c.r 1 64 && (btw c.v 0 c.r && (btw c.i 1 86400 && (btw c.x c.i 604800 && (btw c.y 0 2592000 && (decide (c.gs.length ≤ 6) && uniq (c.gs.map Gl.n)))))))
theorem rows_atF {α : Type} (f : α → List AV) (l : List α) (i : Nat) (h : i < l.length) : ∀ h2, (l.map f)[i]'h2 = f l[i] := fun _ => by simp
set_option maxRecDepth 20000 in
theorem labels_spec (l : List Lb) (hl : l.length ≤ 10) (hf : ∀ x ∈ l, lbFit x) : Sp Tryz.prog gl 45 [.sl (l.map Lb.row)] (.bool (labelsP l)) := by
  refine s45 rfl rfl ?_
  obtain ⟨R, hR⟩ : ∃ R, R = labelsP l := ⟨_, rfl⟩
  rw [← hR]
  unfold labelsP at hR
  have U := Sp.h (d := 33) (unlL_spec l (by omega))
  have rat := rows_atF Lb.row l
  have rl : (l.map Lb.row).length = l.length := by simp
  have fin0 : l.all lbOk = true → ∀ e, lk e 0 = .sl (l.map Lb.row) → wpA (SpH Tryz.prog gl) (AC.tl 2 c45) (postA [.t 2] (.bool R)) ⟨e, [], []⟩ := by
    intro ha e l0
    rw [ha, Bool.true_and] at hR
    generalize uniq (l.map Lb.n) = U0 at *
    generalize l.map Lb.row = RR at *
    simp only [c45, AC.tl]
    by_cases g : l.length ≤ 4
    · have g' : (l.length : Int) ≤ 4 := by omega
      rw [decide_eq_true g] at hR
      simp -implicitDefEqProofs [l0, rl, g', g]
      refine onH_mk _ _ (U) ⟨?_, ?_, ?_, ?_, ?_, ?_, ?_⟩ ?_
      iterate 7 (· simp -implicitDefEqProofs)
      simp -implicitDefEqProofs [hR]
    · have g' : ¬ (l.length : Int) ≤ 4 := by omega
      rw [decide_eq_false g] at hR
      simp -implicitDefEqProofs [l0, rl, g', g, hR]
  have ec : c45 = AC.cutAt 2 (AC.tl 2 c45) c45 := rfl
  rw [ec]
  generalize AC.tl 2 c45 = T at fin0 ⊢
  generalize uniq (l.map Lb.n) = U0 at *
  generalize l.map Lb.row = RR at *
  simp only [c45, AC.cutAt]
  simp -implicitDefEqProofs [rl]
  refine wp_lpk (α := Nat) (fun i => ⟨[(0, .sl RR), (5, .sl RR), (6, i6 l.length), (7, i6 i)], [], []⟩) (fun i => i ≤ l.length ∧ (l.drop i).all lbOk = l.all lbOk) (fun i => l.length - i) ?_ 0 ?_ ?_
  · rintro K i hK ⟨h1, h2⟩
    by_cases g : i < l.length
    · have t1 : IntKind.i64.wrap ((i : Int) + 1) = (i + 1 : Nat) := by rw [wrap_i64] <;> omega
      have ra := rat i g
      have gR : i < RR.length := by omega
      rw [List.drop_eq_getElem_cons g, List.all_cons] at h2
      have fin : lbOk l[i] = true → ∀ σ', Weak σ' ⟨[(0, .sl RR), (5, .sl RR), (6, i6 l.length), (7, i6 (i + 1 : Nat))], [], []⟩ → K σ' := fun hd σ' hσ => hK (i + 1) σ' ⟨by omega, by rw [hd, Bool.true_and] at h2; exact h2⟩ (by omega) hσ
      have hfi := hf l[i] (List.getElem_mem _)
      have N := tname_spec l[i].n (by have := hfi.1; omega)
      have G := tgood_spec l[i].t (by have := hfi.2; omega)
      have C := tcount_spec l[i].t (by have := hfi.2; omega)
      have hno : lbOk l[i] = false → R = false := fun h => by rw [h, Bool.false_and] at h2; rw [hR, ← h2]; rfl
      unfold lbOk at fin hno
      clear hK h2 hR fin0 rat hf U
      generalize l[i] = x at *
      obtain ⟨xn, xt⟩ := x
      simp only [Lb.row] at *
      generalize nameT xn = b1 at *
      generalize goodR (runesL xt 0) = b2 at *
      generalize (runesL xt 0).length = c at *
      by_cases hc : c ≤ 120
      · have hc' : ¬ (120 : Int) < c := by omega
        have hc2 : ¬ 120 < c := by omega
        rw [decide_eq_true hc] at fin hno
        simp -implicitDefEqProofs [g, gR, ra]
        repeat' first
          | (refine onC_mk _ (N) ?_; simp -implicitDefEqProofs [hc', hc2])
          | (refine onC_mk _ (G) ?_; simp -implicitDefEqProofs [hc', hc2])
          | (refine onC_mk _ (C) ?_; simp -implicitDefEqProofs [hc', hc2])
          | (refine onB_mk (fun h => ?_) (fun h => ?_) <;> (try simp only [Bool.not_eq_true', Bool.not_eq_false', decide_eq_true_eq, decide_eq_false_iff_not] at h) <;> simp -implicitDefEqProofs [h, hc', hc2])
        all_goals first
          | (refine fin (by simp [*]) _ (weak_mk ?_ ?_ ?_ ?_ ?_ ?_) <;> simp -implicitDefEqProofs [t1])
          | (rw [hno (by simp [*])])
      · have hc' : (120 : Int) < c := by omega
        have hc2 : 120 < c := by omega
        rw [decide_eq_false hc] at fin hno
        simp -implicitDefEqProofs [g, gR, ra]
        repeat' first
          | (refine onC_mk _ (N) ?_; simp -implicitDefEqProofs [hc', hc2])
          | (refine onC_mk _ (G) ?_; simp -implicitDefEqProofs [hc', hc2])
          | (refine onC_mk _ (C) ?_; simp -implicitDefEqProofs [hc', hc2])
          | (refine onB_mk (fun h => ?_) (fun h => ?_) <;> (try simp only [Bool.not_eq_true', Bool.not_eq_false', decide_eq_true_eq, decide_eq_false_iff_not] at h) <;> simp -implicitDefEqProofs [h, hc', hc2])
        all_goals (rw [hno (by simp [*])])
    · obtain rfl : i = l.length := by omega
      rw [List.drop_length] at h2
      have fin0 := fin0 (by rw [← h2]; rfl)
      clear hK
      simp -implicitDefEqProofs
      refine fin0 _ ?_
      simp -implicitDefEqProofs
  · exact ⟨Nat.zero_le _, rfl⟩
  · refine weak_mk ?_ ?_ ?_ ?_ ?_ ?_ <;> simp -implicitDefEqProofs [rl]
end Go.Ai
set_option linter.unusedSimpArgs false
set_option linter.unusedVariables false
namespace Go.Ai
open Go.Proofs
set_option maxRecDepth 20000 in
theorem rules_spec (l : List Ru) (gr : Int) (hl : l.length ≤ 10) (hf : ∀ x ∈ l, ruFit x) : Sp Tryz.prog gl 46 [.sl (l.map Ru.row), i6 gr] (.bool (rulesP l gr)) := by
  refine s46 rfl rfl ?_
  obtain ⟨R, hR⟩ : ∃ R, R = rulesP l gr := ⟨_, rfl⟩
  rw [← hR]
  unfold rulesP at hR
  have U := Sp.h (d := 23) (unlR_spec l (by omega))
  have B := btwI_spec l.length 1 4
  have rat := rows_atF Ru.row l
  have rl : (l.map Ru.row).length = l.length := by simp
  have fin0 : (l.all fun r => ruP r gr) = true → ∀ e, lk e 0 = .sl (l.map Ru.row) → wpA (SpH Tryz.prog gl) (AC.tl 2 c46) (postA [.t 4] (.bool R)) ⟨e, [], []⟩ := by
    intro ha e l0
    rw [ha, Bool.true_and] at hR
    generalize uniq (l.map Ru.n) = U0 at *
    generalize l.map Ru.row = RR at *
    generalize btw l.length 1 4 = b at *
    simp only [c46, AC.tl]
    cases b
    · simp -implicitDefEqProofs [l0, rl]
      refine onC_mk _ (B) ?_
      simp -implicitDefEqProofs [hR]
    · simp -implicitDefEqProofs [l0, rl]
      refine onC_mk _ (B) ?_
      simp -implicitDefEqProofs [l0]
      refine onH_mk _ _ (U) ⟨?_, ?_, ?_, ?_, ?_, ?_, ?_⟩ ?_
      iterate 7 (· simp -implicitDefEqProofs)
      simp -implicitDefEqProofs [hR]
  have ec : c46 = AC.cutAt 2 (AC.tl 2 c46) c46 := rfl
  rw [ec]
  generalize AC.tl 2 c46 = T at fin0 ⊢
  generalize uniq (l.map Ru.n) = U0 at *
  generalize l.map Ru.row = RR at *
  simp only [c46, AC.cutAt]
  simp -implicitDefEqProofs [rl]
  refine wp_lpk (α := Nat) (fun i => ⟨[(0, .sl RR), (1, i6 gr), (7, .sl RR), (8, i6 l.length), (9, i6 i)], [], []⟩) (fun i => i ≤ l.length ∧ ((l.drop i).all fun r => ruP r gr) = l.all fun r => ruP r gr) (fun i => l.length - i) ?_ 0 ?_ ?_
  · rintro K i hK ⟨h1, h2⟩
    by_cases g : i < l.length
    · have t1 : IntKind.i64.wrap ((i : Int) + 1) = (i + 1 : Nat) := by rw [wrap_i64] <;> omega
      have ra := rat i g
      have gR : i < RR.length := by omega
      rw [List.drop_eq_getElem_cons g, List.all_cons] at h2
      have fin : ruP l[i] gr = true → ∀ σ', Weak σ' ⟨[(0, .sl RR), (1, i6 gr), (7, .sl RR), (8, i6 l.length), (9, i6 (i + 1 : Nat))], [], []⟩ → K σ' := fun hd σ' hσ => hK (i + 1) σ' ⟨by omega, by rw [hd, Bool.true_and] at h2; exact h2⟩ (by omega) hσ
      have hfi := hf l[i] (List.getElem_mem _)
      have Q := rru_spec l[i] gr (by have : l[i].n.length ≤ 2000 := hfi; omega)
      have hno : ruP l[i] gr = false → R = false := fun h => by rw [h, Bool.false_and] at h2; rw [hR, ← h2]; rfl
      have hrl : (l[i].row).length = 7 := rfl
      have hs : shutL l[i].row = some l[i].row := rfl
      clear hK h2 hR fin0 rat hf U B
      generalize ruP l[i] gr = b1 at *
      generalize l[i].row = x at *
      have e7 : List.take 7 x = x := List.take_of_length_le (by omega)
      cases b1
      · rw [hno rfl]
        simp -implicitDefEqProofs [g, gR, ra, hrl, e7, hs]
        refine onC_mk _ (Q) ?_
        simp -implicitDefEqProofs
      · have fin := fin rfl
        simp -implicitDefEqProofs [g, gR, ra, hrl, e7, hs]
        refine onC_mk _ (Q) ?_
        simp -implicitDefEqProofs
        refine fin _ ?_
        refine weak_mk ?_ ?_ ?_ ?_ ?_ ?_ <;> simp -implicitDefEqProofs [t1]
    · obtain rfl : i = l.length := by omega
      rw [List.drop_length] at h2
      have fin0 := fin0 (by rw [← h2]; rfl)
      clear hK
      simp -implicitDefEqProofs
      refine fin0 _ ?_
      simp -implicitDefEqProofs
  · exact ⟨Nat.zero_le _, rfl⟩
  · refine weak_mk ?_ ?_ ?_ ?_ ?_ ?_ <;> simp -implicitDefEqProofs [rl]
set_option maxRecDepth 20000 in
theorem goal_spec (x : Gl) (hf : x.Fit) : Sp Tryz.prog gl 11 [.agg x.row] (.bool (goalP x)) := by
  refine s11 rfl rfl ?_
  have N := tname_spec x.n (by have := hf.n; omega)
  have L := labels_spec x.lb hf.lb hf.lbs
  have Q := rules_spec x.ru x.g hf.ru hf.rus
  obtain ⟨nm, t, g, a, o, c, lb, ru⟩ := x
  have hR : goalP ⟨nm, t, g, a, o, c, lb, ru⟩ = (nameT nm && (btw t 1 999999 && (btw g 1 86400 && (btw a 0 86400 && (btw o 0 34560000 && (o.tmod g == 0 && (btw c 0 2 && (labelsP lb && rulesP ru g)))))))) := rfl
  simp only [Gl.row] at N L Q ⊢
  clear hf
  have B1 : Sp Tryz.prog gl 42 [.int .u32 t, .int .u32 1, .int .u32 999999] (.bool (btw t 1 999999)) := between3_spec t 1 999999
  have B2 := between6_spec g 1 86400
  have B3 := between6_spec a 0 86400
  have B4 := between6_spec o 0 34560000
  have B5 := btwI_spec c 0 2
  generalize goalP ⟨nm, t, g, a, o, c, lb, ru⟩ = R at *
  generalize nameT nm = b0 at *
  generalize labelsP lb = b6 at *
  generalize rulesP ru g = b7 at *
  generalize lb.map Lb.row = LB at *
  generalize ru.map Ru.row = RU at *
  generalize x1 : btw (t : Int) 1 999999 = b1 at *
  generalize x3 : btw a 0 86400 = b3 at *
  generalize x4 : btw o 0 34560000 = b4 at *
  generalize x5 : btw c 0 2 = b5 at *
  by_cases g0 : 1 ≤ g ∧ g ≤ 86400
  · have e2 : btw g 1 86400 = true := decide_eq_true g0
    have g1 : ¬ g = 0 := by omega
    rw [e2] at B2 hR
    clear x1 x3 x4 x5 e2
    simp -implicitDefEqProofs [c11]
    repeat' first
      | (refine onC_mk _ (N) ?_; simp -implicitDefEqProofs [g1])
      | (refine onC_mk _ (B1) ?_; simp -implicitDefEqProofs [g1])
      | (refine onC_mk _ (B2) ?_; simp -implicitDefEqProofs [g1])
      | (refine onC_mk _ (B3) ?_; simp -implicitDefEqProofs [g1])
      | (refine onC_mk _ (B4) ?_; simp -implicitDefEqProofs [g1])
      | (refine onC_mk _ (B5) ?_; simp -implicitDefEqProofs [g1])
      | (refine onC_mk _ (L) ?_; simp -implicitDefEqProofs [g1])
      | (refine onC_mk _ (Q) ?_; simp -implicitDefEqProofs [g1])
      | (refine onB_mk (fun h => ?_) (fun h => ?_) <;> (try simp only [Bool.not_eq_true', Bool.not_eq_false', decide_eq_true_eq, decide_eq_false_iff_not] at h) <;> simp -implicitDefEqProofs [h, g1])
    all_goals first
      | (rw [hR]; simp [*]; done)
      | (rw [hR]; simp_all)
  · have e2 : btw g 1 86400 = false := decide_eq_false g0
    rw [e2] at B2 hR
    clear x1 x3 x4 x5 e2
    simp -implicitDefEqProofs [c11]
    repeat' first
      | (refine onC_mk _ (N) ?_; simp -implicitDefEqProofs [])
      | (refine onC_mk _ (B1) ?_; simp -implicitDefEqProofs [])
      | (refine onC_mk _ (B2) ?_; simp -implicitDefEqProofs [])
      | (refine onB_mk (fun h => ?_) (fun h => ?_) <;> (try simp only [Bool.not_eq_true', Bool.not_eq_false', decide_eq_true_eq, decide_eq_false_iff_not] at h) <;> simp -implicitDefEqProofs [h])
    all_goals (rw [hR]; simp [*])
set_option maxRecDepth 20000 in
theorem right_tail (c : Cf) (hl : c.gs.length ≤ 10) (T : Bool) (hT : T = (btw c.r 1 64 && (btw c.v 0 c.r && (btw c.i 1 86400 && (btw c.x c.i 604800 && (btw c.y 0 2592000 && (decide (c.gs.length ≤ 6) && uniq (c.gs.map Gl.n)))))))) (e : List (Nat × AV)) (l1 : lk e 1 = .ptr (.n 1) 0) :
    wpA (SpH Tryz.prog gl) (AC.tl 2 c56) (postA [.t 2] (.bool T)) ⟨e, [(.n 1, c.row)], []⟩ := by
  have U := Sp.h (d := 57) (unlG_spec c.gs (by omega))
  have rl : (c.gs.map Gl.row).length = c.gs.length := by simp
  obtain ⟨gs, r, v, i, x, y⟩ := c
  simp only [Cf.row] at *
  generalize uniq (gs.map Gl.n) = b0 at *
  generalize gs.map Gl.row = G at *
  have B1 := btwI_spec r 1 64
  have B2 := btwI_spec v 0 r
  have B3 := between6_spec i 1 86400
  have B4 := between6_spec x i 604800
  have B5 := between6_spec y 0 2592000
  simp only [c56, AC.tl]
  generalize btw r 1 64 = b1 at *
  generalize btw v 0 r = b2 at *
  generalize btw i 1 86400 = b3 at *
  generalize btw x i 604800 = b4 at *
  generalize btw y 0 2592000 = b5 at *
  by_cases g : gs.length ≤ 6
  · have g' : (gs.length : Int) ≤ 6 := by omega
    rw [decide_eq_true g] at hT
    simp -implicitDefEqProofs [l1]
    repeat' first
      | (refine onC_mk _ (B1) ?_; simp -implicitDefEqProofs [l1, rl, g, g'])
      | (refine onC_mk _ (B2) ?_; simp -implicitDefEqProofs [l1, rl, g, g'])
      | (refine onC_mk _ (B3) ?_; simp -implicitDefEqProofs [l1, rl, g, g'])
      | (refine onC_mk _ (B4) ?_; simp -implicitDefEqProofs [l1, rl, g, g'])
      | (refine onC_mk _ (B5) ?_; simp -implicitDefEqProofs [l1, rl, g, g'])
      | (refine onB_mk (fun h => ?_) (fun h => ?_) <;> (try simp only [Bool.not_eq_true', Bool.not_eq_false', decide_eq_true_eq, decide_eq_false_iff_not] at h) <;> simp -implicitDefEqProofs [h, l1, rl, g, g'])
    all_goals first
      | (rw [hT]; simp [*]; done)
      | skip
    refine onH_mk _ _ (U) ⟨?_, ?_, ?_, ?_, ?_, ?_, ?_⟩ ?_
    iterate 7 (· simp -implicitDefEqProofs)
    simp -implicitDefEqProofs
    rw [hT]; simp [*]
  · have g' : ¬ (gs.length : Int) ≤ 6 := by omega
    rw [decide_eq_false g] at hT
    simp -implicitDefEqProofs [l1]
    repeat' first
      | (refine onC_mk _ (B1) ?_; simp -implicitDefEqProofs [l1, rl, g, g'])
      | (refine onC_mk _ (B2) ?_; simp -implicitDefEqProofs [l1, rl, g, g'])
      | (refine onC_mk _ (B3) ?_; simp -implicitDefEqProofs [l1, rl, g, g'])
      | (refine onC_mk _ (B4) ?_; simp -implicitDefEqProofs [l1, rl, g, g'])
      | (refine onC_mk _ (B5) ?_; simp -implicitDefEqProofs [l1, rl, g, g'])
      | (refine onB_mk (fun h => ?_) (fun h => ?_) <;> (try simp only [Bool.not_eq_true', Bool.not_eq_false', decide_eq_true_eq, decide_eq_false_iff_not] at h) <;> simp -implicitDefEqProofs [h, l1, rl, g, g'])
    all_goals (rw [hT]; simp [*])
set_option maxRecDepth 20000 in
theorem right_spec (c : Cf) (hf : c.Fit) : Sp Tryz.prog gl 56 [.agg c.row] (.bool (rightP c)) := by
  refine s56 rfl rfl ?_
  obtain ⟨R, hR⟩ : ∃ R, R = rightP c := ⟨_, rfl⟩
  rw [← hR]
  unfold rightP at hR
  obtain ⟨T, hT⟩ : ∃ T, T = (btw c.r 1 64 && (btw c.v 0 c.r && (btw c.i 1 86400 && (btw c.x c.i 604800 && (btw c.y 0 2592000 && (decide (c.gs.length ≤ 6) && uniq (c.gs.map Gl.n))))))) := ⟨_, rfl⟩
  rw [← hT] at hR
  have tail := right_tail c hf.n T hT
  have fin0 : c.gs.all goalP = true → R = T := fun h => by rw [hR, h, Bool.true_and]
  have rat := rows_atF Gl.row c.gs
  have rl : (c.gs.map Gl.row).length = c.gs.length := by simp
  have hc : c.row = .sl (c.gs.map Gl.row) :: [i6 c.r, i6 c.v, i6 c.i, i6 c.x, i6 c.y] := rfl
  have hfg := hf.gs
  have hln := hf.n
  have ec : c56 = AC.cutAt 2 (AC.tl 2 c56) c56 := rfl
  rw [ec]
  generalize AC.tl 2 c56 = TT at tail ⊢
  rw [hc] at tail ⊢
  generalize c.gs.map Gl.row = RR at *
  generalize c.gs = l at *
  clear hT hc hf
  simp only [c56, AC.cutAt]
  simp -implicitDefEqProofs [rl]
  refine wp_lpk (α := Nat) (fun j => ⟨[(1, .ptr (.n 1) 0), (8, .sl RR), (9, i6 l.length), (10, i6 j)], [(.n 1, .sl RR :: [i6 c.r, i6 c.v, i6 c.i, i6 c.x, i6 c.y])], []⟩) (fun j => j ≤ l.length ∧ (l.drop j).all goalP = l.all goalP) (fun j => l.length - j) ?_ 0 ?_ ?_
  · rintro K j hK ⟨h1, h2⟩
    by_cases g : j < l.length
    · have t1 : IntKind.i64.wrap ((j : Int) + 1) = (j + 1 : Nat) := by rw [wrap_i64] <;> omega
      have ra := rat j g
      have gR : j < RR.length := by omega
      rw [List.drop_eq_getElem_cons g, List.all_cons] at h2
      have fin : goalP l[j] = true → ∀ σ', Weak σ' ⟨[(1, .ptr (.n 1) 0), (8, .sl RR), (9, i6 l.length), (10, i6 (j + 1 : Nat))], [(.n 1, .sl RR :: [i6 c.r, i6 c.v, i6 c.i, i6 c.x, i6 c.y])], []⟩ → K σ' := fun hd σ' hσ => hK (j + 1) σ' ⟨by omega, by rw [hd, Bool.true_and] at h2; exact h2⟩ (by omega) hσ
      have Q := goal_spec l[j] (hfg l[j] (List.getElem_mem _))
      have hno : goalP l[j] = false → R = false := fun h => by rw [h, Bool.false_and] at h2; rw [hR, ← h2]; rfl
      have hrl : (l[j].row).length = 8 := rfl
      have hs : shutL l[j].row = some l[j].row := rfl
      clear hK h2 hR fin0 rat tail hfg
      generalize goalP l[j] = b1 at *
      generalize l[j].row = x at *
      have e7 : List.take 8 x = x := List.take_of_length_le (by omega)
      cases b1
      · rw [hno rfl]
        simp -implicitDefEqProofs [g, gR, ra, hrl, e7, hs]
        refine onC_mk _ (Q) ?_
        simp -implicitDefEqProofs
      · have fin := fin rfl
        simp -implicitDefEqProofs [g, gR, ra, hrl, e7, hs]
        refine onC_mk _ (Q) ?_
        simp -implicitDefEqProofs
        refine fin _ ?_
        refine weak_mk ?_ ?_ ?_ ?_ ?_ ?_ <;> simp -implicitDefEqProofs [t1]
    · obtain rfl : j = l.length := by omega
      rw [List.drop_length] at h2
      have e := fin0 (by rw [← h2]; rfl)
      subst e
      clear hK
      simp -implicitDefEqProofs
      refine tail _ ?_
      simp -implicitDefEqProofs
  · exact ⟨Nat.zero_le _, rfl⟩
  · refine weak_mk ?_ ?_ ?_ ?_ ?_ ?_ <;> simp -implicitDefEqProofs [rl]
end Go.Ai
