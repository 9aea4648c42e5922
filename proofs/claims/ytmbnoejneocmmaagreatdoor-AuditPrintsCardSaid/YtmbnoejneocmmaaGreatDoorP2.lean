/- YtmbnoejneocmmaaGreatDoorP2: part of the abstract interpreter library (values, rules, soundness against the model) or of what a function of the seat computes. Conditions: as each theorem says. -/
import Derived.Test.YtmbnoejneocmmaaGreatDoorP1
import Derived.Lib.TrimUEq
import Derived.Lib.ValidU
import Derived.Lib.MapLaws
import Derived.Test.YtmbnoejneocmmaaGreatDoorCode
import Derived.Test.YtmbnoejneocmmaaGreatDoorAiShelf2
import Derived.Shelf.Lays
import Derived.Shelf.LaysM
import Derived.Shelf.Small.Wraps
import Derived.Shelf.Strings.BuilderX
import Derived.Shelf.Strings.SplitCore
import Derived.Shelf.Unicode.ValidAny
set_option linter.unusedSimpArgs false
set_option linter.unusedVariables false
namespace Go.Ai
open Go.Proofs
/-! ### Configs, no program in sight -/
structure Lb where
  n : List UInt8
  t : List UInt8
  deriving DecidableEq
structure Ru where
  n : List UInt8
  p : Bool
  l : Int
  s : Int
  f : Nat
  w : Int
  k : Int
  deriving DecidableEq
structure Gl where
  n : List UInt8
  t : Nat
  g : Int
  a : Int
  o : Int
  c : Int
  lb : List Lb
  ru : List Ru
  deriving DecidableEq
structure Cf where
  gs : List Gl
  r : Int
  v : Int
  i : Int
  x : Int
  y : Int
def Lb.row (x : Lb) : List AV := [.str x.n, .str x.t]
def Ru.row (x : Ru) : List AV := [.str x.n, .bool x.p, i6 x.l, i6 x.s, u x.f, i6 x.w, i6 x.k]
def Gl.row (x : Gl) : List AV := [.str x.n, .int .u32 x.t, i6 x.g, i6 x.a, i6 x.o, i6 x.c, .sl (x.lb.map Lb.row), .sl (x.ru.map Ru.row)]
def Cf.row (x : Cf) : List AV := [.sl (x.gs.map Gl.row), i6 x.r, i6 x.v, i6 x.i, i6 x.x, i6 x.y]
/-- How many unlike ones a list (the last first) has. -/
def distR {α : Type} [DecidableEq α] : List α → Nat
  | [] => 0
  | x :: r => distR r + if x ∈ r then 0 else 1
theorem distR_le {α : Type} [DecidableEq α] : ∀ l : List α, distR l ≤ l.length
  | [] => Nat.le_refl _
  | x :: r => by have := distR_le r; simp only [distR, List.length_cons]; split <;> omega
theorem distR_iff {α : Type} [DecidableEq α] : ∀ l : List α, distR l = l.length ↔ l.Nodup
  | [] => by simp [distR]
  | x :: r => by
    have h1 := distR_le r
    have h2 := distR_iff r
    simp only [distR, List.length_cons, List.nodup_cons]
    by_cases h : x ∈ r
    · rw [if_pos h]
      constructor
      · intro e; omega
      · intro e; exact absurd h e.1
    · rw [if_neg h, ← h2]
      constructor
      · intro e; exact ⟨h, by omega⟩
      · intro e; omega
def uniq (l : List (List UInt8)) : Bool := decide l.Nodup
theorem uniq_dist (l : List (List UInt8)) : (((distR l.reverse : Nat) : Int) == ((l.length : Nat) : Int)) = uniq l := by
  unfold uniq
  rw [Bool.eq_iff_iff]
  simp only [beq_iff_eq, decide_eq_true_eq]
  rw [show ((distR l.reverse : Nat) : Int) = ((l.length : Nat) : Int) ↔ distR l.reverse = l.reverse.length by rw [List.length_reverse]; omega, distR_iff]
  unfold List.Nodup
  rw [List.pairwise_reverse]
  constructor
  · intro h; exact h.imp (fun h => Ne.symm h)
  · intro h; exact h.imp (fun h => Ne.symm h)
/-! ### A map of counts -/
def cntV (l : List (List UInt8 × Nat)) : List (MK × MK) := l.map fun p => (.s p.1, .i .i64 p.2)
def bump (l : List (List UInt8 × Nat)) (n : List UInt8) : List (List UInt8 × Nat) := match l with
  | [] => [(n, 1)]
  | (m, c) :: r => if n = m then (m, c + 1) :: r else (m, c) :: bump r n
theorem bump_len (n : List UInt8) : ∀ l, (bump l n).length = l.length + if n ∈ l.map Prod.fst then 0 else 1
  | [] => by simp [bump]
  | (m, c) :: r => by
    simp only [bump]
    split
    · rename_i h; subst h; simp
    · rename_i h
      simp only [List.length_cons, List.map_cons, List.mem_cons, bump_len n r]
      by_cases h2 : n ∈ r.map Prod.fst
      · rw [if_pos h2, if_pos (.inr h2)]
      · rw [if_neg h2, if_neg (fun e => e.elim h h2)]
theorem bump_mem (n x : List UInt8) : ∀ l, x ∈ (bump l n).map Prod.fst ↔ x = n ∨ x ∈ l.map Prod.fst
  | [] => by simp [bump]
  | (m, c) :: r => by
    simp only [bump]
    split
    · rename_i h; subst h; simp
    · rename_i h
      simp only [List.map_cons, List.mem_cons, bump_mem n x r]
      constructor
      · rintro (h | h | h)
        · exact .inr (.inl h)
        · exact .inl h
        · exact .inr (.inr h)
      · rintro (h | h | h)
        · exact .inr (.inl h)
        · exact .inl h
        · exact .inr (.inr h)
theorem bump_le (n : List UInt8) (N : Nat) : ∀ l, (∀ p ∈ l, p.2 ≤ N) → ∀ p ∈ bump l n, p.2 ≤ N + 1
  | [], _, p, hp => by simp only [bump, List.mem_singleton] at hp; subst hp; simp
  | (m, c) :: r, h, p, hp => by
    simp only [bump] at hp
    have h1 := h (m, c) (by simp)
    simp only at h1
    split at hp
    · rcases List.mem_cons.1 hp with rfl | hp
      · simp only; omega
      · have := h p (by simp [hp]); omega
    · rcases List.mem_cons.1 hp with rfl | hp
      · simp only; omega
      · exact bump_le n N r (fun q hq => h q (by simp [hq])) p hp
/-- What a look finds, and what the entry behind 'm[n]++' is. -/
theorem cnt_find (n : List UInt8) : ∀ (l : List (List UInt8 × Nat)) (i : Nat),
    (mfind (.s n) (cntV l) i = some none ∧ cntV (bump l n) = cntV l ++ [(.s n, .i .i64 1)]) ∨ ∃ j c, (n, c) ∈ l ∧ mfind (.s n) (cntV l) i = some (some (i + j, .i .i64 (c : Nat))) ∧ mset (cntV l) j (.i .i64 ((c + 1 : Nat) : Int)) = cntV (bump l n)
  | [], i => .inl ⟨rfl, rfl⟩
  | (m, c) :: r, i => by
    have e : cntV ((m, c) :: r) = (.s m, .i .i64 c) :: cntV r := rfl
    rw [e]
    simp only [mfind, MK.same, bump]
    by_cases h : n = m
    · subst h
      refine .inr ⟨0, c, by simp, ?_, ?_⟩
      · simp
      · rw [if_pos rfl]; rfl
    · have hb : (n == m) = false := by simpa using h
      rw [hb, if_neg h]
      rcases cnt_find n r (i + 1) with ⟨h1, h2⟩ | ⟨j, c', h0, h1, h2⟩
      · refine .inl ⟨by simp [h1], ?_⟩
        show (MK.s m, MK.i .i64 (c : Int)) :: cntV (bump r n) = _
        rw [h2]; rfl
      · refine .inr ⟨j + 1, c', by simp [h0], ?_, ?_⟩
        · simp only [h1]; rw [show i + 1 + j = i + (j + 1) by omega]
        · show mset _ (j + 1) _ = (MK.s m, MK.i .i64 (c : Int)) :: cntV (bump r n)
          rw [← h2]; rfl
end Go.Ai
set_option linter.unusedSimpArgs false
set_option linter.unusedVariables false
namespace Go.Ai
open Go.Proofs
/-- 'unlike' at elements of 'sz' cells. -/
def cUnlike (sz : Nat) (z : List AV) : AC :=
 (.sq (.rg [.mv 4 (.c (.bool false))])
  (.sq (.rg [.mkp 8,
   .mv 5 (.s 8)])
  (.sq (.sq (.rg [.mv 9 (.s 0),
   .ln 10 (.s 9),
   .mv 11 (.c (.int .i64 0))])
  (.bl 0 (.lp (.sq (.rg [.bi 12 .lss (.s 11) (.s 10)])
  (.sq (.cd (.s 12) .sk (.ex 0))
  (.sq (.bl 1 (.sq (.rg [.ia 13 sz (.s 9) (.s 11),
   .lda 14 sz (.s 13),
   .al 7 z,
   .st sz (.s 7) (.s 14)])
  (.rg [.mv 15 (.s 5),
   .mv 16 (.s 1),
   .lda 17 sz (.s 7),
   .cd 18 (.s 16) [(.s 17)],
   .mlk 19 .s (.i .i64 0) (.s 15) (.s 18) false,
   .bi 20 .add (.s 19) (.c (.int .i64 1)),
   .mup .s (.s 15) (.s 18) (.s 20)])))
  (.rg [.bi 21 .add (.s 11) (.c (.int .i64 1)),
   .mv 11 (.s 21)])))))))
  (.sq (.rg [.mv 22 (.s 5),
   .mpl 23 (.s 22),
   .mv 24 (.s 0),
   .ln 25 (.s 24),
   .bi 26 .eql (.s 23) (.s 25),
   .mv 4 (.s 26)])
  .rt))))
theorem unl_eq1 : c116 = cUnlike 8 [(.str []), (.int .u32 0), (.int .i64 0), (.int .i64 0), (.int .i64 0), (.int .i64 0), .nils, .nils] := rfl
theorem unl_eq2 : c110 = cUnlike 2 [(.str []), (.str [])] := rfl
theorem unl_eq3 : c112 = cUnlike 7 [(.str []), (.bool false), (.int .i64 0), (.int .i64 0), (.int .u64 0), (.int .i64 0), (.int .i64 0)] := rfl
theorem nameG_spec (x : Gl) : Sp Tryz.prog gl 117 [.agg x.row] (.str x.n) := by
  refine s117 rfl rfl ?_
  unfold Gl.row
  simp -implicitDefEqProofs [c117]
theorem nameL_spec (x : Lb) : Sp Tryz.prog gl 111 [.agg x.row] (.str x.n) := by
  refine s111 rfl rfl ?_
  unfold Lb.row
  simp -implicitDefEqProofs [c111]
theorem nameR_spec (x : Ru) : Sp Tryz.prog gl 113 [.agg x.row] (.str x.n) := by
  refine s113 rfl rfl ?_
  unfold Ru.row
  simp -implicitDefEqProofs [c113]
set_option maxRecDepth 20000 in
theorem unlike_code (sz : Nat) (z : List AV) (f : Nat) (rows : List (List AV)) (names : List (List UInt8)) (hz : z.length = sz) (hl : names.length = rows.length) (hn : rows.length ≤ 1000000)
    (hr : ∀ i (h : i < rows.length), rows[i].length = sz ∧ idsL rows[i] = [] ∧ Sp Tryz.prog gl f [.agg rows[i]] (.str (names[i]'(by omega)))) :
    wpA (SpH Tryz.prog gl) (cUnlike sz z) (postA [.t 4] (.bool (uniq names))) ⟨initE 0 [.sl rows, .fn f []], [], []⟩ := by
  unfold cUnlike
  have w1 : IntKind.i64.wrap 1 = 1 := by rw [wrap_i64] <;> omega
  simp -implicitDefEqProofs
  refine wp_lpk (α := Nat × List (List UInt8 × Nat)) (fun x => ⟨[(0, .sl rows), (1, .fn f []), (5, .mref (.it 8)), (9, .sl rows), (10, i6 rows.length), (11, i6 x.1)], [(.it 8, [.mpv (cntV x.2)])], []⟩)
    (fun x => x.1 ≤ rows.length ∧ x.2.length = distR (names.take x.1).reverse ∧ (∀ n, n ∈ x.2.map Prod.fst ↔ n ∈ names.take x.1) ∧ ∀ p ∈ x.2, p.2 ≤ x.1) (fun x => rows.length - x.1) ?_ (0, []) ?_ ?_
  · rintro K ⟨i, l⟩ hK ⟨h1, h2, h3, h4⟩
    simp only at h1 h2 h3 h4
    by_cases g : i < rows.length
    · obtain ⟨r1, r2, r3⟩ := hr i g
      have r3 := Sp.h (d := 18) r3
      have hi : i < names.length := by omega
      have et : names.take (i + 1) = names.take i ++ [names[i]] := by rw [List.take_succ_eq_append_getElem hi]
      have fin : ∀ σ', Weak σ' ⟨[(0, .sl rows), (1, .fn f []), (5, .mref (.it 8)), (9, .sl rows), (10, i6 rows.length), (11, i6 (i + 1 : Nat))], [(.it 8, [.mpv (cntV (bump l names[i]))])], []⟩ → K σ' :=
        fun σ' hσ => hK (i + 1, bump l names[i]) σ' ⟨by simp only; omega, by
          simp only
          rw [bump_len, et, List.reverse_append, h2]
          simp only [List.reverse_cons, List.reverse_nil, List.nil_append, List.singleton_append, distR, h3, List.mem_reverse], by
          intro n
          rw [bump_mem, et, List.mem_append, h3]
          simp only [List.mem_singleton]
          exact Or.comm, bump_le _ _ _ h4⟩ (by simp only; omega) hσ
      have t1 : IntKind.i64.wrap ((i : Int) + 1) = (i + 1 : Nat) := by rw [wrap_i64] <;> omega
      obtain ⟨row, hrow⟩ : ∃ row, row = rows[i] := ⟨_, rfl⟩
      rw [← hrow] at r1 r2 r3
      have e1 : List.take sz row = row := List.take_of_length_le (by omega)
      have e2 : List.drop sz z = [] := List.drop_eq_nil_of_le (by omega)
      have hat : ∀ h, rows[i]'h = row := fun _ => hrow.symm
      rcases cnt_find names[i] l 0 with ⟨q1, q2⟩ | ⟨j, c, q0, q1, q2⟩
      · rw [q2] at fin
        generalize names[i] = nm at *
        clear hK hr hrow h2 h3 h4 et
        simp -implicitDefEqProofs [g, hat, r1, e1, hz, e2]
        refine onH_mk _ _ r3 ⟨?_, ?_, ?_, ?_, ?_, ?_, ?_⟩ ?_
        iterate 7 (· simp -implicitDefEqProofs)
        simp -implicitDefEqProofs [q1]
        refine fin _ (weak_mk ?_ ?_ ?_ ?_ ?_ ?_) <;> simp -implicitDefEqProofs [t1, w1]
      · rw [← q2] at fin
        have w2 : IntKind.i64.wrap ((c : Int) + 1) = ((c + 1 : Nat) : Int) := by have := h4 _ q0; simp only at this; rw [wrap_i64] <;> omega
        generalize names[i] = nm at *
        clear hK hr hrow h2 h3 h4 et
        rw [Nat.zero_add] at q1
        simp -implicitDefEqProofs [g, hat, r1, e1, hz, e2]
        refine onH_mk _ _ r3 ⟨?_, ?_, ?_, ?_, ?_, ?_, ?_⟩ ?_
        iterate 7 (· simp -implicitDefEqProofs)
        simp -implicitDefEqProofs [q1]
        refine fin _ (weak_mk ?_ ?_ ?_ ?_ ?_ ?_) <;> simp -implicitDefEqProofs [t1, w2]
    · obtain rfl : i = rows.length := by omega
      have ud := uniq_dist names
      rw [List.take_of_length_le (by omega)] at h2
      rw [← h2, hl] at ud
      have cl : (cntV l).length = l.length := by simp [cntV]
      clear hK hr h3 h4
      generalize uniq names = R at *
      simp -implicitDefEqProofs [cl, ud]
  · exact ⟨Nat.zero_le _, by simp [distR], by simp, by simp⟩
  · refine weak_mk ?_ ?_ ?_ ?_ ?_ ?_ <;> simp -implicitDefEqProofs [cntV]
theorem unlG_spec (l : List Gl) (hn : l.length ≤ 1000000) : Sp Tryz.prog gl 116 [.sl (l.map Gl.row), .fn 117 []] (.bool (uniq (l.map Gl.n))) := by
  refine s116 rfl rfl ?_
  rw [unl_eq1]
  refine unlike_code 8 _ _ (l.map Gl.row) (l.map Gl.n) rfl (by simp) (by simpa using hn) (fun i h => ?_)
  simp only [List.getElem_map]
  exact ⟨rfl, rfl, nameG_spec _⟩
theorem unlL_spec (l : List Lb) (hn : l.length ≤ 1000000) : Sp Tryz.prog gl 110 [.sl (l.map Lb.row), .fn 111 []] (.bool (uniq (l.map Lb.n))) := by
  refine s110 rfl rfl ?_
  rw [unl_eq2]
  refine unlike_code 2 _ _ (l.map Lb.row) (l.map Lb.n) rfl (by simp) (by simpa using hn) (fun i h => ?_)
  simp only [List.getElem_map]
  exact ⟨rfl, rfl, nameL_spec _⟩
theorem unlR_spec (l : List Ru) (hn : l.length ≤ 1000000) : Sp Tryz.prog gl 112 [.sl (l.map Ru.row), .fn 113 []] (.bool (uniq (l.map Ru.n))) := by
  refine s112 rfl rfl ?_
  rw [unl_eq3]
  refine unlike_code 7 _ _ (l.map Ru.row) (l.map Ru.n) rfl (by simp) (by simpa using hn) (fun i h => ?_)
  simp only [List.getElem_map]
  exact ⟨rfl, rfl, nameR_spec _⟩
end Go.Ai
set_option linter.unusedSimpArgs false
set_option linter.unusedVariables false
namespace Go.Ai
open Go.Proofs
def btw (n lo hi : Int) : Bool := decide (lo ≤ n ∧ n ≤ hi)
theorem btw_and (n lo hi : Int) : btw n lo hi = (decide (lo ≤ n) && decide (n ≤ hi)) := by simp [btw]
theorem btwI_spec (n lo hi : Int) : Sp Tryz.prog gl 44 [i6 n, i6 lo, i6 hi] (.bool (btw n lo hi)) := by
  refine s44 rfl rfl ?_
  rw [btw_and]
  simp -implicitDefEqProofs [c44]
  refine onB_dec (fun h => ?_) (fun h => ?_) <;> simp -implicitDefEqProofs [h]
theorem between6_spec (n lo hi : Int) : Sp Tryz.prog gl 43 [i6 n, i6 lo, i6 hi] (.bool (btw n lo hi)) := by
  refine s43 rfl rfl ?_
  rw [btw_and]
  simp -implicitDefEqProofs [c43]
  refine onB_dec (fun h => ?_) (fun h => ?_) <;> simp -implicitDefEqProofs [h]
theorem betweenU_spec (n lo hi : Nat) : Sp Tryz.prog gl 51 [u n, u lo, u hi] (.bool (btw n lo hi)) := by
  refine s51 rfl rfl ?_
  rw [btw_and]
  simp -implicitDefEqProofs [c51]
  refine onB_dec (fun h => ?_) (fun h => ?_) <;> simp -implicitDefEqProofs [h]
theorem between3_spec (n lo hi : Nat) : Sp Tryz.prog gl 42 [.int .u32 n, .int .u32 lo, .int .u32 hi] (.bool (btw n lo hi)) := by
  refine s42 rfl rfl ?_
  rw [btw_and]
  simp -implicitDefEqProofs [c42]
  refine onB_dec (fun h => ?_) (fun h => ?_) <;> simp -implicitDefEqProofs [h]
theorem rin_spec (n lo hi : Int) : Sp Tryz.prog gl 48 [i6 n, i6 lo, i6 hi] (.bool (btw n lo hi)) := by
  refine s48 rfl rfl ?_
  rw [btw_and]
  simp -implicitDefEqProofs [c48]
  refine onB_dec (fun h => ?_) (fun h => ?_) <;> simp -implicitDefEqProofs [h]
/-- A right rule, in the program's order. -/
def ruP (r : Ru) (g : Int) : Bool := decide (0 < g) && (btw r.s 1 r.l && (btw r.l 1 34560000 && (nameT r.n && (r.l.tmod g == 0 && (r.s.tmod g == 0 && (btw r.f 1 1000000 && (btw r.w 0 604800 && btw r.k 0 604800)))))))
set_option maxRecDepth 20000 in
theorem rru_spec (r : Ru) (g : Int) (hn : r.n.length ≤ 900000) : Sp Tryz.prog gl 13 [.agg r.row, i6 g] (.bool (ruP r g)) := by
  refine s13 rfl rfl ?_
  have N := tname_spec r.n hn
  obtain ⟨nm, p, l, s, f, w, k⟩ := r
  have hR : ruP ⟨nm, p, l, s, f, w, k⟩ g = (decide (0 < g) && (btw s 1 l && (btw l 1 34560000 && (nameT nm && (l.tmod g == 0 && (s.tmod g == 0 && (btw f 1 1000000 && (btw w 0 604800 && btw k 0 604800)))))))) := rfl
  simp only [Ru.row] at N ⊢
  generalize ruP ⟨nm, p, l, s, f, w, k⟩ g = R at *
  generalize nameT nm = T at *
  have B1 := between6_spec s 1 l
  have B2 := between6_spec l 1 34560000
  have B3 : Sp Tryz.prog gl 51 [u f, .int .u64 1, .int .u64 1000000] (.bool (btw f 1 1000000)) := betweenU_spec f 1 1000000
  have B4 := between6_spec w 0 604800
  have B5 := between6_spec k 0 604800
  generalize x1 : btw s 1 l = b1 at *
  generalize x2 : btw l 1 34560000 = b2 at *
  generalize x3 : btw (f : Int) 1 1000000 = b3 at *
  generalize x4 : btw w 0 604800 = b4 at *
  generalize x5 : btw k 0 604800 = b5 at *
  by_cases g0 : 0 < g
  · have g1 : ¬ g = 0 := by omega
    rw [decide_eq_true g0] at hR
    clear x1 x2 x3 x4 x5
    simp -implicitDefEqProofs [c13, g0, g1]
    repeat' first
      | (refine onC_mk _ (B1) ?_; simp -implicitDefEqProofs [g1])
      | (refine onC_mk _ (B2) ?_; simp -implicitDefEqProofs [g1])
      | (refine onC_mk _ (N) ?_; simp -implicitDefEqProofs [g1])
      | (refine onC_mk _ (B3) ?_; simp -implicitDefEqProofs [g1])
      | (refine onC_mk _ (B4) ?_; simp -implicitDefEqProofs [g1])
      | (refine onC_mk _ (B5) ?_; simp -implicitDefEqProofs [g1])
      | (refine onB_mk (fun h => ?_) (fun h => ?_) <;> (try simp only [Bool.not_eq_true', Bool.not_eq_false', decide_eq_true_eq, decide_eq_false_iff_not] at h) <;> simp -implicitDefEqProofs [h, g1])
    all_goals (rw [hR]; simp [*])
  · rw [decide_eq_false g0] at hR
    simp -implicitDefEqProofs [c13, g0]
    rw [hR]; simp
end Go.Ai
set_option linter.unusedSimpArgs false
set_option linter.unusedVariables false
namespace Go.Ai
open Go.Proofs
theorem stepF_bad (s : List UInt8) (i n r0 least : Nat) (h : (stepF s i n r0 least).1 = -1) : (stepF s i n r0 least).2 = 1 := by
  unfold stepF at h ⊢
  split
  · rename_i hc
    rw [if_pos hc] at h
    simp only at h
    omega
  · rfl
theorem stepR_bad (s : List UInt8) (i : Nat) (h : (stepR s i).1 = -1) : (stepR s i).2 = 1 := by
  unfold stepR at h ⊢
  simp only at h ⊢
  repeat' split
  all_goals first
    | rfl
    | (simp_all; done)
    | (simp_all; exact stepF_bad _ _ _ _ _ (by assumption))
theorem stepF_one (s : List UInt8) (i n r0 least : Nat) (hn : 1 ≤ n) (h : (stepF s i n r0 least).1 ≠ -1) : (stepF s i n r0 least).2 ≠ 1 := by
  unfold stepF at h ⊢
  split
  · simp only; omega
  · rename_i hc
    rw [if_neg hc] at h
    exact absurd rfl h
theorem stepR_one (s : List UInt8) (i : Nat) (h : (stepR s i).1 ≠ -1) (h1 : (stepR s i).2 = 1) : (stepR s i).1 < 128 := by
  by_cases hb : byt s i < 128
  · unfold stepR
    simp only [hb, if_true]; omega
  · exfalso
    unfold stepR at h h1
    simp only [hb, if_false] at h h1
    split at h
    · rename_i q; rw [if_pos q] at h1; exact stepF_one _ _ _ _ _ (by omega) h h1
    · rename_i q; rw [if_neg q] at h1
      split at h
      · rename_i q; rw [if_pos q] at h1; exact stepF_one _ _ _ _ _ (by omega) h h1
      · rename_i q; rw [if_neg q] at h1
        split at h
        · rename_i q; rw [if_pos q] at h1; exact stepF_one _ _ _ _ _ (by omega) h h1
        · exact absurd rfl h
/-- How many bytes the next rune has. -/
theorem rune_w (s : List UInt8) (i : Nat) (h : i < s.length) : (runeAt s i).2 = (stepR s i).2 := by
  rw [step_rune s i h]
  split
  · rename_i hb; rw [stepR_bad s i hb]
  · rfl
def goodR (l : List Int) : Bool := l.all fun r => decide (0 ≤ r)
theorem stepF_nn (s : List UInt8) (i n r0 least : Nat) : (stepF s i n r0 least).1 = -1 ∨ 0 ≤ (stepF s i n r0 least).1 := by
  unfold stepF
  split
  · right; simp only; omega
  · left; rfl
theorem stepR_nn (s : List UInt8) (i : Nat) : (stepR s i).1 = -1 ∨ 0 ≤ (stepR s i).1 := by
  unfold stepR
  simp only
  repeat' split
  all_goals first
    | exact stepF_nn _ _ _ _ _
    | (left; rfl)
    | (right; simp only; omega)
theorem decodeL_at (s : List UInt8) (i : Nat) : runeAt s i = (((Lib.decodeL (s.drop i)).1 : Int), (Lib.decodeL (s.drop i)).2) := by
  have := Lib.decodeL_drop ⟨s.toArray⟩ i
  simp only at this
  rw [this]
  rfl
theorem good_go (s : List UInt8) : ∀ (n i : Nat), s.length - i ≤ n → Lib.validGoD n (s.drop i) = goodR (runesL s i)
  | 0, i, h => by
    rw [runesL_out (by omega)]; rfl
  | n + 1, i, h => by
    by_cases g : i < s.length
    · have hne : s.drop i ≠ [] := by
        intro e
        have := congrArg List.length e
        rw [List.length_drop] at this
        simp at this; omega
      have sr := step_rune s i g
      have da := decodeL_at s i
      rw [da] at sr
      simp only [Lib.validGoD, if_neg hne]
      rw [runesL_in g]
      have pos := stepR_pos s i
      by_cases hb : (stepR s i).1 = -1
      · rw [if_pos hb] at sr
        simp only [Prod.mk.injEq] at sr
        rw [if_pos ⟨by omega, sr.2⟩]
        simp [goodR, hb]
      · rw [if_neg hb] at sr
        have e1 : ((Lib.decodeL (s.drop i)).1 : Int) = (stepR s i).1 := congrArg Prod.fst sr
        have e2 : (Lib.decodeL (s.drop i)).2 = (stepR s i).2 := congrArg Prod.snd sr
        rw [if_neg (by
          rintro ⟨q1, q2⟩
          have := stepR_one s i hb (by omega)
          omega)]
        rw [List.drop_drop, e2, good_go s n (i + (stepR s i).2) (by omega)]
        have h0 : 0 ≤ (stepR s i).1 := by rcases stepR_nn s i with h | h; exact absurd h hb; exact h
        simp [goodR, h0]
    · have e : s.drop i = [] := List.drop_eq_nil_of_le (by omega)
      simp only [Lib.validGoD, e, if_true]
      rw [runesL_out g]; rfl
theorem validD_good (s : List UInt8) : Lib.validD s = goodR (runesL s 0) := by
  have := good_go s s.length 0 (by omega)
  rwa [List.drop_zero] at this
set_option maxRecDepth 20000 in
theorem rgood_spec (s : List UInt8) (hl : s.length ≤ 900000) : Sp Tryz.prog gl 49 [.str s] (.bool (goodR (runesL s 0))) := by
  refine s49 rfl rfl ?_
  have R := runes_spec s hl
  have len := runesL_len s s.length 0 (by omega)
  have rl := runeRows_len (runesL s 0)
  have rat : ∀ i (h : i < (runesL s 0).length), (runeRows (runesL s 0))[i]? = some [.int .i32 (runesL s 0)[i]] := by intro i h; simp [runeRows, i3, h]
  generalize runesL s 0 = L at *
  obtain ⟨G, hG⟩ : ∃ G, G = goodR L := ⟨_, rfl⟩
  rw [← hG]
  generalize runeRows L = RR at *
  simp -implicitDefEqProofs [c49]
  refine onC_mk _ (R) ?_
  simp -implicitDefEqProofs
  refine wp_lpk (α := Nat) (fun i => ⟨[(3, .sl RR), (4, i6 i)], [], []⟩) (fun i => i ≤ L.length ∧ goodR (L.drop i) = G) (fun i => L.length - i) ?_ 0 ?_ ?_
  · rintro K i hK ⟨h1, h2⟩
    by_cases g : i < L.length
    · have t1 : IntKind.i64.wrap ((i : Int) + 1) = (i + 1 : Nat) := by rw [wrap_i64] <;> omega
      have ra := rat i g
      rw [List.drop_eq_getElem_cons g] at h2
      simp only [goodR, List.all_cons] at h2
      have gR : i < RR.length := by omega
      have ra' : ∀ h, RR[i]'h = [.int .i32 L[i]] := fun h => by rw [List.getElem?_eq_getElem h] at ra; exact Option.some.inj ra
      have fin : decide (0 ≤ L[i]) = true → ∀ σ', Weak σ' ⟨[(3, .sl RR), (4, i6 (i + 1 : Nat))], [], []⟩ → K σ' := fun hd σ' hσ => hK (i + 1) σ' ⟨by omega, by rw [hd, Bool.true_and] at h2; exact h2⟩ (by omega) hσ
      generalize L[i] = r at *
      by_cases hr : r < 0
      · rw [decide_eq_false (by omega), Bool.false_and] at h2
        subst h2
        simp -implicitDefEqProofs [rl, g, gR, ra', hr]
      · have fin := fin (decide_eq_true (by omega))
        clear hK
        simp -implicitDefEqProofs [rl, g, gR, ra', hr]
        refine fin _ (weak_mk ?_ ?_ ?_ ?_ ?_ ?_) <;> simp -implicitDefEqProofs [t1]
    · obtain rfl : i = L.length := by omega
      rw [List.drop_length] at h2
      have : G = true := by rw [← h2]; rfl
      subst this
      simp -implicitDefEqProofs [rl]
  · exact ⟨Nat.zero_le _, hG.symm⟩
  · refine weak_mk ?_ ?_ ?_ ?_ ?_ ?_ <;> simp -implicitDefEqProofs
set_option maxRecDepth 20000 in
theorem tcount_spec (s : List UInt8) (hl : s.length ≤ 900000) : Sp Tryz.prog gl 109 [.str s] (i6 (runesL s 0).length) := by
  refine s109 rfl rfl ?_
  obtain ⟨R, hR⟩ : ∃ R, R = (runesL s 0).length := ⟨_, rfl⟩
  rw [← hR]
  simp -implicitDefEqProofs [c109]
  refine wp_lpk (α := Nat × Nat) (fun x => ⟨[(3, i6 x.2), (5, .itp 5)], [(.it 5, [.itr s x.1])], []⟩)
    (fun x => x.2 ≤ x.1 ∧ x.2 + (runesL s x.1).length = R ∧ x.1 ≤ s.length + 3) (fun x => s.length + 4 - x.1) ?_ (0, 0) ?_ ?_
  · rintro K ⟨i, n⟩ hK ⟨h1, h2, h3⟩
    simp only at h1 h2 h3
    by_cases g : i < s.length
    · rw [runesL_in g] at h2
      simp only [List.length_cons] at h2
      have sw := rune_w s i g
      have sl := stepR_lt g
      have sp := stepR_pos s i
      have fin : ∀ σ', Weak σ' ⟨[(3, i6 (n + 1 : Nat)), (5, .itp 5)], [(.it 5, [.itr s (i + (stepR s i).2)])], []⟩ → K σ' :=
        fun σ' hσ => hK (i + (stepR s i).2, n + 1) σ' ⟨by simp only; omega, by simp only; omega, by simp only; omega⟩ (by simp only; omega) hσ
      have t1 : IntKind.i64.wrap ((n : Int) + 1) = (n + 1 : Nat) := by rw [wrap_i64] <;> omega
      clear hK hR h2
      simp -implicitDefEqProofs [g, sw]
      refine fin _ (weak_mk ?_ ?_ ?_ ?_ ?_ ?_) <;> simp -implicitDefEqProofs [t1]
    · rw [runesL_out g] at h2
      have : n = R := by simpa using h2
      subst this
      simp -implicitDefEqProofs [g]
  · exact ⟨Nat.le_refl _, by simp [hR], by simp⟩
  · refine weak_mk ?_ ?_ ?_ ?_ ?_ ?_ <;> simp -implicitDefEqProofs
end Go.Ai
set_option linter.unusedSimpArgs false
set_option linter.unusedVariables false
namespace Go.Ai
open Go.Proofs Go.Shelf
def ren_laysJoin : Ren := {
  f := fun x => match x with
    | 167 => 100
    | 156 => 136
    | 165 => 191
    | 166 => 98
    | 169 => 80
    | 240 => 157
    | 241 => 240
    | 276 => 209
    | 277 => 283
    | n => n
  t := fun x => match x with
    | 31 => 36
    | 9 => 9
    | 3 => 3
    | 4 => 4
    | 0 => 0
    | 20 => 20
    | 72 => 146
    | 76 => 176
    | 70 => 143
    | 37 => 144
    | 75 => 175
    | 127 => 216
    | 164 => 297
    | 5 => 5
    | 80 => 155
    | n => n
  g := fun x => x }
set_option maxRecDepth 100000 in
theorem laysJoin : Lays.n156 Tryz.prog ren_laysJoin where
  mixed := by kernel_rfl
  f156 := Eq.trans Tryz.func136 (congrArg some (show Tryz.f136 = Body.n156 ren_laysJoin by kernel_rfl))
  f165 := Eq.trans Tryz.func191 (congrArg some (show Tryz.f191 = Body.n165 ren_laysJoin by kernel_rfl))
  f166 := Eq.trans Tryz.func98 (congrArg some (show Tryz.f98 = Body.n166 ren_laysJoin by kernel_rfl))
  f169 := Eq.trans Tryz.func80 (congrArg some (show Tryz.f80 = Body.n169 ren_laysJoin by kernel_rfl))
  f240 := Eq.trans Tryz.func157 (congrArg some (show Tryz.f157 = Body.n240 ren_laysJoin by kernel_rfl))
  f241 := Eq.trans Tryz.func240 (congrArg some (show Tryz.f240 = Body.n241 ren_laysJoin by kernel_rfl))
  f276 := Eq.trans Tryz.func209 (congrArg some (show Tryz.f209 = Body.n276 ren_laysJoin by kernel_rfl))
  f277 := Eq.trans Tryz.func283 (congrArg some (show Tryz.f283 = Body.n277 ren_laysJoin by kernel_rfl))
  t0 := Tryz.underlying0
  a0 := Tryz.isAgg0
  z0 := Tryz.sizeOf0
  v0 := Tryz.zeroValue0
  t3 := Tryz.underlying3
  a3 := Tryz.isAgg3
  z3 := Tryz.sizeOf3
  v3 := Tryz.zeroValue3
  t4 := Tryz.underlying4
  a4 := Tryz.isAgg4
  z4 := Tryz.sizeOf4
  v4 := Tryz.zeroValue4
  t9 := Tryz.underlying9
  a9 := Tryz.isAgg9
  z9 := Tryz.sizeOf9
  v9 := Tryz.zeroValue9
  t20 := Tryz.underlying20
  a20 := Tryz.isAgg20
  z20 := Tryz.sizeOf20
  v20 := Tryz.zeroValue20
  t31 := Tryz.underlying36
  a31 := Tryz.isAgg36
  z31 := Tryz.sizeOf36
  v31 := Tryz.zeroValue36
  t37 := Tryz.underlying144
  a37 := Tryz.isAgg144
  z37 := Tryz.sizeOf144
  v37 := Tryz.zeroValue144
  t70 := Tryz.underlying143
  a70 := Tryz.isAgg143
  z70 := Tryz.sizeOf143
  v70 := Tryz.zeroValue143
  t72 := Tryz.underlying146
  a72 := Tryz.isAgg146
  z72 := Tryz.sizeOf146
  v72 := Tryz.zeroValue146
  t75 := Tryz.underlying175
  a75 := Tryz.isAgg175
  z75 := Tryz.sizeOf175
  v75 := Tryz.zeroValue175
  t76 := Tryz.underlying176
  a76 := Tryz.isAgg176
  z76 := Tryz.sizeOf176
  v76 := Tryz.zeroValue176
  t127 := Tryz.underlying216
  a127 := Tryz.isAgg216
  z127 := Tryz.sizeOf216
  v127 := Tryz.zeroValue216
  t164 := Tryz.underlying297
  a164 := Tryz.isAgg297
  z164 := Tryz.sizeOf297
  v164 := Tryz.zeroValue297
def ren_laysSmall : Ren := {
  f := fun x => match x with
    | 283 => 241
    | n => n
  t := fun x => match x with
    | 3 => 3
    | 9 => 9
    | 4 => 4
    | n => n
  g := fun x => x }
set_option maxRecDepth 100000 in
theorem laysSmall : Lays.n283 Tryz.prog ren_laysSmall where
  mixed := by kernel_rfl
  f283 := Eq.trans Tryz.func241 (congrArg some (show Tryz.f241 = Body.n283 ren_laysSmall by kernel_rfl))
  t3 := Tryz.underlying3
  a3 := Tryz.isAgg3
  z3 := Tryz.sizeOf3
  v3 := Tryz.zeroValue3
  t4 := Tryz.underlying4
  a4 := Tryz.isAgg4
  z4 := Tryz.sizeOf4
  v4 := Tryz.zeroValue4
  t9 := Tryz.underlying9
  a9 := Tryz.isAgg9
  z9 := Tryz.sizeOf9
  v9 := Tryz.zeroValue9
def ren_laysDig : Ren := {
  f := fun x => match x with
    | 284 => 242
    | 129 => 285
    | 317 => 284
    | 318 => 286
    | n => n
  t := fun x => match x with
    | 53 => 27
    | 3 => 3
    | 212 => 370
    | 0 => 0
    | 4 => 4
    | 46 => 290
    | 5 => 5
    | 9 => 9
    | n => n
  g := fun x => match x with
    | 17 => 5
    | n => n }
set_option maxRecDepth 100000 in
theorem laysDig : LaysM.n284 Tryz.prog ren_laysDig where
  mixed := by kernel_rfl
  f129 := Eq.trans Tryz.func285 (congrArg some (show Tryz.f285 = Body.n129 ren_laysDig by kernel_rfl))
  f284 := Eq.trans Tryz.func242 (congrArg some (show Tryz.f242 = Body.n284 ren_laysDig by kernel_rfl))
  f317 := Eq.trans Tryz.func284 (congrArg some (show Tryz.f284 = Body.n317 ren_laysDig by kernel_rfl))
  f318 := Eq.trans Tryz.func286 (congrArg some (show Tryz.f286 = Body.n318 ren_laysDig by kernel_rfl))
  t0 := Tryz.underlying0
  a0 := Tryz.isAgg0
  z0 := Tryz.sizeOf0
  v0 := Tryz.zeroValue0
  t3 := Tryz.underlying3
  a3 := Tryz.isAgg3
  z3 := Tryz.sizeOf3
  v3 := Tryz.zeroValue3
  t4 := Tryz.underlying4
  a4 := Tryz.isAgg4
  z4 := Tryz.sizeOf4
  v4 := Tryz.zeroValue4
  t5 := Tryz.underlying5
  a5 := Tryz.isAgg5
  z5 := Tryz.sizeOf5
  v5 := Tryz.zeroValue5
  t9 := Tryz.underlying9
  a9 := Tryz.isAgg9
  z9 := Tryz.sizeOf9
  v9 := Tryz.zeroValue9
  t46 := Tryz.underlying290
  a46 := Tryz.isAgg290
  z46 := Tryz.sizeOf290
  v46 := Tryz.zeroValue290
  t53 := Tryz.underlying27
  a53 := Tryz.isAgg27
  z53 := Tryz.sizeOf27
  v53 := Tryz.zeroValue27
  t212 := Tryz.underlying370
  a212 := Tryz.isAgg370
  z212 := Tryz.sizeOf370
  v212 := Tryz.zeroValue370
  g17 := by kernel_rfl
  i0 := by kernel_rfl
  i3 := by kernel_rfl
  i4 := by kernel_rfl
  i5 := by kernel_rfl
  i9 := by kernel_rfl
  i46 := by kernel_rfl
  i53 := by kernel_rfl
  i212 := by kernel_rfl
  m17 := by kernel_rfl
def ren_laysFmt : Ren := {
  f := fun x => match x with
    | 285 => 243
    | n => n
  t := fun x => match x with
    | 37 => 144
    | 53 => 27
    | 3 => 3
    | 4 => 4
    | 51 => 22
    | 9 => 9
    | 5 => 5
    | 0 => 0
    | n => n
  g := fun x => x }
set_option maxRecDepth 100000 in
theorem laysFmt : Lays.n285 Tryz.prog ren_laysFmt where
  mixed := by kernel_rfl
  f285 := Eq.trans Tryz.func243 (congrArg some (show Tryz.f243 = Body.n285 ren_laysFmt by kernel_rfl))
  t0 := Tryz.underlying0
  a0 := Tryz.isAgg0
  z0 := Tryz.sizeOf0
  v0 := Tryz.zeroValue0
  t3 := Tryz.underlying3
  a3 := Tryz.isAgg3
  z3 := Tryz.sizeOf3
  v3 := Tryz.zeroValue3
  t4 := Tryz.underlying4
  a4 := Tryz.isAgg4
  z4 := Tryz.sizeOf4
  v4 := Tryz.zeroValue4
  t5 := Tryz.underlying5
  a5 := Tryz.isAgg5
  z5 := Tryz.sizeOf5
  v5 := Tryz.zeroValue5
  t9 := Tryz.underlying9
  a9 := Tryz.isAgg9
  z9 := Tryz.sizeOf9
  v9 := Tryz.zeroValue9
  t37 := Tryz.underlying144
  a37 := Tryz.isAgg144
  z37 := Tryz.sizeOf144
  v37 := Tryz.zeroValue144
  t51 := Tryz.underlying22
  a51 := Tryz.isAgg22
  z51 := Tryz.sizeOf22
  v51 := Tryz.zeroValue22
  t53 := Tryz.underlying27
  a53 := Tryz.isAgg27
  z53 := Tryz.sizeOf27
  v53 := Tryz.zeroValue27
def ren_laysValid : Ren := {
  f := fun x => match x with
    | 196 => 169
    | 259 => 224
    | n => n
  t := fun x => match x with
    | 9 => 9
    | 4 => 4
    | 3 => 3
    | 5 => 5
    | 12 => 12
    | 119 => 299
    | 0 => 0
    | 46 => 290
    | 139 => 314
    | 138 => 313
    | 53 => 27
    | n => n
  g := fun x => match x with
    | 3 => 1
    | 4 => 2
    | n => n }
set_option maxRecDepth 100000 in
theorem laysValid : Lays.n196 Tryz.prog ren_laysValid where
  mixed := by kernel_rfl
  f196 := Eq.trans Tryz.func169 (congrArg some (show Tryz.f169 = Body.n196 ren_laysValid by kernel_rfl))
  f259 := Eq.trans Tryz.func224 (congrArg some (show Tryz.f224 = Body.n259 ren_laysValid by kernel_rfl))
  t0 := Tryz.underlying0
  a0 := Tryz.isAgg0
  z0 := Tryz.sizeOf0
  v0 := Tryz.zeroValue0
  t3 := Tryz.underlying3
  a3 := Tryz.isAgg3
  z3 := Tryz.sizeOf3
  v3 := Tryz.zeroValue3
  t4 := Tryz.underlying4
  a4 := Tryz.isAgg4
  z4 := Tryz.sizeOf4
  v4 := Tryz.zeroValue4
  t5 := Tryz.underlying5
  a5 := Tryz.isAgg5
  z5 := Tryz.sizeOf5
  v5 := Tryz.zeroValue5
  t9 := Tryz.underlying9
  a9 := Tryz.isAgg9
  z9 := Tryz.sizeOf9
  v9 := Tryz.zeroValue9
  t12 := Tryz.underlying12
  a12 := Tryz.isAgg12
  z12 := Tryz.sizeOf12
  v12 := Tryz.zeroValue12
  t46 := Tryz.underlying290
  a46 := Tryz.isAgg290
  z46 := Tryz.sizeOf290
  v46 := Tryz.zeroValue290
  t53 := Tryz.underlying27
  a53 := Tryz.isAgg27
  z53 := Tryz.sizeOf27
  v53 := Tryz.zeroValue27
  t119 := Tryz.underlying299
  a119 := Tryz.isAgg299
  z119 := Tryz.sizeOf299
  t138 := Tryz.underlying313
  a138 := Tryz.isAgg313
  z138 := Tryz.sizeOf313
  v138 := Tryz.zeroValue313
  t139 := Tryz.underlying314
  a139 := Tryz.isAgg314
  z139 := Tryz.sizeOf314
  v139 := Tryz.zeroValue314
  g3 := by kernel_rfl
  g4 := by kernel_rfl
def ren_laysCutP : Ren := {
  f := fun x => match x with
    | 103 => 198
    | 210 => 249
    | 206 => 291
    | n => n
  t := fun x => match x with
    | 9 => 9
    | 4 => 4
    | 24 => 283
    | 3 => 3
    | n => n
  g := fun x => x }
set_option maxRecDepth 100000 in
theorem laysCutP : Lays.n103 Tryz.prog ren_laysCutP where
  mixed := by kernel_rfl
  f103 := Eq.trans Tryz.func198 (congrArg some (show Tryz.f198 = Body.n103 ren_laysCutP by kernel_rfl))
  f206 := Eq.trans Tryz.func291 (congrArg some (show Tryz.f291 = Body.n206 ren_laysCutP by kernel_rfl))
  f210 := Eq.trans Tryz.func249 (congrArg some (show Tryz.f249 = Body.n210 ren_laysCutP by kernel_rfl))
  t3 := Tryz.underlying3
  a3 := Tryz.isAgg3
  z3 := Tryz.sizeOf3
  v3 := Tryz.zeroValue3
  t4 := Tryz.underlying4
  a4 := Tryz.isAgg4
  z4 := Tryz.sizeOf4
  v4 := Tryz.zeroValue4
  t9 := Tryz.underlying9
  a9 := Tryz.isAgg9
  z9 := Tryz.sizeOf9
  v9 := Tryz.zeroValue9
  t24 := Tryz.underlying283
  a24 := Tryz.isAgg283
  z24 := Tryz.sizeOf283
  v24 := Tryz.zeroValue283
def ren_laysSplit : Ren := {
  f := fun x => match x with
    | 146 => 160
    | 221 => 213
    | 268 => 260
    | 138 => 261
    | 143 => 196
    | 195 => 297
    | 197 => 195
    | 218 => 298
    | 219 => 212
    | 260 => 246
    | 217 => 256
    | 225 => 257
    | 224 => 258
    | 267 => 259
    | 266 => 295
    | 314 => 296
    | n => n
  t := fun x => match x with
    | 9 => 9
    | 31 => 36
    | 3 => 3
    | 4 => 4
    | 0 => 0
    | 105 => 280
    | 21 => 21
    | 5 => 5
    | 46 => 290
    | 119 => 299
    | 139 => 314
    | 138 => 313
    | 146 => 384
    | 51 => 22
    | n => n
  g := fun x => match x with
    | 1 => 4
    | 3 => 1
    | 4 => 2
    | n => n }
set_option maxRecDepth 100000 in
theorem laysSplit : LaysM.n146 Tryz.prog ren_laysSplit where
  mixed := by kernel_rfl
  f138 := Eq.trans Tryz.func261 (congrArg some (show Tryz.f261 = Body.n138 ren_laysSplit by kernel_rfl))
  f143 := Eq.trans Tryz.func196 (congrArg some (show Tryz.f196 = Body.n143 ren_laysSplit by kernel_rfl))
  f146 := Eq.trans Tryz.func160 (congrArg some (show Tryz.f160 = Body.n146 ren_laysSplit by kernel_rfl))
  f195 := Eq.trans Tryz.func297 (congrArg some (show Tryz.f297 = Body.n195 ren_laysSplit by kernel_rfl))
  f197 := Eq.trans Tryz.func195 (congrArg some (show Tryz.f195 = Body.n197 ren_laysSplit by kernel_rfl))
  f217 := Eq.trans Tryz.func256 (congrArg some (show Tryz.f256 = Body.n217 ren_laysSplit by kernel_rfl))
  f218 := Eq.trans Tryz.func298 (congrArg some (show Tryz.f298 = Body.n218 ren_laysSplit by kernel_rfl))
  f219 := Eq.trans Tryz.func212 (congrArg some (show Tryz.f212 = Body.n219 ren_laysSplit by kernel_rfl))
  f221 := Eq.trans Tryz.func213 (congrArg some (show Tryz.f213 = Body.n221 ren_laysSplit by kernel_rfl))
  f224 := Eq.trans Tryz.func258 (congrArg some (show Tryz.f258 = Body.n224 ren_laysSplit by kernel_rfl))
  f225 := Eq.trans Tryz.func257 (congrArg some (show Tryz.f257 = Body.n225 ren_laysSplit by kernel_rfl))
  f260 := Eq.trans Tryz.func246 (congrArg some (show Tryz.f246 = Body.n260 ren_laysSplit by kernel_rfl))
  f266 := Eq.trans Tryz.func295 (congrArg some (show Tryz.f295 = Body.n266 ren_laysSplit by kernel_rfl))
  f267 := Eq.trans Tryz.func259 (congrArg some (show Tryz.f259 = Body.n267 ren_laysSplit by kernel_rfl))
  f268 := Eq.trans Tryz.func260 (congrArg some (show Tryz.f260 = Body.n268 ren_laysSplit by kernel_rfl))
  f314 := Eq.trans Tryz.func296 (congrArg some (show Tryz.f296 = Body.n314 ren_laysSplit by kernel_rfl))
  t0 := Tryz.underlying0
  a0 := Tryz.isAgg0
  z0 := Tryz.sizeOf0
  v0 := Tryz.zeroValue0
  t3 := Tryz.underlying3
  a3 := Tryz.isAgg3
  z3 := Tryz.sizeOf3
  v3 := Tryz.zeroValue3
  t4 := Tryz.underlying4
  a4 := Tryz.isAgg4
  z4 := Tryz.sizeOf4
  v4 := Tryz.zeroValue4
  t5 := Tryz.underlying5
  a5 := Tryz.isAgg5
  z5 := Tryz.sizeOf5
  v5 := Tryz.zeroValue5
  t9 := Tryz.underlying9
  a9 := Tryz.isAgg9
  z9 := Tryz.sizeOf9
  v9 := Tryz.zeroValue9
  t21 := Tryz.underlying21
  a21 := Tryz.isAgg21
  z21 := Tryz.sizeOf21
  v21 := Tryz.zeroValue21
  t31 := Tryz.underlying36
  a31 := Tryz.isAgg36
  z31 := Tryz.sizeOf36
  v31 := Tryz.zeroValue36
  t46 := Tryz.underlying290
  a46 := Tryz.isAgg290
  z46 := Tryz.sizeOf290
  v46 := Tryz.zeroValue290
  t51 := Tryz.underlying22
  a51 := Tryz.isAgg22
  z51 := Tryz.sizeOf22
  v51 := Tryz.zeroValue22
  t105 := Tryz.underlying280
  a105 := Tryz.isAgg280
  z105 := Tryz.sizeOf280
  v105 := Tryz.zeroValue280
  t119 := Tryz.underlying299
  a119 := Tryz.isAgg299
  z119 := Tryz.sizeOf299
  t138 := Tryz.underlying313
  a138 := Tryz.isAgg313
  z138 := Tryz.sizeOf313
  v138 := Tryz.zeroValue313
  t139 := Tryz.underlying314
  a139 := Tryz.isAgg314
  z139 := Tryz.sizeOf314
  v139 := Tryz.zeroValue314
  t146 := Tryz.underlying384
  a146 := Tryz.isAgg384
  z146 := Tryz.sizeOf384
  v146 := Tryz.zeroValue384
  g1 := by kernel_rfl
  g3 := by kernel_rfl
  g4 := by kernel_rfl
  i0 := by kernel_rfl
  i3 := by kernel_rfl
  i4 := by kernel_rfl
  i5 := by kernel_rfl
  i9 := by kernel_rfl
  i21 := by kernel_rfl
  i31 := by kernel_rfl
  i46 := by kernel_rfl
  i51 := by kernel_rfl
  i105 := by kernel_rfl
  i138 := by kernel_rfl
  i139 := by kernel_rfl
  i146 := by kernel_rfl
  m1 := by kernel_rfl
  s1_3 := fun w h => cell_of_shapedOpen_int h (of_decide_eq_true (Eq.refl true)) (Eq.refl (some (#[Value.int IntKind.i64 0], 3))) rfl (Eq.refl true) (Eq.refl (some [3])) Tryz.underlying3
  m3 := by kernel_rfl
  m4 := by kernel_rfl
end Go.Ai
set_option linter.unusedSimpArgs false
set_option linter.unusedVariables false
namespace Go.Ai
open Go.Proofs
theorem first_gl : List.lookup 1 gl = some ((List.range 256).map fun c => Value.int .u8 (Lib.firstT c)) := by kernel_rfl
theorem accept_gl : List.lookup 2 gl = some ((List.range 32).map fun c => Value.int .u8 (if c % 2 = 0 then Lib.accLo (c / 2) else Lib.accHi (c / 2))) := by kernel_rfl
theorem utf8_tabs {w : World} (h : ∀ i us, List.lookup i gl = some us → ∀ (o : Nat) (u : Value), us[o]? = some u → w.cell? ⟨i, o, none⟩ = some u) : Lib.Utf8Tabs 1 2 w := by
  refine ⟨fun c hc => ?_, fun i hi => ⟨?_, ?_⟩⟩
  · exact h _ _ first_gl c _ (by simp [hc])
  · refine h _ _ accept_gl (2 * i) _ ?_
    have h1 : 2 * i < 32 := by omega
    have h2 : 2 * i % 2 = 0 := by omega
    have h3 : 2 * i / 2 = i := by omega
    simp [h1, h2, h3]
  · refine h _ _ accept_gl (2 * i + 1) _ ?_
    have h1 : 2 * i + 1 < 32 := by omega
    have h2 : ¬ (2 * i + 1) % 2 = 0 := by omega
    have h3 : (2 * i + 1) / 2 = i := by omega
    simp only [List.getElem?_map, List.getElem?_range h1, Option.map_some, if_neg h2, h3]
theorem valid_spec (s : List UInt8) (hl : s.length ≤ 900000) : Sp Tryz.prog gl 169 [.str s] (.bool (Lib.validD s)) := by
  refine shelf_specG Tryz.func169 (by kernel_rfl) (by kernel_rfl) ?_
  intro S gb w vs hvs hag hgl
  simp only [PRlist, PR] at hvs
  obtain ⟨_, _, rfl, rfl, rfl⟩ := hvs
  have hs : (ByteArray.mk s.toArray).size ≤ 9223372036854775807 := by
    have : (ByteArray.mk s.toArray).size = s.length := rfl
    omega
  exact (Any.utf8_ValidString laysValid ⟨s.toArray⟩ w hs (utf8_tabs hgl)).mono fun e w' ⟨he, hw⟩ => ⟨_, he, hw, by simp [PR]⟩
theorem tgood_spec (s : List UInt8) (hl : s.length ≤ 900000) : Sp Tryz.prog gl 108 [.str s] (.bool (goodR (runesL s 0))) := by
  refine s108 rfl rfl ?_
  have V := valid_spec s hl
  rw [validD_good] at V
  generalize goodR (runesL s 0) = b at *
  simp -implicitDefEqProofs [c108]
  refine onC_mk _ (V) ?_
  simp -implicitDefEqProofs
end Go.Ai
