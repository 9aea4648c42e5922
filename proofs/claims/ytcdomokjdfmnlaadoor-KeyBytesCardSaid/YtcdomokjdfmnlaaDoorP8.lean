/- YtcdomokjdfmnlaaDoorP8: part of the abstract interpreter library (values, rules, soundness against the model) or of what a function of the seat computes. Conditions: as each theorem says. -/
import Derived.Test.YtcdomokjdfmnlaaDoorP7
import Derived.Test.YtcdomokjdfmnlaaDoorP1
import Derived.Test.YtcdomokjdfmnlaaDoorAiShelf2
set_option linter.unusedSimpArgs false
set_option linter.unusedVariables false
namespace Go.Ai
open Go.Proofs Go.RowKit
theorem getN_none : getN none = (none, 0) := rfl
theorem textN_none : textN 96 none = (none, []) := rfl
theorem flagN_none : flagN none = (none, false) := rfl
theorem getN_got (B : List UInt8) (a : Nat) : getN (some (B.drop a)) = match gotN B a with | some (n, nx) => (some (B.drop nx), n) | none => (none, 0) := by
  unfold gotN
  cases h : B.drop a with
  | nil => rfl
  | cons k r =>
    have hr : B.drop (a + 1) = r := by rw [← List.drop_drop, h]; rfl
    simp only [getN]
    split
    · rename_i hc
      rw [← hr, List.drop_drop]
    · rfl
theorem textN_got (B : List UInt8) (a : Nat) : textN 96 (some (B.drop a)) = match stepT 2 B a with | some (g, nx) => (some (B.drop nx), g.S) | none => (none, []) := by
  have e : stepT 2 B a = match gotN B a with
    | some (n, nx) => if n ≤ 96 ∧ n ≤ B.length - nx then some (⟨0, (B.drop nx).take n, false⟩, nx + n) else none
    | none => none := rfl
  rw [e]
  unfold textN countN
  rw [getN_got]
  cases h : gotN B a with
  | none => rfl
  | some p =>
    obtain ⟨n, nx⟩ := p
    simp only
    by_cases g : n ≤ 96
    · simp only [g, if_true, true_and, takeN, List.length_drop]
      by_cases g2 : n ≤ B.length - nx
      · simp only [g2, if_true, List.drop_drop]
      · simp only [g2, if_false]
    · simp only [g, if_false, false_and]; rfl
theorem flagN_got (B : List UInt8) (a : Nat) : flagN (some (B.drop a)) = match stepT 3 B a with | some (g, nx) => (some (B.drop nx), g.F) | none => (none, false) := by
  unfold stepT
  rw [if_pos rfl]
  cases h : B.drop a with
  | nil => rfl
  | cons b r =>
    have hr : B.drop (a + 1) = r := by rw [← List.drop_drop, h]; rfl
    simp only [flagN]
    by_cases g : b.toNat < 2
    · rw [if_pos g, if_pos (show b.toNat ≤ 1 by omega)]; simp only [hr]
    · rw [if_neg g, if_neg (show ¬ b.toNat ≤ 1 by omega)]
theorem numN_got (B : List UInt8) (a : Nat) : getN (some (B.drop a)) = match stepT 0 B a with | some (g, nx) => (some (B.drop nx), g.N) | none => (none, 0) := by
  rw [getN_got]
  unfold stepT
  rw [if_neg (by decide)]
  cases gotN B a with
  | none => rfl
  | some p => rfl
theorem stepT_le {k : Nat} {B : List UInt8} {a nx : Nat} {g : Gt} (h : stepT k B a = some (g, nx)) : nx ≤ B.length := by
  unfold stepT at h
  split at h
  · split at h
    · cases h
    · rename_i b r e
      have hl := congrArg List.length e
      rw [List.length_drop, List.length_cons] at hl
      split at h
      · simp only [Option.some.injEq, Prod.mk.injEq] at h; omega
      · cases h
  · split at h
    · rename_i n nx' e
      have := gotN_le e
      split at h
      · simp only [Option.some.injEq, Prod.mk.injEq] at h; omega
      · split at h
        · simp only [Option.some.injEq, Prod.mk.injEq] at h; omega
        · cases h
    · cases h
/-- The document's reading and the program's. -/
theorem goG_get (B : List UInt8) : (∃ (k : Ky) (nx : Nat), goG B kindsL 0 [] = .tup [.agg k.row, i6 nx, .bool (rightK k)] ∧ nx ≤ B.length ∧ getK (some B) = if rightK k = true then (some (B.drop nx), k) else (none, kz)) ∨ (goG B kindsL 0 [] = failR ∧ getK (some B) = (none, kz)) := by
  have h0 : some B = some (B.drop 0) := rfl
  unfold getK kindsL
  simp only [goG]
  rw [h0, textN_got]
  cases e1 : stepT 2 B 0 with
  | none => right; exact ⟨rfl, rfl⟩
  | some p1 =>
    obtain ⟨g1, n1⟩ := p1
    simp only
    rw [textN_got]
    cases e2 : stepT 2 B n1 with
    | none => right; exact ⟨rfl, rfl⟩
    | some p2 =>
      obtain ⟨g2, n2⟩ := p2
      simp only
      rw [flagN_got]
      cases e3 : stepT 3 B n2 with
      | none => right; exact ⟨rfl, rfl⟩
      | some p3 =>
        obtain ⟨g3, n3⟩ := p3
        simp only
        rw [numN_got]
        cases e4 : stepT 0 B n3 with
        | none => right; exact ⟨rfl, rfl⟩
        | some p4 =>
          obtain ⟨g4, n4⟩ := p4
          simp only
          rw [flagN_got]
          cases e5 : stepT 3 B n4 with
          | none => right; exact ⟨rfl, rfl⟩
          | some p5 =>
            obtain ⟨g5, n5⟩ := p5
            left
            exact ⟨⟨g1.S, g2.S, g3.F, g4.N, g5.F⟩, n5, rfl, stepT_le e5, rfl⟩
theorem textN_long (s r : List UInt8) (h : ¬ s.length ≤ 96) (hs : s.length ≤ 500000) : textN 96 (some (textB s ++ r)) = (none, []) := by
  unfold textN countN textB
  rw [List.append_assoc, getN_put s.length _ (by omega)]
  simp only
  rw [if_neg h]; rfl
theorem getK_wrong (k : Ky) (hg : k.g.length ≤ 500) (hr : k.r.length ≤ 500) (he : k.e < 18446744073709551616) (h : rightK k = false) : getK (some (putK k)) = (none, kz) := by
  have e : some (putK k) = some (putK k ++ []) := by rw [List.append_nil]
  rw [e]
  unfold getK putK
  simp only [List.append_assoc]
  by_cases l1 : k.g.length ≤ 96
  · rw [textN_put _ _ l1]
    simp only
    by_cases l2 : k.r.length ≤ 96
    · rw [textN_put _ _ l2]
      simp only
      rw [flagN_put]
      simp only
      rw [getN_put _ _ he]
      simp only
      rw [flagN_put]
      simp only
      rw [if_neg (by rw [show (⟨k.g, k.r, k.p, k.e, k.f⟩ : Ky) = k from rfl, h]; decide)]
    · rw [textN_long _ _ l2 (by omega)]; rfl
  · rw [textN_long _ _ l1 (by omega)]; rfl
theorem getK_put' (k : Ky) (h : rightK k = true) : getK (some (putK k)) = (some [], k) := by
  have := getK_put k [] h
  rwa [List.append_nil] at this
end Go.Ai
set_option linter.unusedSimpArgs false
set_option linter.unusedVariables false
namespace Go.Ai
open Go.Proofs Go.RowKit
theorem rmB_none {l : List (Id × List AV)} {d : Id} (h : lkB l d = none) : rmB l d = l := by
  induction l with
  | nil => rfl
  | cons x r ih =>
    obtain ⟨k, v⟩ := x
    simp only [lkB] at h
    split at h
    · cases h
    · rename_i hne
      simp only [rmB, if_neg hne, ih h]
def kbTail (t : AC) (B : List UInt8) : Prop := ∀ (e : List (Nat × AV)) (bx : List (Id × List AV)) (pm : List (Pl × Nat)), lk e 1 = .sl (byteRows B) → (∀ d, 70 ≤ d → ∀ i cs, (i, cs) ∈ bx → i.isNw d = false) → lkB bx (.n 9) = none → lkB bx (.n 10) = none →
    (∀ d, 70 ≤ d → ∀ i, lkB bx (.nw d i) = none) → wpA (SpH Tryd.prog gl) t (postA [.t 4] (.bool true)) ⟨e, bx, pm⟩
set_option maxRecDepth 20000 in
theorem keyBytes_tail (B : List UInt8) (hB : B.length ≤ 500) : kbTail (AC.tl 8 c3) B := by
  intro e bx pm l1 hf n9 n10 hnw
  have N1 := wNew_spec B 71
  have G1 := kget_spec (some B) (fun b hb => by cases hb; omega) 73 (.nw 71 (.n 5)) rfl rfl
  have R := rget25_spec B (by omega)
  have bl := byteRows_len B
  have hnw1 := hnw 71 (by omega)
  have hrm := rmB_none (hnw 71 (by omega) (.n 5))
  have h71 := hf 71 (by omega)
  have h73 := hf 73 (by omega)
  have h87 := hf 87 (by omega)
  have h94 := hf 94 (by omega)
  have h99 := hf 99 (by omega)
  simp only [rdv] at N1
  have ekz : kz.row = [.str [], .str [], .bool false, u 0, .bool false] := rfl
  rcases goG_get B with ⟨k, nx, hg, hle, hk⟩ | ⟨hg, hk⟩
  · rw [hg] at R
    rw [hk] at G1
    cases hr : rightK k
    · rw [hr] at R G1
      simp only [Bool.false_eq_true, if_false] at G1
      have B1 := wbad_spec none 87 (.nw 71 (.n 5)) rfl rfl
      simp only [rdv, Option.isNone_none] at B1 G1
      simp only [c3, AC.tl]
      rw [krow] at R
      rw [ekz] at G1
      generalize byteRows B = BR at *
      simp -implicitDefEqProofs [l1]
      refine onH_mk _ _ N1 ⟨?_, ?_, ?_, ?_, ?_, ?_, ?_⟩ ?_
      iterate 6 (· simp -implicitDefEqProofs [l1])
      · simp -implicitDefEqProofs; exact h71
      simp -implicitDefEqProofs [l1, n9, n10, hnw1]
      refine onH_mk _ _ G1 ⟨?_, ?_, ?_, ?_, ?_, ?_, ?_⟩ ?_
      iterate 6 (· simp -implicitDefEqProofs [l1, n9, n10, hnw1])
      · simp -implicitDefEqProofs; exact h73
      simp -implicitDefEqProofs [l1, n9, n10, hnw1, hrm]
      refine onC_mk _ R ?_
      simp -implicitDefEqProofs [l1, n9, n10, hnw1, hrm]
      refine onH_mk _ _ B1 ⟨?_, ?_, ?_, ?_, ?_, ?_, ?_⟩ ?_
      iterate 6 (· simp -implicitDefEqProofs [l1, n9, n10, hnw1])
      · simp -implicitDefEqProofs; exact h87
      simp -implicitDefEqProofs
    · rw [hr] at R G1
      simp only [if_true] at G1
      have B1 := wbad_spec (some (B.drop nx)) 94 (.nw 71 (.n 5)) rfl rfl
      have L1 := wLeft_spec (some (B.drop nx)) 99 (.nw 71 (.n 5)) rfl rfl
      have KB := ky_beq k k
      simp only [rdv, Option.isNone_some] at B1 G1 L1
      simp only [c3, AC.tl]
      simp only [decide_true] at KB
      rw [krow] at R G1
      have t1 : IntKind.i64.wrap ((B.length : Int) - nx) = ((B.drop nx).length : Nat) := by rw [List.length_drop, wrap_i64] <;> omega
      generalize byteRows (B.drop nx) = BD at *
      generalize byteRows B = BR at *
      generalize B.drop nx = DB at *
      simp -implicitDefEqProofs [l1]
      refine onH_mk _ _ N1 ⟨?_, ?_, ?_, ?_, ?_, ?_, ?_⟩ ?_
      iterate 6 (· simp -implicitDefEqProofs [l1])
      · simp -implicitDefEqProofs; exact h71
      simp -implicitDefEqProofs [l1, n9, n10, hnw1]
      refine onH_mk _ _ G1 ⟨?_, ?_, ?_, ?_, ?_, ?_, ?_⟩ ?_
      iterate 6 (· simp -implicitDefEqProofs [l1, n9, n10, hnw1])
      · simp -implicitDefEqProofs; exact h73
      simp -implicitDefEqProofs [l1, n9, n10, hnw1, hrm]
      refine onC_mk _ R ?_
      simp -implicitDefEqProofs [l1, n9, n10, hnw1, hrm]
      refine onH_mk _ _ B1 ⟨?_, ?_, ?_, ?_, ?_, ?_, ?_⟩ ?_
      iterate 6 (· simp -implicitDefEqProofs [l1, n9, n10, hnw1])
      · simp -implicitDefEqProofs; exact h94
      simp -implicitDefEqProofs [hrm]
      refine onH_mk _ _ L1 ⟨?_, ?_, ?_, ?_, ?_, ?_, ?_⟩ ?_
      iterate 6 (· simp -implicitDefEqProofs [l1, n9, n10, hnw1])
      · simp -implicitDefEqProofs; exact h99
      simp -implicitDefEqProofs [l1, bl, t1, leftN]
  · rw [hg] at R
    rw [hk] at G1
    have B1 := wbad_spec none 87 (.nw 71 (.n 5)) rfl rfl
    simp only [rdv, Option.isNone_none] at B1 G1
    simp only [c3, AC.tl]
    simp only [failR] at R
    rw [ekz] at G1 R
    generalize byteRows B = BR at *
    simp -implicitDefEqProofs [l1]
    refine onH_mk _ _ N1 ⟨?_, ?_, ?_, ?_, ?_, ?_, ?_⟩ ?_
    iterate 6 (· simp -implicitDefEqProofs [l1])
    · simp -implicitDefEqProofs; exact h71
    simp -implicitDefEqProofs [l1, n9, n10, hnw1]
    refine onH_mk _ _ G1 ⟨?_, ?_, ?_, ?_, ?_, ?_, ?_⟩ ?_
    iterate 6 (· simp -implicitDefEqProofs [l1, n9, n10, hnw1])
    · simp -implicitDefEqProofs; exact h73
    simp -implicitDefEqProofs [l1, n9, n10, hnw1, hrm]
    refine onC_mk _ R ?_
    simp -implicitDefEqProofs [l1, n9, n10, hnw1, hrm]
    refine onH_mk _ _ B1 ⟨?_, ?_, ?_, ?_, ?_, ?_, ?_⟩ ?_
    iterate 6 (· simp -implicitDefEqProofs [l1, n9, n10, hnw1])
    · simp -implicitDefEqProofs; exact h87
    simp -implicitDefEqProofs
set_option maxRecDepth 20000 in
theorem keyBytes_spec (k : Ky) (he : k.e < 18446744073709551616) (B : List UInt8) : Sp Tryd.prog gl 3 [.agg k.row, .sl (byteRows B)] (.bool true) := by
  refine s3 rfl rfl ?_
  have H := heavy_agg k
  have bl := byteRows_len B
  cases hh : heavyK k
  · rw [hh] at H
    unfold heavyK at hh
    rw [decide_eq_false_iff_not] at hh
    by_cases hs : 500 < B.length
    · have hs' : (500 : Int) < B.length := by omega
      rw [krow] at H ⊢
      generalize byteRows B = BR at *
      simp -implicitDefEqProofs [c3]
      refine onC_mk _ awake25_spec ?_
      simp -implicitDefEqProofs
      refine onC_mk _ H ?_
      simp -implicitDefEqProofs [bl, hs, hs']
    · have hs' : ¬ (500 : Int) < B.length := by omega
      have TL := keyBytes_tail B (by omega)
      unfold kbTail at TL
      have ec : c3 = AC.cutAt 8 (AC.tl 8 c3) c3 := rfl
      rw [ec]
      generalize AC.tl 8 c3 = t at TL ⊢
      have P := appS_mk (fun d => kput_spec [9] k (by simp) (by omega) (by omega) he d)
      have e9 : byteRows ([9] ++ putK k) = [.int .u8 9] :: byteRows (putK k) := rfl
      rw [e9, show byteRows [9] = [[.int .u8 9]] from rfl] at P
      have pl : (putK k).length ≤ 2000 := by
        have L1 := textB_len k.g (by omega)
        have L2 := textB_len k.r (by omega)
        have L3 := numB_len k.e he
        simp only [putK, List.length_append, flagB, List.length_cons, List.length_nil]; omega
      have N1 := wNew_spec (putK k) 27
      have G1 := kget_spec (some (putK k)) (fun b hb => by cases hb; omega) 29 (.nw 27 (.n 5)) rfl rfl
      have RP := rput_spec k (by omega) (by omega) he
      have Q := rkright_spec k (by omega) (by omega)
      have bp := byteRows_len (putK k)
      have rb := rowBytes_of (putK k)
      have op := byteRows_one (putK k)
      have tk : List.take (putK k).length (byteRows (putK k)) = byteRows (putK k) := List.take_of_length_le (by omega)
      have ekz : kz.row = [.str [], .str [], .bool false, u 0, .bool false] := rfl
      simp only [rdv] at N1
      cases hr : rightK k
      · have eg := getK_wrong k (by omega) (by omega) he hr
        rw [eg] at G1
        rw [hr] at Q
        have Bd1 := wbad_spec none 65 (.nw 27 (.n 5)) rfl rfl
        simp only [rdv, Option.isNone_none] at G1 Bd1
        rw [ekz] at G1
        rw [krow] at H P RP Q ⊢
        generalize byteRows (putK k) = PK at *
        generalize putK k = pk at *
        simp only [c3, AC.cutAt]
        generalize byteRows B = BR at *
        simp -implicitDefEqProofs
        refine onC_mk _ awake25_spec ?_
        simp -implicitDefEqProofs
        refine onC_mk _ H ?_
        simp -implicitDefEqProofs [bl, hs, hs']
        refine onA_mk 1 ([.int .u8 9] :: PK) ?_ ?_
        · simp -implicitDefEqProofs [caS]
          exact P
        simp -implicitDefEqProofs [caSt, bp, tk]
        refine ⟨by omega, op, ?_⟩
        refine onH_mk _ _ N1 ⟨?_, ?_, ?_, ?_, ?_, ?_, ?_⟩ ?_
        iterate 7 (· simp -implicitDefEqProofs)
        simp -implicitDefEqProofs
        refine onH_mk _ _ G1 ⟨?_, ?_, ?_, ?_, ?_, ?_, ?_⟩ ?_
        iterate 7 (· simp -implicitDefEqProofs)
        simp -implicitDefEqProofs [bp, tk]
        refine ⟨by omega, op, ?_⟩
        simp -implicitDefEqProofs [bytesA, rb]
        refine onC_mk _ RP ?_
        simp -implicitDefEqProofs [bytesA, rb]
        refine onC_mk _ Q ?_
        simp -implicitDefEqProofs
        refine onC_mk _ Q ?_
        simp -implicitDefEqProofs
        refine onH_mk _ _ Bd1 ⟨?_, ?_, ?_, ?_, ?_, ?_, ?_⟩ ?_
        iterate 7 (· simp -implicitDefEqProofs)
        simp -implicitDefEqProofs
        refine TL _ _ _ ?_ ?_ ?_ ?_ ?_ <;> simp -implicitDefEqProofs
        all_goals first
          | (intros; omega)
          | (intro d hd i cs h
             rcases h with h | h | h <;> (obtain ⟨rfl, _⟩ := h; simp only [Id.isNw, Id.isUp, Bool.not_false, Bool.and_true, beq_eq_false_iff_ne]; try omega))
      · have eg := getK_put' k hr
        rw [eg] at G1
        rw [hr] at Q
        have En := wEnd_spec (some []) 51 (.nw 27 (.n 5)) rfl rfl
        have KB := ky_beq k k
        simp only [decide_true] at KB
        simp only [rdv] at G1 En
        rw [show byteRows [] = [] from rfl] at G1 En
        rw [krow] at H P RP Q G1 ⊢
        generalize byteRows (putK k) = PK at *
        generalize putK k = pk at *
        simp only [c3, AC.cutAt]
        generalize byteRows B = BR at *
        simp -implicitDefEqProofs
        refine onC_mk _ awake25_spec ?_
        simp -implicitDefEqProofs
        refine onC_mk _ H ?_
        simp -implicitDefEqProofs [bl, hs, hs']
        refine onA_mk 1 ([.int .u8 9] :: PK) ?_ ?_
        · simp -implicitDefEqProofs [caS]
          exact P
        simp -implicitDefEqProofs [caSt, bp, tk]
        refine ⟨by omega, op, ?_⟩
        refine onH_mk _ _ N1 ⟨?_, ?_, ?_, ?_, ?_, ?_, ?_⟩ ?_
        iterate 7 (· simp -implicitDefEqProofs)
        simp -implicitDefEqProofs
        refine onH_mk _ _ G1 ⟨?_, ?_, ?_, ?_, ?_, ?_, ?_⟩ ?_
        iterate 7 (· simp -implicitDefEqProofs)
        simp -implicitDefEqProofs [bp, tk]
        refine ⟨by omega, op, ?_⟩
        simp -implicitDefEqProofs [bytesA, rb]
        refine onC_mk _ RP ?_
        simp -implicitDefEqProofs [bytesA, rb]
        refine onC_mk _ Q ?_
        simp -implicitDefEqProofs
        refine onH_mk _ _ En ⟨?_, ?_, ?_, ?_, ?_, ?_, ?_⟩ ?_
        iterate 7 (· simp -implicitDefEqProofs)
        simp -implicitDefEqProofs
        refine onC_mk _ Q ?_
        simp -implicitDefEqProofs
        refine TL _ _ _ ?_ ?_ ?_ ?_ ?_ <;> simp -implicitDefEqProofs
        all_goals first
          | (intros; omega)
          | (intro d hd i cs h
             rcases h with h | h | h <;> (obtain ⟨rfl, _⟩ := h; simp only [Id.isNw, Id.isUp, Bool.not_false, Bool.and_true, beq_eq_false_iff_ne]; try omega))
  · rw [hh] at H
    rw [krow] at H ⊢
    generalize byteRows B = BR at *
    simp -implicitDefEqProofs [c3]
    refine onC_mk _ awake25_spec ?_
    simp -implicitDefEqProofs
    refine onC_mk _ H ?_
    simp -implicitDefEqProofs
end Go.Ai
set_option linter.unusedSimpArgs false
set_option linter.unusedVariables false
namespace Go.Ai
open Go.Proofs Go.Shelf Go.RowKit Go.Sort Go.Lib
theorem holds_zero0 (w : World) (T : TypeId) (nd : Nat) (hs : nd ≤ 24) : Holds (fun (b : UInt8) => Value.int .u8 (b.toNat : Int)) (w.alloc (.cells Lib.zeros24 T)) w.heap.size 0 (Array.replicate nd (0 : UInt8)) := fun j hj => by
  have hj' : j < nd := by simpa using hj
  refine ⟨?_, World.frozen?_alloc_new _ _ _ _⟩
  rw [World.cell?_alloc_new, zeros24_at _ (by omega), getElem!_pos _ j hj]
  simp
theorem below_grow (w : World) (os : Array Obj) (k : Nat) : Below w.heap.size w ((grow w os).drewN k) := by
  refine ⟨rfl, rfl, rfl, ?_, fun i hi => ?_⟩
  · show w.heap.size ≤ (w.heap ++ os).size
    simp
  · show (w.heap ++ os)[i]? = w.heap[i]?
    exact Array.getElem?_append_left hi
set_option maxHeartbeats 6400000 in
set_option maxRecDepth 100000 in
/-- internal/strconv.FormatUint at base 10, of 100 and more. -/
theorem fmtUint_calls (u : Nat) (hu1 : 100 ≤ u) (hu64 : u < 18446744073709551616) (w : World) (htab : ∀ q, q < 20 → w.cell? ⟨0, q, none⟩ = some (.int .u64 ((10 ^ q : Nat) : Int))) :
    Calls Tryd.prog 116 #[.int .u64 u, .int .i64 10] w fun e w' => e = .returned (.string ⟨(Lib.decDigits u).toArray⟩) ∧ Below w.heap.size w w' := by
  have hnd20 : Lib.nDigits u ≤ 20 := by have := Lib.numDigits_eq u (by omega) hu64; split at this <;> omega
  have hal : Tryd.prog.arrayLen 206 = 24 := by kernel_rfl
  have hsl : ∀ W, (Instr.sliceAt 206 (.pointer (some ⟨w.heap.size, 0, none⟩)) none (some (.int .i64 (Lib.nDigits u : Int))) none).run Tryd.prog W = .ok (.slice (some ⟨w.heap.size, 0, none⟩) (Lib.nDigits u) 24) W := fun W => by
    rw [run_sliceAt_array_h W 206 ⟨w.heap.size, 0, none⟩ (by kernel_rfl) .i64 (Lib.nDigits u : Int) (by omega) (by rw [hal]; omega)]
    go_simp
  have hH0 := holds_zero0 w 206 (Lib.nDigits u) (by omega)
  have hfmt := Any.internal_strconv_formatBase10 laysFmt w.heap.size 0 24 u (Array.replicate (Lib.nDigits u) 0) (w.alloc (.cells Lib.zeros24 206)) hH0 (by rw [Array.size_replicate]; exact Lib.lt_pow_nDigits u) hu64 (by rw [Array.size_replicate]; omega)
  rw [Array.size_replicate] at hfmt
  have HH0 := Lib.hid hH0
  clear hH0 hal
  have hnd : Calls Tryd.prog 157 #[.int .u64 u] (w.alloc (.cells Lib.zeros24 206)) fun e w' => e = .returned (.int .i64 (Lib.nDigits u)) ∧ w' = (w.alloc (.cells Lib.zeros24 206)) :=
    numDigits_cells laysDig u (by omega) hu64 _ (fun q hq => by
      have h1 := htab q hq
      have h2 := World.block_lt_of_cell? w _ h1
      exact (World.cell?_alloc_lt w _ _ h2).trans h1)
  go_enter Tryd.func116, Tryd.ntmps116
  go_wp2_with (first
    | (go_at_call 157; refine hnd.mono ?_; rintro e w' ⟨rfl, rfl⟩))
  go_at_call 158
  refine hfmt.mono ?_
  rintro e w' ⟨rfl, k, v', dk, rfl, hF⟩
  have hcv : (convert 25 9 (.slice (some ⟨w.heap.size, 0, none⟩) (Lib.nDigits u) 24)).run Tryd.prog ((putRow (fun (b : UInt8) => Value.int .u8 (b.toNat : Int)) (w.alloc (.cells Lib.zeros24 206)) w.heap.size 0 dk).drewN k) = .ok (.string ⟨(Lib.decDigits u).toArray⟩) ((putRow (fun (b : UInt8) => Value.int .u8 (b.toNat : Int)) (w.alloc (.cells Lib.zeros24 206)) w.heap.size 0 dk).drewN k) := by
    have h := run_convert_bytes_back (P := Tryd.prog) ((putRow (fun (b : UInt8) => Value.int .u8 (b.toNat : Int)) (w.alloc (.cells Lib.zeros24 206)) w.heap.size 0 dk).drewN k) 25 9 5 ⟨w.heap.size, 0, none⟩ 24 (Lib.decDigits u) Tryd.underlying25 Tryd.underlying5 Tryd.underlying9 (fun j hj => by
      rw [Lib.row_is_numeral hF j hj, Lib.add_plain, World.cell?_drewN]
      exact cell?_putRow (fun (b : UInt8) => Value.int .u8 (b.toNat : Int)) _ w.heap.size 0 _ dk HH0.out (by rw [hF.size, Array.size_replicate]) j (by rw [hF.size]; rw [Lib.decDigits_length] at hj; exact hj))
    rw [Lib.decDigits_length] at h
    exact h
  go_wp2
  go_ret
  refine ⟨rfl, ?_⟩
  rw [alloc_eq_grow]
  obtain ⟨os', _, eg⟩ := putRow_grow_new (fun (b : UInt8) => Value.int .u8 (b.toNat : Int)) w #[.cells Lib.zeros24 206] w.heap.size 0 dk (Nat.le_refl _)
  rw [eg]
  exact below_grow w os' k

theorem small_spec (n : Nat) (h : n < 100) : Sp Tryd.prog gl 156 [i6 n] (.str (Lib.decDigits n)) := by
  refine shelf_spec Tryd.func156 (by kernel_rfl) (by kernel_rfl) ?_
  intro S gb w vs hvs hag
  simp only [PRlist, PR] at hvs
  obtain ⟨_, _, rfl, rfl, rfl⟩ := hvs
  exact (Any.internal_strconv_small laysSmall n h w).mono fun e w' ⟨he, hw⟩ => ⟨_, he, hw ▸ Below.refl _ _, by simp [PR]⟩
theorem tab_gl : List.lookup 0 gl = some ((List.range 20).map fun q => Value.int .u64 ((10 ^ q : Nat) : Int)) := by kernel_rfl
theorem tab_cells {w : World} (h : ∀ i us, List.lookup i gl = some us → ∀ (o : Nat) (u : Value), us[o]? = some u → w.cell? ⟨i, o, none⟩ = some u) (q : Nat) (hq : q < 20) : w.cell? ⟨0, q, none⟩ = some (.int .u64 ((10 ^ q : Nat) : Int)) :=
  h 0 _ tab_gl q _ (by simp [hq])
theorem ifmt_spec (n : Nat) (h : n < 18446744073709551616) : Sp Tryd.prog gl 116 [u n, i6 10] (.str (Lib.decDigits n)) := by
  by_cases g : n < 100
  · refine s116 rfl rfl ?_
    have S := small_spec n g
    generalize Lib.decDigits n = R at *
    have t1 : IntKind.i64.wrap (n : Int) = n := by rw [wrap_i64] <;> omega
    have g' : (n : Int) < 100 := by omega
    simp -implicitDefEqProofs [c116, t1, g, g']
    refine onC_mk _ S ?_
    simp -implicitDefEqProofs
  · refine shelf_specG Tryd.func116 (by kernel_rfl) (by kernel_rfl) ?_
    intro S gb w vs hvs hag hgl
    simp only [PRlist, PR] at hvs
    obtain ⟨_, _, rfl, rfl, _, _, rfl, rfl, rfl⟩ := hvs
    exact (fmtUint_calls n (by omega) h w (tab_cells hgl)).mono fun e w' ⟨he, hw⟩ => ⟨_, he, hw, by simp [PR]⟩
theorem fmt_spec (n : Nat) (h : n < 18446744073709551616) : Sp Tryd.prog gl 83 [u n, i6 10] (.str (Lib.decDigits n)) := by
  refine s83 rfl rfl ?_
  have S := ifmt_spec n h
  generalize Lib.decDigits n = R at *
  simp -implicitDefEqProofs [c83]
  refine onC_mk _ S ?_
  simp -implicitDefEqProofs
end Go.Ai
