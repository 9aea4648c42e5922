/- YtcdomokjdfmnlaaDoorP7: part of the abstract interpreter library (values, rules, soundness against the model) or of what a function of the seat computes. Conditions: as each theorem says. -/
import Derived.Test.YtcdomokjdfmnlaaDoorP6
import Derived.Test.YtcdomokjdfmnlaaDoorP5
import Derived.Test.YtcdomokjdfmnlaaDoorAiShelf4
import Derived.Test.YtcdomokjdfmnlaaDoorCode
import Derived.Test.YtcdomokjdfmnlaaDoorAiShelf2
import Derived.Shelf.Lays
import Derived.Shelf.LaysM
import Derived.Shelf.Small.Wraps
import Derived.Shelf.Strings.BuilderX
import Derived.Shelf.Strings.SplitCore
import Derived.Test.YtcdomokjdfmnlaaDoorP1
import Derived.Test.YtcdomokjdfmnlaaDoorAiShelf
import Derived.Lib.Bytealg
set_option linter.unusedSimpArgs false
set_option linter.unusedVariables false
namespace Go.Ai
open Go.Proofs
def idxK : List Ky → Ky → Nat → Int
  | [], _, _ => -1
  | x :: r, k, i => if k = x then i else idxK r k (i + 1)
set_option maxRecDepth 20000 in
theorem index_spec (l : List Ky) (k : Ky) (hl : l.length ≤ 1000000) : Sp Tryd.prog gl 77 [.sl (l.map Ky.row), .agg k.row] (i6 (idxK l k 0)) := by
  refine s77 rfl rfl ?_
  obtain ⟨R, hR⟩ : ∃ R, R = idxK l k 0 := ⟨_, rfl⟩
  rw [← hR]
  have kk : k.row = [.str k.g, .str k.r, .bool k.p, u k.e, .bool k.f] := rfl
  rw [kk]
  simp -implicitDefEqProofs [c77]
  refine wp_lpk (α := Nat) (fun i => ⟨[(0, .sl (l.map Ky.row)), (3, .ptr (.n 3) 0), (6, .sl (l.map Ky.row)), (7, i6 l.length), (8, i6 i)], [(.n 3, [.str k.g, .str k.r, .bool k.p, u k.e, .bool k.f])], []⟩)
    (fun i => i ≤ l.length ∧ idxK (l.drop i) k i = R) (fun i => l.length - i) ?_ 0 ?_ ?_
  · rintro K i hK ⟨h1, h2⟩
    by_cases g : i < l.length
    · have t1 : IntKind.i64.wrap ((i : Int) + 1) = (i + 1 : Nat) := by rw [wrap_i64] <;> omega
      rw [List.drop_eq_getElem_cons g] at h2
      simp only [idxK] at h2
      have kb := ky_beq k l[i]
      by_cases e : k = l[i]
      · rw [if_pos e] at h2
        subst h2
        rw [decide_eq_true e] at kb
        clear hK hR e
        simp -implicitDefEqProofs [g, krow, kb]
      · rw [if_neg e] at h2
        rw [decide_eq_false e] at kb
        have fin : ∀ σ', Weak σ' ⟨[(0, .sl (l.map Ky.row)), (3, .ptr (.n 3) 0), (6, .sl (l.map Ky.row)), (7, i6 l.length), (8, i6 (i + 1 : Nat))], [(.n 3, [.str k.g, .str k.r, .bool k.p, u k.e, .bool k.f])], []⟩ → K σ' :=
          fun σ' hσ => hK (i + 1) σ' ⟨by omega, h2⟩ (by omega) hσ
        clear hK hR e
        simp -implicitDefEqProofs [g, krow, kb]
        refine fin _ (weak_mk ?_ ?_ ?_ ?_ ?_ ?_) <;> simp -implicitDefEqProofs [t1]
    · obtain rfl : i = l.length := by omega
      rw [List.drop_length] at h2
      simp only [idxK] at h2
      subst h2
      clear hK
      simp -implicitDefEqProofs
  · exact ⟨Nat.zero_le _, hR.symm⟩
  · refine weak_mk ?_ ?_ ?_ ?_ ?_ ?_ <;> simp -implicitDefEqProofs
def okAt (m : Ms) (i : Nat) (k : Ky) : Bool := rightK k && (k.g == m.g && (k.p == m.p && (idxK m.ks k 0 == (i : Int))))
def rightGo (m : Ms) : Nat → List Ky → Bool
  | _, [] => true
  | i, k :: r => okAt m i k && rightGo m (i + 1) r
def rightM (m : Ms) : Bool := decide (1 ≤ m.ks.length ∧ m.ks.length ≤ 8) && rightGo m 0 m.ks
set_option maxRecDepth 20000 in
theorem bright_spec (m : Ms) (hk : ∀ k ∈ m.ks, k.g.length ≤ 900000 ∧ k.r.length ≤ 900000) : Sp Tryd.prog gl 36 [.agg m.row] (.bool (rightM m)) := by
  refine s36 rfl rfl ?_
  obtain ⟨R, hR⟩ : ∃ R, R = rightM m := ⟨_, rfl⟩
  rw [← hR]
  unfold rightM at hR
  have hm : m.row = [.str m.g, .bool m.p, .sl (m.ks.map Ky.row)] := rfl
  rw [hm]
  by_cases c1 : 1 ≤ m.ks.length
  · have c1' : ¬ (m.ks.length : Int) < 1 := by omega
    by_cases c8 : m.ks.length ≤ 8
    · have c8' : ¬ (8 : Int) < m.ks.length := by omega
      rw [decide_eq_true ⟨c1, c8⟩, Bool.true_and] at hR
      have I := fun k => index_spec m.ks k (by omega)
      simp -implicitDefEqProofs [c36, c1', c8']
      refine wp_lpk (α := Nat) (fun i => ⟨[(1, .ptr (.n 1) 0), (16, .sl (m.ks.map Ky.row)), (17, i6 m.ks.length), (18, i6 i)], [(.n 1, [.str m.g, .bool m.p, .sl (m.ks.map Ky.row)])], []⟩)
        (fun i => i ≤ m.ks.length ∧ rightGo m i (m.ks.drop i) = R) (fun i => m.ks.length - i) ?_ 0 ?_ ?_
      · rintro K i hK ⟨h1, h2⟩
        by_cases g : i < m.ks.length
        · have t1 : IntKind.i64.wrap ((i : Int) + 1) = (i + 1 : Nat) := by rw [wrap_i64] <;> omega
          rw [List.drop_eq_getElem_cons g] at h2
          simp only [rightGo, okAt] at h2
          obtain ⟨w1, w2⟩ := hk _ (List.getElem_mem g)
          have KR := kright_spec m.ks[i] w1 w2
          have IX := I m.ks[i]
          rw [krow] at KR IX
          have fin : rightGo m (i + 1) (m.ks.drop (i + 1)) = R → ∀ σ', Weak σ' ⟨[(1, .ptr (.n 1) 0), (16, .sl (m.ks.map Ky.row)), (17, i6 m.ks.length), (18, i6 (i + 1 : Nat))], [(.n 1, [.str m.g, .bool m.p, .sl (m.ks.map Ky.row)])], []⟩ → K σ' :=
            fun hh σ' hσ => hK (i + 1) σ' ⟨by omega, hh⟩ (by omega) hσ
          clear hK hR I hk w1 w2
          generalize rightGo m (i + 1) (m.ks.drop (i + 1)) = R2 at *
          cases b1 : rightK m.ks[i]
          · rw [b1] at h2 KR
            have : R = false := by rw [← h2]; rfl
            subst this
            simp -implicitDefEqProofs [g, krow]
            refine onC_mk _ KR ?_
            simp -implicitDefEqProofs
          · rw [b1] at h2 KR
            cases b2 : (m.ks[i].g == m.g)
            · rw [b2] at h2
              have : R = false := by rw [← h2]; rfl
              subst this
              have b2' : (m.ks[i].g != m.g) = true := by simp only [bne, b2]; rfl
              simp -implicitDefEqProofs [g, krow]
              refine onC_mk _ KR ?_
              simp -implicitDefEqProofs [g, krow, b2, b2']
            · rw [b2] at h2
              cases b3 : (m.ks[i].p == m.p)
              · rw [b3] at h2
                have : R = false := by rw [← h2]; rfl
                subst this
                have b3' : (m.ks[i].p != m.p) = true := by simp only [bne, b3]; rfl
                simp -implicitDefEqProofs [g, krow]
                refine onC_mk _ KR ?_
                simp -implicitDefEqProofs [g, krow, b2, b3, b3']
              · rw [b3] at h2
                have b3' : (m.ks[i].p != m.p) = false := by simp only [bne, b3]; rfl
                cases b4 : (idxK m.ks m.ks[i] 0 == (i : Int))
                · rw [b4] at h2
                  have : R = false := by rw [← h2]; rfl
                  subst this
                  have b4' : (idxK m.ks m.ks[i] 0 != (i : Int)) = true := by simp only [bne, b4]; rfl
                  simp -implicitDefEqProofs [g, krow]
                  refine onC_mk _ KR ?_
                  simp -implicitDefEqProofs [g, krow, b2, b3, b3']
                  refine onC_mk _ IX ?_
                  simp -implicitDefEqProofs [b4']
                · rw [b4] at h2
                  have b4' : (idxK m.ks m.ks[i] 0 != (i : Int)) = false := by simp only [bne, b4]; rfl
                  have fin := fin (by rw [← h2]; rfl)
                  simp -implicitDefEqProofs [g, krow]
                  refine onC_mk _ KR ?_
                  simp -implicitDefEqProofs [g, krow, b2, b3, b3']
                  refine onC_mk _ IX ?_
                  simp -implicitDefEqProofs [b4']
                  refine fin _ (weak_mk ?_ ?_ ?_ ?_ ?_ ?_) <;> simp -implicitDefEqProofs [t1]
        · obtain rfl : i = m.ks.length := by omega
          rw [List.drop_length] at h2
          simp only [rightGo] at h2
          subst h2
          clear hK
          simp -implicitDefEqProofs
      · exact ⟨Nat.zero_le _, hR.symm⟩
      · refine weak_mk ?_ ?_ ?_ ?_ ?_ ?_ <;> simp -implicitDefEqProofs
    · have c8' : (8 : Int) < m.ks.length := by omega
      rw [decide_eq_false (by omega)] at hR
      subst hR
      simp -implicitDefEqProofs [c36, c1', c8']
  · have c1' : (m.ks.length : Int) < 1 := by omega
    rw [decide_eq_false (by omega)] at hR
    subst hR
    simp -implicitDefEqProofs [c36, c1']
end Go.Ai
set_option linter.unusedSimpArgs false
set_option linter.unusedVariables false
namespace Go.Ai
open Go.Proofs
/-! ### Texts of messages, no program in sight -/
/-- Pieces between ends of lines. -/
def spn : List UInt8 → List UInt8 → List (List UInt8)
  | cur, [] => [cur]
  | cur, b :: r => if b = 10 then cur :: spn [] r else spn (cur ++ [b]) r
theorem spn_app (a r : List UInt8) (cur : List UInt8) (h : ∀ b ∈ a, b ≠ 10) : spn cur (a ++ r) = spn (cur ++ a) r := by
  induction a generalizing cur with
  | nil => simp
  | cons b a ih =>
    have hb : b ≠ 10 := h b (by simp)
    simp only [List.cons_append, spn, if_neg hb]
    rw [ih _ (fun x hx => h x (by simp [hx]))]
    simp
theorem spn_nl (a r : List UInt8) (h : ∀ b ∈ a, b ≠ 10) : spn [] (a ++ 10 :: r) = a :: spn [] r := by
  rw [spn_app a _ [] h]; simp [spn]
theorem spn_last (a : List UInt8) (h : ∀ b ∈ a, b ≠ 10) : spn [] a = [a] := by
  have := spn_app a [] [] h
  simpa [spn] using this
theorem spn_ne : ∀ (s cur : List UInt8), spn cur s ≠ []
  | [], cur => by simp [spn]
  | b :: r, cur => by
    simp only [spn]
    split
    · simp
    · exact spn_ne r _
theorem ib_none : ∀ (a : List UInt8), (∀ b ∈ a, b ≠ 10) → Lib.indexByte a 10 = -1
  | [], _ => rfl
  | b :: r, h => by
    have hb : b ≠ 10 := h b (by simp)
    rw [Lib.indexByte, ib_none r (fun x hx => h x (by simp [hx]))]
    simp [hb]
theorem ib_some : ∀ (a r : List UInt8), (∀ b ∈ a, b ≠ 10) → Lib.indexByte (a ++ 10 :: r) 10 = (a.length : Int)
  | [], r, _ => by simp [Lib.indexByte]
  | b :: a, r, h => by
    have hb : b ≠ 10 := h b (by simp)
    have ih := ib_some a r (fun x hx => h x (by simp [hx]))
    rw [List.cons_append, Lib.indexByte, ih]
    have h1 : ((a.length : Int) == -1) = false := by rw [beq_eq_false_iff_ne]; omega
    simp [hb, h1]
theorem cut10 : ∀ (s : List UInt8), (∀ b ∈ s, b ≠ 10) ∨ ∃ a r, s = a ++ 10 :: r ∧ ∀ b ∈ a, b ≠ 10
  | [] => .inl (by simp)
  | b :: s => by
    by_cases hb : b = 10
    · subst hb; exact .inr ⟨[], s, rfl, by simp⟩
    · rcases cut10 s with h | ⟨a, r, rfl, h⟩
      · left; intro x hx; rcases List.mem_cons.1 hx with rfl | hx
        · exact hb
        · exact h x hx
      · right
        refine ⟨b :: a, r, rfl, fun x hx => ?_⟩
        rcases List.mem_cons.1 hx with rfl | hx
        · exact hb
        · exact h x hx
theorem count_no (a : List UInt8) (h : ∀ b ∈ a, b ≠ 10) : a.count 10 = 0 := List.count_eq_zero.2 (fun hm => h 10 hm rfl)
theorem splitK_spn : ∀ (n : Nat) (s : List UInt8), s.length ≤ n → Lib.splitK [10] 0 (s.count 10) s = spn [] s
  | 0, s, h => by
    have : s = [] := List.eq_nil_of_length_eq_zero (by omega)
    subst this; rfl
  | n + 1, s, h => by
    rcases cut10 s with h1 | ⟨a, r, rfl, h1⟩
    · rw [count_no s h1, spn_last s h1]; rfl
    · have hc : (a ++ 10 :: r).count 10 = r.count 10 + 1 := by rw [List.count_append, count_no a h1]; simp
      rw [hc, spn_nl a r h1, Lib.splitK, index_one, ib_some a r h1]
      have h2 : ((a.length : Int) == -1) = false := by rw [beq_eq_false_iff_ne]; omega
      have h3 : ((a.length : Int)).toNat = a.length := by omega
      rw [h2, h3]
      simp only [Bool.false_eq_true, if_false, Nat.add_zero, List.take_left, List.length_cons, List.length_nil, Nat.zero_add]
      have h4 : (a ++ 10 :: r).drop (a.length + 1) = r := by
        rw [← List.drop_drop, List.drop_left]; rfl
      rw [h4, splitK_spn n r (by simp at h; omega)]
theorem split_spn (s : List UInt8) : Lib.split s [10] = spn [] s := by
  unfold Lib.split
  rw [Lib.count_one]
  exact splitK_spn _ s (Nat.le_refl _)
/-- Whole lines, and what is left. -/
def lns : List UInt8 → List UInt8 → List (List UInt8) × List UInt8
  | cur, [] => ([], cur)
  | cur, b :: r => if b = 10 then (cur :: (lns [] r).1, (lns [] r).2) else lns (cur ++ [b]) r
theorem lns_nl : ∀ (a cur : List UInt8), lns cur (a ++ [10]) = (spn cur a, [])
  | [], cur => by simp [lns, spn]
  | b :: a, cur => by
    simp only [List.cons_append, lns, spn]
    split
    · rw [lns_nl a []]
    · exact lns_nl a _
theorem lns_rest : ∀ (s cur : List UInt8), (lns cur s).2 = [] → (s = [] ∧ cur = []) ∨ ∃ a, s = a ++ [10]
  | [], cur, h => .inl ⟨rfl, h⟩
  | b :: r, cur, h => by
    right
    simp only [lns] at h
    split at h
    · rename_i hb; subst hb
      rcases lns_rest r [] h with ⟨rfl, _⟩ | ⟨a, rfl⟩
      · exact ⟨[], rfl⟩
      · exact ⟨10 :: a, rfl⟩
    · rcases lns_rest r _ h with ⟨_, h2⟩ | ⟨a, rfl⟩
      · simp at h2
      · exact ⟨b :: a, rfl⟩
def flatL (L : List (List UInt8)) : List UInt8 := (L.map fun x => x ++ [10]).flatten
theorem lns_join : ∀ (s cur : List UInt8), flatL (lns cur s).1 ++ (lns cur s).2 = cur ++ s
  | [], cur => by simp [lns, flatL]
  | b :: r, cur => by
    simp only [lns]
    split
    · rename_i hb; subst hb
      have ih := lns_join r []
      simp only [flatL, List.map_cons, List.flatten_cons, List.nil_append, List.append_assoc] at ih ⊢
      rw [ih]; rfl
    · rw [lns_join r (cur ++ [b])]; simp
theorem lns_app (a r : List UInt8) (cur : List UInt8) (h : ∀ b ∈ a, b ≠ 10) : lns cur (a ++ r) = lns (cur ++ a) r := by
  induction a generalizing cur with
  | nil => simp
  | cons b a ih =>
    have hb : b ≠ 10 := h b (by simp)
    simp only [List.cons_append, lns, if_neg hb]
    rw [ih _ (fun x hx => h x (by simp [hx]))]
    simp
theorem lns_flat : ∀ (L : List (List UInt8)), (∀ x ∈ L, ∀ b ∈ x, b ≠ 10) → lns [] (flatL L) = (L, [])
  | [], _ => rfl
  | x :: L, h => by
    have ih := lns_flat L (fun y hy => h y (by simp [hy]))
    have e : flatL (x :: L) = x ++ 10 :: flatL L := by simp [flatL]
    rw [e, lns_app x _ [] (h x (by simp))]
    simp only [List.nil_append, lns, if_true, ih]
/-- The first line's words; a key's line. -/
def headM (m : Ms) : List UInt8 := (if m.p = true then [112, 97, 103, 101, 32] else [116, 105, 99, 107, 101, 116, 32]) ++ m.g
def lineK (k : Ky) : List UInt8 := [32, 32] ++ printK k
def printM (m : Ms) : List UInt8 := flatL (headM m :: m.ks.map lineK)
def mz : Ms := ⟨[], false, []⟩
def msOf (ks : List Ky) : Ms := match ks.getLast? with
  | some k => ⟨k.g, k.p, ks⟩
  | none => ⟨[], false, ks⟩
theorem msOf_app (ks : List Ky) (k : Ky) : msOf (ks ++ [k]) = ⟨k.g, k.p, ks ++ [k]⟩ := by simp [msOf]
theorem msOf_ks (ks : List Ky) : (msOf ks).ks = ks := by unfold msOf; split <;> rfl
def okB (l : List UInt8) : Bool := Lib.hasPrefix l [32, 32] && (readK (Lib.trimPrefix l [32, 32])).2
def okR (l : List UInt8) : Bool := decide (2 ≤ l.length) && (readK (l.drop 2)).2
def bKa : List Ky → List (List UInt8) → Option (List Ky)
  | acc, [] => some acc
  | acc, l :: r => if okB l = true then bKa (acc ++ [(readK (Lib.trimPrefix l [32, 32])).1]) r else none
def rKa : List Ky → List (List UInt8) → Option (List Ky)
  | acc, [] => some acc
  | acc, l :: r => if okR l = true then rKa (acc ++ [(readK (l.drop 2)).1]) r else none
def bFin (L : List (List UInt8)) (o : Option (List Ky)) : Ms × Bool := match o with
  | some ks => if rightM (msOf ks) = true ∧ headM (msOf ks) = L.headD [] then (msOf ks, true) else (mz, false)
  | none => (mz, false)
def rFin (s : List UInt8) (o : Option (List Ky)) : Ms × Bool := match o with
  | some ks => if rightM (msOf ks) = true ∧ printM (msOf ks) = s then (msOf ks, true) else (mz, false)
  | none => (mz, false)
def bReadM (s : List UInt8) : Ms × Bool :=
  if Lib.hasSuffix s [10] = true ∧ (spn [] (Lib.trimSuffix s [10])).length ≤ 9 then bFin (spn [] (Lib.trimSuffix s [10])) (bKa [] (spn [] (Lib.trimSuffix s [10])).tail) else (mz, false)
def rReadM (s : List UInt8) : Ms × Bool :=
  if 2 ≤ (lns [] s).1.length ∧ (lns [] s).1.length ≤ 9 ∧ (lns [] s).2 = [] then rFin s (rKa [] (lns [] s).1.tail) else (mz, false)
theorem suff_iff (s : List UInt8) : Lib.hasSuffix s [10] = true ↔ ∃ a, s = a ++ [10] := by
  unfold Lib.hasSuffix
  rw [List.isSuffixOf_iff_suffix]
  constructor
  · rintro ⟨a, rfl⟩; exact ⟨a, rfl⟩
  · rintro ⟨a, rfl⟩; exact ⟨a, rfl⟩
theorem trim_nl (a : List UInt8) : Lib.trimSuffix (a ++ [10]) [10] = a := by
  unfold Lib.trimSuffix
  rw [if_pos ((suff_iff _).2 ⟨a, rfl⟩)]
  simp
theorem pre_two (l : List UInt8) (h : Lib.hasPrefix l [32, 32] = true) : l = [32, 32] ++ Lib.trimPrefix l [32, 32] := by
  have h2 := h
  unfold Lib.hasPrefix at h
  rw [List.isPrefixOf_iff_prefix] at h
  obtain ⟨r, rfl⟩ := h
  unfold Lib.trimPrefix
  rw [if_pos h2]; rfl
theorem bKa_lines : ∀ (t : List (List UInt8)) (acc ks : List Ky), bKa acc t = some ks → ∃ r, ks = acc ++ r ∧ t = r.map lineK
  | [], acc, ks, h => by simp only [bKa, Option.some.injEq] at h; exact ⟨[], by simp [h], rfl⟩
  | l :: t, acc, ks, h => by
    simp only [bKa] at h
    split at h
    · rename_i hok
      obtain ⟨r, rfl, rfl⟩ := bKa_lines t _ _ h
      simp only [okB, Bool.and_eq_true] at hok
      refine ⟨(readK (Lib.trimPrefix l [32, 32])).1 :: r, by simp, ?_⟩
      rw [List.map_cons]
      congr 1
      unfold lineK
      rw [readK_print hok.2]
      exact pre_two l hok.1
    · cases h
theorem go_all : ∀ (m : Ms) (l : List Ky) (i : Nat), rightGo m i l = true → ∀ k ∈ l, rightK k = true ∧ k.g = m.g ∧ k.p = m.p
  | m, [], i, h, k, hk => by simp at hk
  | m, x :: r, i, h, k, hk => by
    simp only [rightGo, okAt, Bool.and_eq_true, beq_iff_eq] at h
    rcases List.mem_cons.1 hk with rfl | hk
    · exact ⟨h.1.1, h.1.2.1, h.1.2.2.1⟩
    · exact go_all m r (i + 1) h.2 k hk
theorem rightM_all {m : Ms} (h : rightM m = true) : 1 ≤ m.ks.length ∧ m.ks.length ≤ 8 ∧ ∀ k ∈ m.ks, rightK k = true ∧ k.g = m.g ∧ k.p = m.p := by
  simp only [rightM, Bool.and_eq_true, decide_eq_true_eq] at h
  exact ⟨h.1.1, h.1.2, go_all m m.ks 0 h.2⟩
theorem msOf_right {m : Ms} (h : rightM m = true) : msOf m.ks = m := by
  obtain ⟨h1, h2, h3⟩ := rightM_all h
  unfold msOf
  cases hl : m.ks.getLast? with
  | none => rw [List.getLast?_eq_none_iff] at hl; rw [hl] at h1; simp at h1
  | some k =>
    obtain ⟨_, hg, hp⟩ := h3 k (List.mem_of_getLast? hl)
    simp only [hg, hp]
theorem nameT_10 {s : List UInt8} (h : nameT s = true) : ∀ b ∈ s, b ≠ 10 := nameT_no10 h
theorem dec_10 (n : Nat) : ∀ b ∈ dec n, b ≠ 10 := by
  intro b hb e
  have := List.all_eq_true.1 (dec_dig n) b hb
  subst e
  simp [isDig] at this
theorem right_names {k : Ky} (h : rightK k = true) : nameT k.g = true ∧ nameT k.r = true := by
  simp only [rightK, Bool.and_eq_true] at h; exact h.1
theorem printK_10 {k : Ky} (h : rightK k = true) : ∀ b ∈ printK k, b ≠ 10 := by
  obtain ⟨hg, hr⟩ := right_names h
  unfold printK
  rw [if_pos h, jn5]
  intro b hb
  simp only [List.mem_append, List.mem_cons] at hb
  rcases hb with hb | rfl | hb | rfl | hb | rfl | hb | rfl | hb
  · exact nameT_10 hg b hb
  · decide
  · exact nameT_10 hr b hb
  · decide
  · revert b; cases k.p <;> decide
  · decide
  · exact dec_10 _ b hb
  · decide
  · revert b; cases k.f <;> decide
theorem lines_10 {m : Ms} (h : rightM m = true) : ∀ x ∈ headM m :: m.ks.map lineK, ∀ b ∈ x, b ≠ 10 := by
  obtain ⟨h1, h2, h3⟩ := rightM_all h
  intro x hx b hb
  rcases List.mem_cons.1 hx with rfl | hx
  · unfold headM at hb
    rcases List.mem_append.1 hb with hb | hb
    · have : ∀ b ∈ (if m.p = true then [112, 97, 103, 101, 32] else [116, 105, 99, 107, 101, 116, 32] : List UInt8), b ≠ 10 := by cases m.p <;> decide
      exact this b hb
    · obtain ⟨k, hk⟩ : ∃ k, k ∈ m.ks := List.exists_mem_of_length_pos (by omega)
      obtain ⟨hr, hg, _⟩ := h3 k hk
      rw [← hg] at hb
      exact nameT_10 (right_names hr).1 b hb
  · obtain ⟨k, hk, rfl⟩ := List.mem_map.1 hx
    unfold lineK at hb
    rcases List.mem_append.1 hb with hb | hb
    · have : ∀ b ∈ ([32, 32] : List UInt8), b ≠ 10 := by decide
      exact this b hb
    · exact printK_10 (h3 k hk).1 b hb
theorem read_right {k : Ky} (h : rightK k = true) : readK (printK k) = (k, true) := by rw [read_print, if_pos h]
theorem trim_line (k : Ky) : Lib.hasPrefix (lineK k) [32, 32] = true ∧ Lib.trimPrefix (lineK k) [32, 32] = printK k ∧ (lineK k).drop 2 = printK k ∧ 2 ≤ (lineK k).length := by
  have h : Lib.hasPrefix (lineK k) [32, 32] = true := by simp [Lib.hasPrefix, lineK, List.isPrefixOf]
  refine ⟨h, ?_, rfl, by simp [lineK]⟩
  unfold Lib.trimPrefix
  rw [if_pos h]; rfl
theorem bKa_map : ∀ (r acc : List Ky), (∀ k ∈ r, rightK k = true) → bKa acc (r.map lineK) = some (acc ++ r)
  | [], acc, _ => by simp [bKa]
  | k :: r, acc, h => by
    obtain ⟨h1, h2, h3, h4⟩ := trim_line k
    have hr := read_right (h k (by simp))
    have : okB (lineK k) = true := by simp only [okB, h1, h2, hr, Bool.and_self]
    simp only [List.map_cons, bKa, this, if_true, h2, hr]
    rw [bKa_map r _ (fun x hx => h x (by simp [hx]))]; simp
theorem rKa_map : ∀ (r acc : List Ky), (∀ k ∈ r, rightK k = true) → rKa acc (r.map lineK) = some (acc ++ r)
  | [], acc, _ => by simp [rKa]
  | k :: r, acc, h => by
    obtain ⟨h1, h2, h3, h4⟩ := trim_line k
    have hr := read_right (h k (by simp))
    have : okR (lineK k) = true := by simp only [okR, h3, hr, Bool.and_true, decide_eq_true_eq]; exact h4
    simp only [List.map_cons, rKa, this, if_true, h3, hr]
    rw [rKa_map r _ (fun x hx => h x (by simp [hx]))]; simp
theorem printM_nl (m : Ms) : ∃ a, printM m = a ++ [10] := by
  rcases List.eq_nil_or_concat (headM m :: m.ks.map lineK) with h | ⟨L, x, h⟩
  · cases h
  · refine ⟨flatL L ++ x, ?_⟩
    unfold printM
    rw [h]
    simp [flatL]
theorem printM_lns {m : Ms} (h : rightM m = true) : lns [] (printM m) = (headM m :: m.ks.map lineK, []) := lns_flat _ (lines_10 h)
theorem r_print {m : Ms} (h : rightM m = true) : rReadM (printM m) = (m, true) := by
  obtain ⟨h1, h2, h3⟩ := rightM_all h
  unfold rReadM
  rw [printM_lns h]
  simp only [List.length_cons, List.length_map, List.tail_cons]
  rw [if_pos ⟨by omega, by omega, trivial⟩, rKa_map _ _ (fun k hk => (h3 k hk).1)]
  simp only [List.nil_append, rFin, msOf_right h]
  rw [if_pos ⟨h, trivial⟩]
theorem b_print {m : Ms} (h : rightM m = true) : bReadM (printM m) = (m, true) := by
  obtain ⟨h1, h2, h3⟩ := rightM_all h
  obtain ⟨a, ha⟩ := printM_nl m
  have hl := printM_lns h
  rw [ha, lns_nl] at hl
  have hs : spn [] a = headM m :: m.ks.map lineK := congrArg Prod.fst hl
  unfold bReadM
  rw [ha, trim_nl, hs]
  simp only [List.length_cons, List.length_map, List.tail_cons]
  rw [if_pos ⟨(suff_iff _).2 ⟨a, rfl⟩, by omega⟩, bKa_map _ _ (fun k hk => (h3 k hk).1)]
  simp only [List.nil_append, bFin, msOf_right h, List.headD_cons]
  rw [if_pos ⟨h, trivial⟩]
theorem bFin_some (x : List UInt8) (t : List (List UInt8)) (ks : List Ky) : bFin (x :: t) (some ks) = if rightM (msOf ks) = true ∧ headM (msOf ks) = x then (msOf ks, true) else (mz, false) := rfl
theorem bFin_none (L : List (List UInt8)) : bFin L none = (mz, false) := rfl
theorem b_good (s : List UInt8) : bReadM s = (mz, false) ∨ ((bReadM s).2 = true ∧ rightM (bReadM s).1 = true ∧ printM (bReadM s).1 = s) := by
  unfold bReadM
  split
  · rename_i h
    obtain ⟨a, rfl⟩ := (suff_iff s).1 h.1
    rw [trim_nl]
    have hj := lns_join (a ++ [10]) []
    rw [lns_nl] at hj
    simp only [List.append_nil, List.nil_append] at hj
    cases hsp : spn [] a with
    | nil => exact absurd hsp (spn_ne a [])
    | cons x t =>
      rw [hsp] at hj
      rw [List.tail_cons]
      cases hk : bKa [] t with
      | none => exact .inl rfl
      | some ks =>
        rw [bFin_some]
        by_cases h2 : rightM (msOf ks) = true ∧ headM (msOf ks) = x
        · rw [if_pos h2]
          right
          obtain ⟨r, hr, ht⟩ := bKa_lines t [] ks hk
          rw [List.nil_append] at hr
          subst hr
          refine ⟨rfl, h2.1, ?_⟩
          unfold printM
          rw [msOf_ks, h2.2, ← ht]
          exact hj
        · rw [if_neg h2]; exact .inl rfl
  · exact .inl rfl
theorem r_good (s : List UInt8) : rReadM s = (mz, false) ∨ ((rReadM s).2 = true ∧ rightM (rReadM s).1 = true ∧ printM (rReadM s).1 = s) := by
  unfold rReadM
  split
  · unfold rFin
    split
    · split
      · rename_i h; exact .inr ⟨rfl, h.1, h.2⟩
      · exact .inl rfl
    · exact .inl rfl
  · exact .inl rfl
theorem br_eq (s : List UInt8) : rReadM s = bReadM s := by
  rcases b_good s with hb | ⟨b1, b2, b3⟩
  · rcases r_good s with hr | ⟨r1, r2, r3⟩
    · rw [hb, hr]
    · have := b_print r2
      rw [r3] at this
      rw [this]
      exact Prod.ext rfl r1
  · have := r_print b2
    rw [b3] at this
    rw [this]
    exact Prod.ext rfl b1.symm
end Go.Ai
set_option linter.unusedSimpArgs false
set_option linter.unusedVariables false
namespace Go.Ai
open Go.Proofs Go.Shelf
def ren_laysJoin : Ren := {
  f := fun x => match x with
    | 156 => 81
    | 165 => 115
    | 166 => 69
    | 169 => 71
    | 240 => 107
    | 241 => 155
    | 276 => 141
    | 277 => 183
    | n => n
  t := fun x => match x with
    | 31 => 132
    | 9 => 9
    | 3 => 3
    | 4 => 4
    | 0 => 0
    | 20 => 20
    | 72 => 124
    | 76 => 127
    | 70 => 122
    | 37 => 25
    | 75 => 126
    | 127 => 164
    | 164 => 193
    | 5 => 5
    | 80 => 129
    | n => n
  g := fun x => x }
theorem laysJoin : Lays.n156 Tryd.prog ren_laysJoin where
  mixed := by kernel_rfl
  f156 := Eq.trans Tryd.func81 (congrArg some (show Tryd.f81 = Body.n156 ren_laysJoin by kernel_rfl))
  f165 := Eq.trans Tryd.func115 (congrArg some (show Tryd.f115 = Body.n165 ren_laysJoin by kernel_rfl))
  f166 := Eq.trans Tryd.func69 (congrArg some (show Tryd.f69 = Body.n166 ren_laysJoin by kernel_rfl))
  f169 := Eq.trans Tryd.func71 (congrArg some (show Tryd.f71 = Body.n169 ren_laysJoin by kernel_rfl))
  f240 := Eq.trans Tryd.func107 (congrArg some (show Tryd.f107 = Body.n240 ren_laysJoin by kernel_rfl))
  f241 := Eq.trans Tryd.func155 (congrArg some (show Tryd.f155 = Body.n241 ren_laysJoin by kernel_rfl))
  f276 := Eq.trans Tryd.func141 (congrArg some (show Tryd.f141 = Body.n276 ren_laysJoin by kernel_rfl))
  f277 := Eq.trans Tryd.func183 (congrArg some (show Tryd.f183 = Body.n277 ren_laysJoin by kernel_rfl))
  t0 := Tryd.underlying0
  a0 := Tryd.isAgg0
  z0 := Tryd.sizeOf0
  v0 := Tryd.zeroValue0
  t3 := Tryd.underlying3
  a3 := Tryd.isAgg3
  z3 := Tryd.sizeOf3
  v3 := Tryd.zeroValue3
  t4 := Tryd.underlying4
  a4 := Tryd.isAgg4
  z4 := Tryd.sizeOf4
  v4 := Tryd.zeroValue4
  t9 := Tryd.underlying9
  a9 := Tryd.isAgg9
  z9 := Tryd.sizeOf9
  v9 := Tryd.zeroValue9
  t20 := Tryd.underlying20
  a20 := Tryd.isAgg20
  z20 := Tryd.sizeOf20
  v20 := Tryd.zeroValue20
  t31 := Tryd.underlying132
  a31 := Tryd.isAgg132
  z31 := Tryd.sizeOf132
  v31 := Tryd.zeroValue132
  t37 := Tryd.underlying25
  a37 := Tryd.isAgg25
  z37 := Tryd.sizeOf25
  v37 := Tryd.zeroValue25
  t70 := Tryd.underlying122
  a70 := Tryd.isAgg122
  z70 := Tryd.sizeOf122
  v70 := Tryd.zeroValue122
  t72 := Tryd.underlying124
  a72 := Tryd.isAgg124
  z72 := Tryd.sizeOf124
  v72 := Tryd.zeroValue124
  t75 := Tryd.underlying126
  a75 := Tryd.isAgg126
  z75 := Tryd.sizeOf126
  v75 := Tryd.zeroValue126
  t76 := Tryd.underlying127
  a76 := Tryd.isAgg127
  z76 := Tryd.sizeOf127
  v76 := Tryd.zeroValue127
  t127 := Tryd.underlying164
  a127 := Tryd.isAgg164
  z127 := Tryd.sizeOf164
  v127 := Tryd.zeroValue164
  t164 := Tryd.underlying193
  a164 := Tryd.isAgg193
  z164 := Tryd.sizeOf193
  v164 := Tryd.zeroValue193
def ren_laysSmall : Ren := {
  f := fun x => match x with
    | 283 => 156
    | n => n
  t := fun x => match x with
    | 3 => 3
    | 9 => 9
    | 4 => 4
    | n => n
  g := fun x => x }
theorem laysSmall : Lays.n283 Tryd.prog ren_laysSmall where
  mixed := by kernel_rfl
  f283 := Eq.trans Tryd.func156 (congrArg some (show Tryd.f156 = Body.n283 ren_laysSmall by kernel_rfl))
  t3 := Tryd.underlying3
  a3 := Tryd.isAgg3
  z3 := Tryd.sizeOf3
  v3 := Tryd.zeroValue3
  t4 := Tryd.underlying4
  a4 := Tryd.isAgg4
  z4 := Tryd.sizeOf4
  v4 := Tryd.zeroValue4
  t9 := Tryd.underlying9
  a9 := Tryd.isAgg9
  z9 := Tryd.sizeOf9
  v9 := Tryd.zeroValue9
def ren_laysDig : Ren := {
  f := fun x => match x with
    | 284 => 157
    | 129 => 137
    | 317 => 184
    | 318 => 185
    | n => n
  t := fun x => match x with
    | 53 => 22
    | 3 => 3
    | 212 => 233
    | 0 => 0
    | 4 => 4
    | 46 => 162
    | 5 => 5
    | 9 => 9
    | n => n
  g := fun x => match x with
    | 17 => 0
    | n => n }
theorem laysDig : LaysM.n284 Tryd.prog ren_laysDig where
  mixed := by kernel_rfl
  f129 := Eq.trans Tryd.func137 (congrArg some (show Tryd.f137 = Body.n129 ren_laysDig by kernel_rfl))
  f284 := Eq.trans Tryd.func157 (congrArg some (show Tryd.f157 = Body.n284 ren_laysDig by kernel_rfl))
  f317 := Eq.trans Tryd.func184 (congrArg some (show Tryd.f184 = Body.n317 ren_laysDig by kernel_rfl))
  f318 := Eq.trans Tryd.func185 (congrArg some (show Tryd.f185 = Body.n318 ren_laysDig by kernel_rfl))
  t0 := Tryd.underlying0
  a0 := Tryd.isAgg0
  z0 := Tryd.sizeOf0
  v0 := Tryd.zeroValue0
  t3 := Tryd.underlying3
  a3 := Tryd.isAgg3
  z3 := Tryd.sizeOf3
  v3 := Tryd.zeroValue3
  t4 := Tryd.underlying4
  a4 := Tryd.isAgg4
  z4 := Tryd.sizeOf4
  v4 := Tryd.zeroValue4
  t5 := Tryd.underlying5
  a5 := Tryd.isAgg5
  z5 := Tryd.sizeOf5
  v5 := Tryd.zeroValue5
  t9 := Tryd.underlying9
  a9 := Tryd.isAgg9
  z9 := Tryd.sizeOf9
  v9 := Tryd.zeroValue9
  t46 := Tryd.underlying162
  a46 := Tryd.isAgg162
  z46 := Tryd.sizeOf162
  v46 := Tryd.zeroValue162
  t53 := Tryd.underlying22
  a53 := Tryd.isAgg22
  z53 := Tryd.sizeOf22
  v53 := Tryd.zeroValue22
  t212 := Tryd.underlying233
  a212 := Tryd.isAgg233
  z212 := Tryd.sizeOf233
  v212 := Tryd.zeroValue233
  g17 := by kernel_rfl
  i0 := by kernel_rfl
  i3 := by kernel_rfl
  i4 := by kernel_rfl
  i5 := by kernel_rfl
  i9 := by kernel_rfl
  i46 := by kernel_rfl
  i53 := by kernel_rfl
  i212 := by kernel_rfl
  m17 := by kernel_rfl
def ren_laysFmt : Ren := {
  f := fun x => match x with
    | 285 => 158
    | n => n
  t := fun x => match x with
    | 37 => 25
    | 53 => 22
    | 3 => 3
    | 4 => 4
    | 51 => 52
    | 9 => 9
    | 5 => 5
    | 0 => 0
    | n => n
  g := fun x => x }
theorem laysFmt : Lays.n285 Tryd.prog ren_laysFmt where
  mixed := by kernel_rfl
  f285 := Eq.trans Tryd.func158 (congrArg some (show Tryd.f158 = Body.n285 ren_laysFmt by kernel_rfl))
  t0 := Tryd.underlying0
  a0 := Tryd.isAgg0
  z0 := Tryd.sizeOf0
  v0 := Tryd.zeroValue0
  t3 := Tryd.underlying3
  a3 := Tryd.isAgg3
  z3 := Tryd.sizeOf3
  v3 := Tryd.zeroValue3
  t4 := Tryd.underlying4
  a4 := Tryd.isAgg4
  z4 := Tryd.sizeOf4
  v4 := Tryd.zeroValue4
  t5 := Tryd.underlying5
  a5 := Tryd.isAgg5
  z5 := Tryd.sizeOf5
  v5 := Tryd.zeroValue5
  t9 := Tryd.underlying9
  a9 := Tryd.isAgg9
  z9 := Tryd.sizeOf9
  v9 := Tryd.zeroValue9
  t37 := Tryd.underlying25
  a37 := Tryd.isAgg25
  z37 := Tryd.sizeOf25
  v37 := Tryd.zeroValue25
  t51 := Tryd.underlying52
  a51 := Tryd.isAgg52
  z51 := Tryd.sizeOf52
  v51 := Tryd.zeroValue52
  t53 := Tryd.underlying22
  a53 := Tryd.isAgg22
  z53 := Tryd.sizeOf22
  v53 := Tryd.zeroValue22
def ren_laysCutP : Ren := {
  f := fun x => match x with
    | 103 => 74
    | 210 => 110
    | 206 => 146
    | n => n
  t := fun x => match x with
    | 9 => 9
    | 4 => 4
    | 24 => 130
    | 3 => 3
    | n => n
  g := fun x => x }
theorem laysCutP : Lays.n103 Tryd.prog ren_laysCutP where
  mixed := by kernel_rfl
  f103 := Eq.trans Tryd.func74 (congrArg some (show Tryd.f74 = Body.n103 ren_laysCutP by kernel_rfl))
  f206 := Eq.trans Tryd.func146 (congrArg some (show Tryd.f146 = Body.n206 ren_laysCutP by kernel_rfl))
  f210 := Eq.trans Tryd.func110 (congrArg some (show Tryd.f110 = Body.n210 ren_laysCutP by kernel_rfl))
  t3 := Tryd.underlying3
  a3 := Tryd.isAgg3
  z3 := Tryd.sizeOf3
  v3 := Tryd.zeroValue3
  t4 := Tryd.underlying4
  a4 := Tryd.isAgg4
  z4 := Tryd.sizeOf4
  v4 := Tryd.zeroValue4
  t9 := Tryd.underlying9
  a9 := Tryd.isAgg9
  z9 := Tryd.sizeOf9
  v9 := Tryd.zeroValue9
  t24 := Tryd.underlying130
  a24 := Tryd.isAgg130
  z24 := Tryd.sizeOf130
  v24 := Tryd.zeroValue130
def ren_laysCutS : Ren := {
  f := fun x => match x with
    | 104 => 72
    | 211 => 108
    | 207 => 142
    | n => n
  t := fun x => match x with
    | 9 => 9
    | 4 => 4
    | 24 => 130
    | 3 => 3
    | n => n
  g := fun x => x }
theorem laysCutS : Lays.n104 Tryd.prog ren_laysCutS where
  mixed := by kernel_rfl
  f104 := Eq.trans Tryd.func72 (congrArg some (show Tryd.f72 = Body.n104 ren_laysCutS by kernel_rfl))
  f207 := Eq.trans Tryd.func142 (congrArg some (show Tryd.f142 = Body.n207 ren_laysCutS by kernel_rfl))
  f211 := Eq.trans Tryd.func108 (congrArg some (show Tryd.f108 = Body.n211 ren_laysCutS by kernel_rfl))
  t3 := Tryd.underlying3
  a3 := Tryd.isAgg3
  z3 := Tryd.sizeOf3
  v3 := Tryd.zeroValue3
  t4 := Tryd.underlying4
  a4 := Tryd.isAgg4
  z4 := Tryd.sizeOf4
  v4 := Tryd.zeroValue4
  t9 := Tryd.underlying9
  a9 := Tryd.isAgg9
  z9 := Tryd.sizeOf9
  v9 := Tryd.zeroValue9
  t24 := Tryd.underlying130
  a24 := Tryd.isAgg130
  z24 := Tryd.sizeOf130
  v24 := Tryd.zeroValue130
def ren_laysSplit : Ren := {
  f := fun x => match x with
    | 146 => 73
    | 221 => 109
    | 268 => 143
    | 138 => 144
    | 143 => 145
    | 195 => 174
    | 197 => 175
    | 218 => 176
    | 219 => 177
    | 260 => 191
    | 217 => 192
    | 225 => 193
    | 224 => 194
    | 267 => 195
    | 266 => 201
    | 314 => 202
    | n => n
  t := fun x => match x with
    | 9 => 9
    | 31 => 132
    | 3 => 3
    | 4 => 4
    | 0 => 0
    | 105 => 221
    | 21 => 21
    | 5 => 5
    | 46 => 162
    | 119 => 242
    | 139 => 245
    | 138 => 244
    | 146 => 246
    | 51 => 52
    | n => n
  g := fun x => match x with
    | 1 => 1
    | 3 => 2
    | 4 => 3
    | n => n }
set_option maxRecDepth 100000 in
theorem laysSplit : LaysM.n146 Tryd.prog ren_laysSplit where
  mixed := by kernel_rfl
  f138 := Eq.trans Tryd.func144 (congrArg some (show Tryd.f144 = Body.n138 ren_laysSplit by kernel_rfl))
  f143 := Eq.trans Tryd.func145 (congrArg some (show Tryd.f145 = Body.n143 ren_laysSplit by kernel_rfl))
  f146 := Eq.trans Tryd.func73 (congrArg some (show Tryd.f73 = Body.n146 ren_laysSplit by kernel_rfl))
  f195 := Eq.trans Tryd.func174 (congrArg some (show Tryd.f174 = Body.n195 ren_laysSplit by kernel_rfl))
  f197 := Eq.trans Tryd.func175 (congrArg some (show Tryd.f175 = Body.n197 ren_laysSplit by kernel_rfl))
  f217 := Eq.trans Tryd.func192 (congrArg some (show Tryd.f192 = Body.n217 ren_laysSplit by kernel_rfl))
  f218 := Eq.trans Tryd.func176 (congrArg some (show Tryd.f176 = Body.n218 ren_laysSplit by kernel_rfl))
  f219 := Eq.trans Tryd.func177 (congrArg some (show Tryd.f177 = Body.n219 ren_laysSplit by kernel_rfl))
  f221 := Eq.trans Tryd.func109 (congrArg some (show Tryd.f109 = Body.n221 ren_laysSplit by kernel_rfl))
  f224 := Eq.trans Tryd.func194 (congrArg some (show Tryd.f194 = Body.n224 ren_laysSplit by kernel_rfl))
  f225 := Eq.trans Tryd.func193 (congrArg some (show Tryd.f193 = Body.n225 ren_laysSplit by kernel_rfl))
  f260 := Eq.trans Tryd.func191 (congrArg some (show Tryd.f191 = Body.n260 ren_laysSplit by kernel_rfl))
  f266 := Eq.trans Tryd.func201 (congrArg some (show Tryd.f201 = Body.n266 ren_laysSplit by kernel_rfl))
  f267 := Eq.trans Tryd.func195 (congrArg some (show Tryd.f195 = Body.n267 ren_laysSplit by kernel_rfl))
  f268 := Eq.trans Tryd.func143 (congrArg some (show Tryd.f143 = Body.n268 ren_laysSplit by kernel_rfl))
  f314 := Eq.trans Tryd.func202 (congrArg some (show Tryd.f202 = Body.n314 ren_laysSplit by kernel_rfl))
  t0 := Tryd.underlying0
  a0 := Tryd.isAgg0
  z0 := Tryd.sizeOf0
  v0 := Tryd.zeroValue0
  t3 := Tryd.underlying3
  a3 := Tryd.isAgg3
  z3 := Tryd.sizeOf3
  v3 := Tryd.zeroValue3
  t4 := Tryd.underlying4
  a4 := Tryd.isAgg4
  z4 := Tryd.sizeOf4
  v4 := Tryd.zeroValue4
  t5 := Tryd.underlying5
  a5 := Tryd.isAgg5
  z5 := Tryd.sizeOf5
  v5 := Tryd.zeroValue5
  t9 := Tryd.underlying9
  a9 := Tryd.isAgg9
  z9 := Tryd.sizeOf9
  v9 := Tryd.zeroValue9
  t21 := Tryd.underlying21
  a21 := Tryd.isAgg21
  z21 := Tryd.sizeOf21
  v21 := Tryd.zeroValue21
  t31 := Tryd.underlying132
  a31 := Tryd.isAgg132
  z31 := Tryd.sizeOf132
  v31 := Tryd.zeroValue132
  t46 := Tryd.underlying162
  a46 := Tryd.isAgg162
  z46 := Tryd.sizeOf162
  v46 := Tryd.zeroValue162
  t51 := Tryd.underlying52
  a51 := Tryd.isAgg52
  z51 := Tryd.sizeOf52
  v51 := Tryd.zeroValue52
  t105 := Tryd.underlying221
  a105 := Tryd.isAgg221
  z105 := Tryd.sizeOf221
  v105 := Tryd.zeroValue221
  t119 := Tryd.underlying242
  a119 := Tryd.isAgg242
  z119 := Tryd.sizeOf242
  t138 := Tryd.underlying244
  a138 := Tryd.isAgg244
  z138 := Tryd.sizeOf244
  v138 := Tryd.zeroValue244
  t139 := Tryd.underlying245
  a139 := Tryd.isAgg245
  z139 := Tryd.sizeOf245
  v139 := Tryd.zeroValue245
  t146 := Tryd.underlying246
  a146 := Tryd.isAgg246
  z146 := Tryd.sizeOf246
  v146 := Tryd.zeroValue246
  g1 := by kernel_rfl
  g3 := by kernel_rfl
  g4 := by kernel_rfl
  i0 := by kernel_rfl
  i3 := by kernel_rfl
  i4 := by kernel_rfl
  i5 := by kernel_rfl
  i9 := by kernel_rfl
  i21 := by kernel_rfl
  i31 := by kernel_rfl
  i46 := by kernel_rfl
  i51 := by kernel_rfl
  i105 := by kernel_rfl
  i138 := by kernel_rfl
  i139 := by kernel_rfl
  i146 := by kernel_rfl
  m1 := by kernel_rfl
  s1_3 := fun w h => cell_of_shapedOpen_int h (of_decide_eq_true (Eq.refl true)) (Eq.refl (some (#[Value.int IntKind.i64 0], 3))) rfl (Eq.refl true) (Eq.refl (some [3])) Tryd.underlying3
  m3 := by kernel_rfl
  m4 := by kernel_rfl
end Go.Ai
set_option linter.unusedSimpArgs false
set_option linter.unusedVariables false
namespace Go.Ai
open Go.Proofs Go.Shelf
theorem extraJ : Builder.Extra Tryd.prog ren_laysJoin where
  sizeBuilder := by kernel_rfl
  liesBuilder := by kernel_rfl
  t5 := Tryd.underlying5
  a5 := Tryd.isAgg5
  z5 := Tryd.sizeOf5
  v5 := Tryd.zeroValue5
  infoByte := by kernel_rfl
  cellsByte := by kernel_rfl
  sizeByte := by kernel_rfl
  neB5 := by decide
theorem join_spec (xs : List (List UInt8)) (sep : List UInt8) (hN : xs.length ≤ 140737488355328) (hlen : (Lib.join xs sep).length ≤ 140737488355328) : Sp Tryd.prog gl 81 [.sl (strRows xs), .str sep] (.str (Lib.join xs sep)) :=
  join_shelf laysJoin extraJ (by kernel_rfl) (by kernel_rfl) xs sep hN hlen
end Go.Ai
set_option linter.unusedSimpArgs false
set_option linter.unusedVariables false
namespace Go.Ai
open Go.Proofs Go.Shelf
/-- The permission of a builder's bytes. -/
theorem bk_def : bk (ren_laysJoin.t 5) = bk 5 := rfl
theorem ws_spec {d : Nat} {b : Id} (hit : b.isIt = false) (hnwb : b.isNw d = false) {c0 : AV} (hc0 : c0 = .nilT b 124 2 ∨ c0 = .ptr b 0) (l s : List UInt8) (hl : l.length + s.length ≤ 140737488355328) :
    SpH Tryd.prog gl 69 d ⟨[.ptr b 0, .str s], [(b, [c0, .sl (byteRows l)])], [(.b b 1, bk 5)]⟩ ⟨.tup [.int .i64 s.length, .undef], [(b, [.ptr b 0, .sl (byteRows (l ++ s))])], [(.b b 1, bk 5)]⟩ :=
  ws_shelf (L := { laysJoin with }) extraJ (by kernel_rfl) (by kernel_rfl) hit hnwb (T := 124) (n := 2) (hc0.imp (fun h => ⟨h, by unfold bldAt; kernel_rfl⟩) id) (rest := []) l s hl
theorem st_spec {d : Nat} {b : Id} (hit : b.isIt = false) (hnwb : b.isNw d = false) {c0 : AV} (l : List UInt8) (h0 : l ≠ []) :
    SpH Tryd.prog gl 71 d ⟨[.ptr b 0], [(b, [c0, .sl (byteRows l)])], [(.b b 1, bk 5)]⟩ ⟨.str l, [(b, [c0, .sl (byteRows l)])], []⟩ :=
  st_shelf (L := { laysJoin with }) extraJ (by kernel_rfl) (by kernel_rfl) hit hnwb (rest := []) l h0
theorem cutP_spec (s p : List UInt8) : Sp Tryd.prog gl 74 [.str s, .str p] (.tup [.str (Lib.trimPrefix s p), .bool (Lib.hasPrefix s p)]) :=
  cutP_shelf laysCutP (by kernel_rfl) (by kernel_rfl) s p
theorem cutS_spec (s p : List UInt8) (hs : s.length ≤ 9223372036854775807) : Sp Tryd.prog gl 72 [.str s, .str p] (.tup [.str (Lib.trimSuffix s p), .bool (Lib.hasSuffix s p)]) :=
  cutS_shelf laysCutS (by kernel_rfl) (by kernel_rfl) s p hs
theorem split1_spec (s : List UInt8) (c : UInt8) (hs : s.length < 4294967281) : Sp Tryd.prog gl 73 [.str s, .str [c]] (.sl (strRows (Lib.split s [c]))) :=
  split1_shelf laysSplit (by kernel_rfl) (by kernel_rfl) s c hs
end Go.Ai
set_option linter.unusedSimpArgs false
set_option linter.unusedVariables false
namespace Go.Ai
open Go.Proofs
/-! ### One order, no program in sight -/
abbrev cmpB : List UInt8 → List UInt8 → Int := Lib.compareBytes
theorem cmpB_cons (a b : UInt8) (x y : List UInt8) : cmpB (a :: x) (b :: y) = if a < b then -1 else if b < a then 1 else cmpB x y := rfl
theorem u8_lt {a b : UInt8} : a < b ↔ a.toNat < b.toNat := UInt8.lt_iff_toNat_lt
theorem u8_eq {a b : UInt8} : a = b ↔ a.toNat = b.toNat := ⟨fun h => by rw [h], fun h => UInt8.toNat_inj.1 h⟩
theorem cmpB_zero : ∀ (a b : List UInt8), cmpB a b = 0 ↔ a = b
  | [], [] => by simp [cmpB, Lib.compareBytes]
  | [], _ :: _ => by simp [cmpB, Lib.compareBytes]
  | _ :: _, [] => by simp [cmpB, Lib.compareBytes]
  | a :: x, b :: y => by
    rw [cmpB_cons]
    simp only [List.cons.injEq, u8_lt, u8_eq]
    split
    · constructor
      · intro h; omega
      · intro h; omega
    · split
      · constructor
        · intro h; omega
        · intro h; omega
      · rw [cmpB_zero x y]
        constructor
        · intro h; exact ⟨by omega, h⟩
        · exact fun h => h.2
theorem cmpB_anti : ∀ (a b : List UInt8), cmpB b a = -cmpB a b
  | [], [] => rfl
  | [], _ :: _ => rfl
  | _ :: _, [] => rfl
  | a :: x, b :: y => by
    rw [cmpB_cons, cmpB_cons, cmpB_anti x y]
    simp only [u8_lt]
    by_cases h1 : a.toNat < b.toNat
    · rw [if_pos h1, if_neg (by omega), if_pos h1]; rfl
    · by_cases h2 : b.toNat < a.toNat
      · rw [if_pos h2, if_neg h1, if_pos h2]
      · rw [if_neg h2, if_neg h1, if_neg h1, if_neg h2]
theorem cmpB_less : ∀ (a b : List UInt8), Op.bytesLess a b = decide (cmpB a b < 0)
  | [], [] => rfl
  | [], _ :: _ => rfl
  | _ :: _, [] => rfl
  | a :: x, b :: y => by
    rw [cmpB_cons]
    simp only [Op.bytesLess, cmpB_less x y]
    by_cases h1 : a < b
    · simp [h1]
    · by_cases h2 : b < a
      · have h3 : (a == b) = false := by
          rw [beq_eq_false_iff_ne]; intro e; rw [e] at h2; exact UInt8.lt_irrefl b h2
        simp [h1, h2, h3]
      · have h3 : a = b := by
          rw [u8_lt] at h1 h2
          exact u8_eq.2 (by omega)
        subst h3
        simp [h1]
theorem cmpB_trans : ∀ (a b c : List UInt8), cmpB a b < 0 → cmpB b c < 0 → cmpB a c < 0
  | [], [], c, h, _ => by simp [cmpB, Lib.compareBytes] at h
  | [], _ :: _, [], _, h => by simp [cmpB, Lib.compareBytes] at h
  | [], _ :: _, _ :: _, _, _ => by simp [cmpB, Lib.compareBytes]
  | _ :: _, [], c, h, _ => by simp [cmpB, Lib.compareBytes] at h
  | _ :: _, _ :: _, [], _, h => by simp [cmpB, Lib.compareBytes] at h
  | a :: x, b :: y, c :: z, h1, h2 => by
    rw [cmpB_cons] at h1 h2 ⊢
    simp only [u8_lt] at h1 h2 ⊢
    split at h1
    · split at h2
      · rw [if_pos (by omega)]; omega
      · split at h2
        · omega
        · rw [if_pos (by omega)]; omega
    · split at h1
      · omega
      · split at h2
        · rw [if_pos (by omega)]; omega
        · split at h2
          · omega
          · rw [if_neg (by omega), if_neg (by omega)]; exact cmpB_trans x y z h1 h2
def fl (b : Bool) : Int := if b = true then 1 else 0
def cmpU (a b : Nat) : Int := if a < b then -1 else if b < a then 1 else 0
/-- The first that is not 0. -/
def orI : List Int → Int
  | [] => 0
  | x :: r => if x ≠ 0 then x else orI r
def cmpsK (a b : Ky) : List Int := [cmpB a.g b.g, cmpB a.r b.r, fl b.p - fl a.p, cmpU a.e b.e, fl a.f - fl b.f]
def cmpK (a b : Ky) : Int := orI (cmpsK a b)
def lessK (a b : Ky) : Bool := decide (cmpK a b < 0)
theorem cmpN_zero (a b : Nat) : cmpU a b = 0 ↔ a = b := by unfold cmpU; split; · omega
                                                           · split <;> omega
theorem fl_sub (a b : Bool) : fl b - fl a = 0 ↔ a = b := by cases a <;> cases b <;> decide
theorem cmpN_anti (a b : Nat) : cmpU b a = -cmpU a b := by
  unfold cmpU
  by_cases h1 : a < b
  · rw [if_pos h1, if_neg (by omega), if_pos h1]; rfl
  · by_cases h2 : b < a
    · rw [if_pos h2, if_neg h1, if_pos h2]
    · rw [if_neg h2, if_neg h1, if_neg h1, if_neg h2]; rfl
theorem orI_neg : ∀ (l : List Int), orI (l.map fun x => -x) = -orI l
  | [] => rfl
  | x :: r => by
    simp only [List.map_cons, orI]
    by_cases h : x = 0
    · subst h; simp [orI_neg r]
    · rw [if_pos (by omega), if_pos h]
theorem cmpK_anti (a b : Ky) : cmpK b a = -cmpK a b := by
  unfold cmpK
  rw [← orI_neg]
  congr 1
  simp only [cmpsK, List.map_cons, List.map_nil]
  rw [cmpB_anti a.g b.g, cmpB_anti a.r b.r, cmpN_anti a.e b.e]
  congr 3
  · omega
  · congr 2; omega
theorem orI_zero : ∀ (l : List Int), orI l = 0 ↔ ∀ x ∈ l, x = 0
  | [] => by simp [orI]
  | x :: r => by
    simp only [orI, List.mem_cons, forall_eq_or_imp]
    split
    · rename_i h; constructor
      · intro h2; exact absurd h2 h
      · intro h2; exact h2.1
    · rename_i h
      rw [orI_zero r]
      constructor
      · intro h2; exact ⟨by omega, h2⟩
      · exact fun h2 => h2.2
theorem cmpK_zero (a b : Ky) : cmpK a b = 0 ↔ a = b := by
  unfold cmpK
  rw [orI_zero]
  simp only [cmpsK, List.mem_cons, List.not_mem_nil, or_false, forall_eq_or_imp, forall_eq]
  obtain ⟨g, r, p, e, f⟩ := a
  obtain ⟨g', r', p', e', f'⟩ := b
  simp only [Ky.mk.injEq]
  rw [cmpB_zero, cmpB_zero, fl_sub, cmpN_zero, fl_sub]
  constructor
  · rintro ⟨h1, h2, h3, h4, h5⟩; exact ⟨h1, h2, h3, h4, h5.symm⟩
  · rintro ⟨h1, h2, h3, h4, h5⟩; exact ⟨h1, h2, h3, h4, h5.symm⟩
/-- One place after the other: what is ahead of one that is ahead is ahead. -/
theorem orI_trans : ∀ (x y z : List Int), x.length = y.length → y.length = z.length →
    (∀ (i : Nat) (a b c : Int), x[i]? = some a → y[i]? = some b → z[i]? = some c → (a < 0 → b < 0 → c < 0) ∧ (a = 0 → c = b) ∧ (b = 0 → c = a)) → orI x < 0 → orI y < 0 → orI z < 0
  | [], _, _, _, _, _, h, _ => by simp [orI] at h
  | _ :: _, [], _, h, _, _, _, _ => by simp at h
  | _ :: _, _ :: _, [], _, h, _, _, _ => by simp at h
  | a :: x, b :: y, c :: z, h1, h2, h3, h4, h5 => by
    obtain ⟨p1, p2, p3⟩ := h3 0 a b c rfl rfl rfl
    have ih := orI_trans x y z (by simpa using h1) (by simpa using h2) (fun i a b c g1 g2 g3 => h3 (i + 1) a b c (by simpa using g1) (by simpa using g2) (by simpa using g3))
    simp only [orI] at h4 h5 ⊢
    by_cases ha : a = 0
    · have hc := p2 ha
      rw [if_neg (by omega)] at h4
      by_cases hb : b = 0
      · rw [if_neg (by omega)] at h5
        rw [if_neg (by omega)]; exact ih h4 h5
      · rw [if_pos hb] at h5
        rw [if_pos (by omega)]; omega
    · rw [if_pos ha] at h4
      by_cases hb : b = 0
      · have hc := p3 hb
        rw [if_pos (by omega)]; omega
      · rw [if_pos hb] at h5
        have := p1 h4 h5
        rw [if_pos (by omega)]; exact this
theorem lessK_trans (a b c : Ky) (h1 : lessK a b = true) (h2 : lessK b c = true) : lessK a c = true := by
  unfold lessK at *
  rw [decide_eq_true_eq] at *
  refine orI_trans (cmpsK a b) (cmpsK b c) (cmpsK a c) rfl rfl ?_ h1 h2
  intro i x y z hx hy hz
  have flt : ∀ p q r : Bool, (fl q - fl p < 0 → fl r - fl q < 0 → fl r - fl p < 0) ∧ (fl q - fl p = 0 → fl r - fl p = fl r - fl q) ∧ (fl r - fl q = 0 → fl r - fl p = fl q - fl p) := by
    intro p q r; cases p <;> cases q <;> cases r <;> decide
  have cbt : ∀ p q r : List UInt8, (cmpB p q < 0 → cmpB q r < 0 → cmpB p r < 0) ∧ (cmpB p q = 0 → cmpB p r = cmpB q r) ∧ (cmpB q r = 0 → cmpB p r = cmpB p q) := by
    intro p q r
    refine ⟨cmpB_trans p q r, fun h => ?_, fun h => ?_⟩
    · rw [(cmpB_zero p q).1 h]
    · rw [(cmpB_zero q r).1 h]
  have cnt : ∀ p q r : Nat, (cmpU p q < 0 → cmpU q r < 0 → cmpU p r < 0) ∧ (cmpU p q = 0 → cmpU p r = cmpU q r) ∧ (cmpU q r = 0 → cmpU p r = cmpU p q) := by
    intro p q r
    refine ⟨fun h1 h2 => ?_, fun h => ?_, fun h => ?_⟩
    · unfold cmpU at *
      split at h1
      · split at h2
        · rw [if_pos (by omega)]; omega
        · split at h2 <;> omega
      · split at h1 <;> omega
    · rw [(cmpN_zero p q).1 h]
    · rw [(cmpN_zero q r).1 h]
  unfold cmpsK at hx hy hz
  match i with
  | 0 => simp at hx hy hz; subst hx hy hz; exact cbt _ _ _
  | 1 => simp at hx hy hz; subst hx hy hz; exact cbt _ _ _
  | 2 => simp at hx hy hz; subst hx hy hz; exact flt _ _ _
  | 3 => simp at hx hy hz; subst hx hy hz; exact cnt _ _ _
  | 4 =>
    simp at hx hy hz; subst hx hy hz
    obtain ⟨q1, q2, q3⟩ := flt c.f b.f a.f
    exact ⟨fun h1 h2 => by omega, fun h => by omega, fun h => by omega⟩
  | n + 5 => simp at hx
theorem lessK_asym (a b : Ky) (h : lessK a b = true) : lessK b a = false := by
  unfold lessK at *
  rw [decide_eq_true_eq] at h
  rw [decide_eq_false_iff_not, cmpK_anti a b]; omega
theorem lessK_eq (a b : Ky) : decide (a = b) = (!lessK a b && !lessK b a) := by
  unfold lessK
  rw [cmpK_anti a b, Bool.eq_iff_iff, decide_eq_true_eq, ← cmpK_zero]
  simp
  omega
/-- As the document has it. -/
theorem lessR_eq (a b : Ky) : lessK a b = if a.g ≠ b.g then Op.bytesLess a.g b.g else if a.r ≠ b.r then Op.bytesLess a.r b.r else if a.p ≠ b.p then a.p else if a.e ≠ b.e then decide (a.e < b.e) else !a.f && b.f := by
  have key : ∀ v, cmpK a b = v → lessK a b = decide (v < 0) := fun v h => by unfold lessK; rw [h]
  have e : cmpK a b = (if cmpB a.g b.g ≠ 0 then cmpB a.g b.g else if cmpB a.r b.r ≠ 0 then cmpB a.r b.r else if fl b.p - fl a.p ≠ 0 then fl b.p - fl a.p else if cmpU a.e b.e ≠ 0 then cmpU a.e b.e else if fl a.f - fl b.f ≠ 0 then fl a.f - fl b.f else 0) := rfl
  by_cases h1 : a.g = b.g
  · rw [if_neg (fun h => h ((cmpB_zero _ _).2 h1))] at e
    rw [if_neg (fun h => h h1)]
    by_cases h2 : a.r = b.r
    · rw [if_neg (fun h => h ((cmpB_zero _ _).2 h2))] at e
      rw [if_neg (fun h => h h2)]
      by_cases h3 : a.p = b.p
      · rw [if_neg (fun h => h ((fl_sub _ _).2 h3))] at e
        rw [if_neg (fun h => h h3)]
        by_cases h4 : a.e = b.e
        · rw [if_neg (fun h => h ((cmpN_zero _ _).2 h4))] at e
          rw [if_neg (fun h => h h4), key _ e]
          cases a.f <;> cases b.f <;> decide
        · rw [if_pos (fun h => h4 ((cmpN_zero _ _).1 h))] at e
          rw [if_pos h4, key _ e]
          unfold cmpU
          by_cases h5 : a.e < b.e
          · simp [h5]
          · by_cases h6 : b.e < a.e
            · simp [h5, h6]
            · omega
      · rw [if_pos (fun h => h3 ((fl_sub _ _).1 h))] at e
        rw [if_pos h3, key _ e]
        revert h3
        cases a.p <;> cases b.p <;> simp [fl]
    · rw [if_pos (fun h => h2 ((cmpB_zero _ _).1 h))] at e
      rw [if_pos h2, key _ e, cmpB_less]
  · rw [if_pos (fun h => h1 ((cmpB_zero _ _).1 h))] at e
    rw [if_pos h1, key _ e, cmpB_less]
end Go.Ai
