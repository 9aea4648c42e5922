/- YtmbnoejneocmmaaGreatDoorP2: part of the abstract interpreter library (values, rules, soundness against the model) or of what a function of the seat computes. Conditions: as each theorem says. -/
import Derived.Test.YtmbnoejneocmmaaGreatDoorAiUse
import Derived.Lib.SplitLaws
import Derived.Lib.IndexBytes
import Derived.Test.YtmbnoejneocmmaaGreatDoorP1
import Derived.Test.YtmbnoejneocmmaaGreatDoorAiExt
set_option linter.unusedSimpArgs false
set_option linter.unusedVariables false
namespace Go.Ai
/-! Turns as lines, no program in sight. -/
/-- Pieces between a byte. -/
def spb (c : UInt8) : List UInt8 → List UInt8 → List (List UInt8)
  | cur, [] => [cur]
  | cur, b :: r => if b = c then cur :: spb c [] r else spb c (cur ++ [b]) r
theorem spb_app (c : UInt8) (a r : List UInt8) (cur : List UInt8) (h : ∀ b ∈ a, b ≠ c) : spb c cur (a ++ r) = spb c (cur ++ a) r := by
  induction a generalizing cur with
  | nil => simp
  | cons b a ih =>
    have hb : b ≠ c := h b (by simp)
    simp only [List.cons_append, spb, if_neg hb]
    rw [ih _ (fun x hx => h x (by simp [hx]))]
    simp
theorem spb_nl (c : UInt8) (a r : List UInt8) (h : ∀ b ∈ a, b ≠ c) : spb c [] (a ++ c :: r) = a :: spb c [] r := by
  rw [spb_app c a _ [] h]; simp [spb]
theorem spb_last (c : UInt8) (a : List UInt8) (h : ∀ b ∈ a, b ≠ c) : spb c [] a = [a] := by
  have := spb_app c a [] [] h
  simpa [spb] using this
theorem spb_ne (c : UInt8) : ∀ (s cur : List UInt8), spb c cur s ≠ []
  | [], cur => by simp [spb]
  | b :: r, cur => by
    simp only [spb]
    split
    · simp
    · exact spb_ne c r _
theorem ibB_none (c : UInt8) : ∀ (a : List UInt8), (∀ b ∈ a, b ≠ c) → Lib.indexByte a c = -1
  | [], _ => rfl
  | b :: r, h => by
    have hb : b ≠ c := h b (by simp)
    rw [Lib.indexByte, ibB_none c r (fun x hx => h x (by simp [hx]))]
    simp [hb]
theorem ibB_some (c : UInt8) : ∀ (a r : List UInt8), (∀ b ∈ a, b ≠ c) → Lib.indexByte (a ++ c :: r) c = (a.length : Int)
  | [], r, _ => by simp [Lib.indexByte]
  | b :: a, r, h => by
    have hb : b ≠ c := h b (by simp)
    have ih := ibB_some c a r (fun x hx => h x (by simp [hx]))
    rw [List.cons_append, Lib.indexByte, ih]
    have h1 : ((a.length : Int) == -1) = false := by rw [beq_eq_false_iff_ne]; omega
    simp [hb, h1]
theorem cutB (c : UInt8) : ∀ (s : List UInt8), (∀ b ∈ s, b ≠ c) ∨ ∃ a r, s = a ++ c :: r ∧ ∀ b ∈ a, b ≠ c
  | [] => .inl (by simp)
  | b :: s => by
    by_cases hb : b = c
    · subst hb; exact .inr ⟨[], s, rfl, by simp⟩
    · rcases cutB c s with h | ⟨a, r, rfl, h⟩
      · left; intro x hx; rcases List.mem_cons.1 hx with rfl | hx
        · exact hb
        · exact h x hx
      · right
        refine ⟨b :: a, r, rfl, fun x hx => ?_⟩
        rcases List.mem_cons.1 hx with rfl | hx
        · exact hb
        · exact h x hx
theorem countB_no (c : UInt8) (a : List UInt8) (h : ∀ b ∈ a, b ≠ c) : a.count c = 0 := List.count_eq_zero.2 (fun hm => h c hm rfl)
theorem splitK_spb (c : UInt8) : ∀ (n : Nat) (s : List UInt8), s.length ≤ n → Lib.splitK [c] 0 (s.count c) s = spb c [] s
  | 0, s, h => by
    have : s = [] := List.eq_nil_of_length_eq_zero (by omega)
    subst this; rfl
  | n + 1, s, h => by
    rcases cutB c s with h1 | ⟨a, r, rfl, h1⟩
    · rw [countB_no c s h1, spb_last c s h1]; rfl
    · have hc : (a ++ c :: r).count c = r.count c + 1 := by rw [List.count_append, countB_no c a h1]; simp
      rw [hc, spb_nl c a r h1, Lib.splitK, Lib.index_one, ibB_some c a r h1]
      have h2 : ((a.length : Int) == -1) = false := by rw [beq_eq_false_iff_ne]; omega
      have h3 : ((a.length : Int)).toNat = a.length := by omega
      rw [h2, h3]
      simp only [Bool.false_eq_true, if_false, Nat.add_zero, List.take_left, List.length_cons, List.length_nil, Nat.zero_add]
      have h4 : (a ++ c :: r).drop (a.length + 1) = r := by
        rw [← List.drop_drop, List.drop_left]; rfl
      rw [h4, splitK_spb c n r (by simp at h; omega)]
theorem split_spb (c : UInt8) (s : List UInt8) : Lib.split s [c] = spb c [] s := by
  unfold Lib.split
  rw [Lib.count_one]
  exact splitK_spb c _ s (Nat.le_refl _)

/-- A goal's name, a rule's, a kind. -/
abbrev Tu := List UInt8 × List UInt8 × Int
def wdK (k : Int) : List UInt8 := if k = 1 then [99, 111, 109, 101, 115] else if k = 2 then [115, 116, 97, 121, 115] else if k = 3 then [116, 117, 114, 110, 115] else if k = 4 then [103, 111, 101, 115] else []
def kwd (w : List UInt8) : Int := if w = [99, 111, 109, 101, 115] then 1 else if w = [115, 116, 97, 121, 115] then 2 else if w = [116, 117, 114, 110, 115] then 3 else if w = [103, 111, 101, 115] then 4 else 0
theorem kwd_in (w : List UInt8) : 0 ≤ kwd w ∧ kwd w ≤ 4 := by
  unfold kwd
  repeat' split
  all_goals omega
theorem wdK_kwd {w : List UInt8} (h : 1 ≤ kwd w) : wdK (kwd w) = w := by
  unfold kwd at h ⊢
  split
  · rename_i e; subst e; rfl
  · split
    · rename_i e; subst e; rfl
    · split
      · rename_i e; subst e; rfl
      · split
        · rename_i e; subst e; rfl
        · rename_i a b c d; simp [a, b, c, d] at h
theorem kwd_wdK {k : Int} (h1 : 1 ≤ k) (h2 : k ≤ 4) : kwd (wdK k) = k := by
  have : k = 1 ∨ k = 2 ∨ k = 3 ∨ k = 4 := by omega
  rcases this with rfl | rfl | rfl | rfl <;> decide
theorem wdK_ne {k : Int} : wdK k ≠ [] ↔ 1 ≤ k ∧ k ≤ 4 := by
  unfold wdK
  split
  · simp; omega
  · split
    · simp; omega
    · split
      · simp; omega
      · split
        · simp; omega
        · simp; omega
theorem wdK_no {k : Int} : ∀ b ∈ wdK k, b ≠ 32 ∧ b ≠ 10 := by
  unfold wdK
  split
  · decide
  · split
    · decide
    · split
      · decide
      · split
        · decide
        · simp
/-- Names hold no gaps. -/
def NamesOk (nm : List UInt8 → Bool) : Prop := nm [] = false ∧ ∀ s, nm s = true → ∀ b ∈ s, b ≠ 32 ∧ b ≠ 10
def rightT (nm : List UInt8 → Bool) (t : Tu) : Bool := decide (1 ≤ t.2.2 ∧ t.2.2 ≤ 4) && (nm t.1 && (decide (t.2.1 = []) || nm t.2.1))
def headT (t : Tu) : List UInt8 := wdK t.2.2 ++ 32 :: t.1
def bodyT (t : Tu) : List UInt8 := if t.2.1 = [] then headT t else headT t ++ 32 :: t.2.1
def lineT (t : Tu) : List UInt8 := bodyT t ++ [10]
theorem rightT_iff {nm : List UInt8 → Bool} {t : Tu} : rightT nm t = true ↔ (1 ≤ t.2.2 ∧ t.2.2 ≤ 4) ∧ nm t.1 = true ∧ (t.2.1 = [] ∨ nm t.2.1 = true) := by simp [rightT]
/-- What change.turn makes of a line. -/
def turnV (nm : List UInt8 → Bool) (a : List UInt8) : Tu × Bool := match spb 32 [] a with
  | [x, y] => ((y, [], kwd x), rightT nm (y, [], kwd x))
  | [x, y, z] => ((y, z, kwd x), rightT nm (y, z, kwd x) && decide (z ≠ []))
  | _ => (([], [], 0), false)
def notNl (b : UInt8) : Bool := b != 10
def notGap (b : UInt8) : Bool := b != 32 && b != 10
/-- One line of change.Read. -/
def lnP (nm : List UInt8 → Bool) (s : List UInt8) : Option (Tu × List UInt8) :=
  if (s.takeWhile notNl).length < s.length ∧ (turnV nm (s.takeWhile notNl)).2 = true then some ((turnV nm (s.takeWhile notNl)).1, s.drop ((s.takeWhile notNl).length + 1)) else none
/-- Up to so many words, and where they end. -/
def rwG : Nat → List UInt8 → List (List UInt8) × Nat
  | 0, _ => ([], 0)
  | k + 1, s => if s.length ≤ (s.takeWhile notGap).length ∨ s[(s.takeWhile notGap).length]? = some 10 then ([s.takeWhile notGap], (s.takeWhile notGap).length)
    else (s.takeWhile notGap :: (rwG k (s.drop ((s.takeWhile notGap).length + 1))).1, (s.takeWhile notGap).length + 1 + (rwG k (s.drop ((s.takeWhile notGap).length + 1))).2)
def wdsT (l : List (List UInt8)) : Tu := (l.getD 1 [], l.getD 2 [], kwd (l.getD 0 []))
/-- One line of the reference's Read. -/
def lnQ (nm : List UInt8 → Bool) (s : List UInt8) : Option (Tu × List UInt8) :=
  if (rwG 4 s).2 < s.length ∧ rightT nm (wdsT (rwG 4 s).1) = true ∧ lineT (wdsT (rwG 4 s).1) = s.take ((rwG 4 s).2 + 1) then some (wdsT (rwG 4 s).1, s.drop ((rwG 4 s).2 + 1)) else none
theorem tw_all {p : UInt8 → Bool} : ∀ {a : List UInt8}, (∀ b ∈ a, p b = true) → a.takeWhile p = a
  | [], _ => rfl
  | b :: a, h => by
    rw [List.takeWhile_cons, if_pos (h b (by simp)), tw_all (fun x hx => h x (by simp [hx]))]
theorem tw_app {p : UInt8 → Bool} {c : UInt8} (hc : p c = false) : ∀ {a r : List UInt8}, (∀ b ∈ a, p b = true) → (a ++ c :: r).takeWhile p = a
  | [], r, _ => by simp [hc]
  | b :: a, r, h => by
    rw [List.cons_append, List.takeWhile_cons, if_pos (h b (by simp)), tw_app hc (fun x hx => h x (by simp [hx]))]
theorem rw_spec : ∀ (k : Nat) (a r : List UInt8), (∀ b ∈ a, b ≠ 10) →
    ((spb 32 [] a).length ≤ k → rwG k (a ++ 10 :: r) = (spb 32 [] a, a.length)) ∧ (k < (spb 32 [] a).length → (rwG k (a ++ 10 :: r)).2 ≤ a.length ∧ ((a ++ 10 :: r).take (rwG k (a ++ 10 :: r)).2).count 32 = k)
  | 0, a, r, h => by
    have := List.length_pos_iff.2 (spb_ne 32 a [])
    exact ⟨fun h1 => by omega, fun _ => by simp [rwG]⟩
  | k + 1, a, r, h => by
    rcases cutB 32 a with h1 | ⟨x, y, rfl, h1⟩
    · have e : (a ++ 10 :: r).takeWhile notGap = a := tw_app (by decide) (fun b hb => by simp [notGap, h b hb, h1 b hb])
      have e2 : (a ++ 10 :: r)[a.length]? = some 10 := by simp
      rw [spb_last 32 a h1]
      refine ⟨fun _ => ?_, fun h2 => by simp at h2⟩
      rw [rwG, e, if_pos (.inr e2)]
    · have e0 : x ++ 32 :: y ++ 10 :: r = x ++ 32 :: (y ++ 10 :: r) := by simp
      have e : (x ++ 32 :: (y ++ 10 :: r)).takeWhile notGap = x := tw_app (by decide) (fun b hb => by simp [notGap, h b (by simp [hb]), h1 b hb])
      have e2 : (x ++ 32 :: (y ++ 10 :: r))[x.length]? = some 32 := by simp
      have e3 : (x ++ 32 :: (y ++ 10 :: r)).drop (x.length + 1) = y ++ 10 :: r := by rw [← List.drop_drop, List.drop_left]; rfl
      rw [spb_nl 32 x y h1, e0, rwG, e, e2, e3, if_neg (by simp)]
      obtain ⟨i1, i2⟩ := rw_spec k y r (fun b hb => h b (by simp [hb]))
      refine ⟨fun h2 => ?_, fun h2 => ?_⟩
      · rw [i1 (by simpa using h2)]; simp; omega
      · obtain ⟨i3, i4⟩ := i2 (by simpa using h2)
        refine ⟨by simp; omega, ?_⟩
        have e4 : (x ++ 32 :: (y ++ 10 :: r)).take (x.length + 1 + (rwG k (y ++ 10 :: r)).2) = x ++ 32 :: (y ++ 10 :: r).take (rwG k (y ++ 10 :: r)).2 := by
          rw [List.take_append, List.take_of_length_le (by omega)]
          congr 1
          rw [show x.length + 1 + (rwG k (y ++ 10 :: r)).2 - x.length = (rwG k (y ++ 10 :: r)).2 + 1 by omega, List.take_succ_cons]
        simp only
        rw [e4, List.count_append, countB_no 32 x h1, List.count_cons_self, i4]; omega
theorem body_count {nm : List UInt8 → Bool} (hn : NamesOk nm) {t : Tu} (h : rightT nm t = true) : (lineT t).count 32 = if t.2.1 = [] then 1 else 2 := by
  obtain ⟨_, h2, h3⟩ := rightT_iff.1 h
  have c1 : (wdK t.2.2).count 32 = 0 := countB_no 32 _ fun b hb => (wdK_no b hb).1
  have c2 : t.1.count 32 = 0 := countB_no 32 _ fun b hb => (hn.2 _ h2 b hb).1
  unfold lineT bodyT headT
  split
  · simp [List.count_append, c1, c2]
  · rename_i h4
    have c3 : t.2.1.count 32 = 0 := countB_no 32 _ fun b hb => (hn.2 _ (h3.resolve_left h4) b hb).1
    simp [List.count_append, c1, c2, c3]
theorem spb_count : ∀ (n : Nat) (a : List UInt8), a.length ≤ n → (spb 32 [] a).length = a.count 32 + 1
  | 0, a, h => by
    have : a = [] := List.eq_nil_of_length_eq_zero (by omega)
    subst this; rfl
  | n + 1, a, h => by
    rcases cutB 32 a with h1 | ⟨x, y, rfl, h1⟩
    · rw [spb_last 32 a h1, countB_no 32 a h1]; rfl
    · rw [spb_nl 32 x y h1, List.count_append, countB_no 32 x h1, List.count_cons_self, List.length_cons, spb_count n y (by simp at h; omega)]; omega
theorem spb_two {a x y : List UInt8} (h : spb 32 [] a = [x, y]) : a = x ++ 32 :: y := by
  rcases cutB 32 a with h1 | ⟨u, v, rfl, h1⟩
  · rw [spb_last 32 a h1] at h; simp at h
  · rw [spb_nl 32 u v h1] at h
    simp only [List.cons.injEq] at h
    obtain ⟨rfl, h⟩ := h
    rcases cutB 32 v with h2 | ⟨u', v', rfl, h2⟩
    · rw [spb_last 32 v h2] at h; simp at h; rw [h]
    · rw [spb_nl 32 u' v' h2] at h
      simp only [List.cons.injEq] at h
      exact absurd h.2 (spb_ne 32 v' [])
theorem spb_three {a x y z : List UInt8} (h : spb 32 [] a = [x, y, z]) : a = x ++ 32 :: (y ++ 32 :: z) := by
  rcases cutB 32 a with h1 | ⟨u, v, rfl, h1⟩
  · rw [spb_last 32 a h1] at h; simp at h
  · rw [spb_nl 32 u v h1] at h
    simp only [List.cons.injEq] at h
    obtain ⟨rfl, h⟩ := h
    rw [spb_two h]
/-- Both read a line alike. -/
theorem lineStep_eq {nm : List UInt8 → Bool} (hn : NamesOk nm) (s : List UInt8) : lnP nm s = lnQ nm s := by
  have l10 : ∀ t : Tu, (10 : UInt8) ∈ lineT t := fun t => by unfold lineT; simp
  rcases cutB 10 s with h1 | ⟨a, r, rfl, h1⟩
  · have e : s.takeWhile notNl = s := tw_all fun b hb => by simp [notNl, h1 b hb]
    unfold lnP lnQ
    rw [e, if_neg (fun h => Nat.lt_irrefl _ h.1), if_neg]
    rintro ⟨_, _, h2⟩
    have := l10 (wdsT (rwG 4 s).1)
    rw [h2] at this
    exact h1 10 (List.mem_of_mem_take this) rfl
  · have e : (a ++ 10 :: r).takeWhile notNl = a := tw_app (by decide) fun b hb => by simp [notNl, h1 b hb]
    have e1 : a.length < (a ++ 10 :: r).length := by simp
    have e2 : (a ++ 10 :: r).take (a.length + 1) = a ++ [10] := by
      rw [List.take_append, List.take_of_length_le (by omega), show a.length + 1 - a.length = 1 by omega]; rfl
    obtain ⟨i1, i2⟩ := rw_spec 4 a r h1
    have hc := spb_count _ a (Nat.le_refl _)
    unfold lnP
    rw [e]
    rcases Nat.lt_or_ge 4 (spb 32 [] a).length with h4 | h4
    · obtain ⟨i3, i4⟩ := i2 h4
      have t1 : (turnV nm a).2 = false := by
        unfold turnV
        split <;> simp_all
      rw [if_neg (by simp [t1])]
      unfold lnQ
      rw [if_neg]
      rintro ⟨_, j2, j3⟩
      have j4 := body_count hn j2
      rw [j3, List.take_add_one, List.count_append, i4] at j4
      split at j4 <;> omega
    · unfold lnQ
      rw [i1 h4]
      simp only [e2]
      have big : ∀ t : Tu, rightT nm t = true → lineT t = a ++ [10] → (spb 32 [] a).length = if t.2.1 = [] then 2 else 3 := by
        intro t ht hl
        have := body_count hn ht
        rw [hl, List.count_append] at this
        simp at this
        rw [hc, this]; split <;> rfl
      match hw : spb 32 [] a with
      | [] => exact absurd hw (spb_ne 32 a [])
      | [x] =>
        rw [if_neg (by simp [turnV, hw]), if_neg]
        rintro ⟨_, j2, _⟩
        have := (rightT_iff.1 j2).2.1
        simp [wdsT, hn.1] at this
      | [x, y] =>
        have ha := spb_two hw
        have ht : (turnV nm a) = ((y, [], kwd x), rightT nm (y, [], kwd x)) := by simp [turnV, hw]
        rw [ht]
        rw [show wdsT [x, y] = (y, [], kwd x) from rfl]
        by_cases hr : rightT nm (y, [], kwd x) = true
        · have hk := wdK_kwd (rightT_iff.1 hr).1.1
          have hl : lineT (y, [], kwd x) = a ++ [10] := by simp [lineT, bodyT, headT, hk, ha]
          rw [if_pos ⟨e1, hr⟩, if_pos ⟨e1, hr, hl⟩]
        · rw [if_neg (fun h => hr h.2), if_neg (fun h => hr h.2.1)]
      | [x, y, z] =>
        have ha := spb_three hw
        have ht : (turnV nm a) = ((y, z, kwd x), rightT nm (y, z, kwd x) && decide (z ≠ [])) := by simp [turnV, hw]
        rw [ht]
        rw [show wdsT [x, y, z] = (y, z, kwd x) from rfl]
        by_cases hr : rightT nm (y, z, kwd x) = true
        · have hk := wdK_kwd (rightT_iff.1 hr).1.1
          by_cases hz : z = []
          · rw [if_neg (by simp [hz]), if_neg]
            rintro ⟨_, j2, j3⟩
            have := big _ j2 j3
            simp [hw, hz] at this
          · have hl : lineT (y, z, kwd x) = a ++ [10] := by simp [lineT, bodyT, headT, hk, ha, hz]
            rw [if_pos ⟨e1, by simp [hr, hz]⟩, if_pos ⟨e1, hr, hl⟩]
        · rw [if_neg (fun h => hr (by simpa using (Bool.and_eq_true _ _ ▸ h.2).1)), if_neg (fun h => hr h.2.1)]
      | x :: y :: z :: u :: v =>
        have t1 : (turnV nm a).2 = false := by simp [turnV, hw]
        rw [if_neg (by simp [t1]), if_neg]
        rintro ⟨_, j2, j3⟩
        have := big _ j2 j3
        rw [hw] at this
        simp only [List.length_cons] at this
        split at this <;> omega
theorem lnP_good {nm : List UInt8 → Bool} (hn : NamesOk nm) {s r : List UInt8} {t : Tu} (h : lnP nm s = some (t, r)) : rightT nm t = true ∧ s = lineT t ++ r := by
  rw [lineStep_eq hn] at h
  unfold lnQ at h
  split at h
  · rename_i hc
    simp only [Option.some.injEq, Prod.mk.injEq] at h
    obtain ⟨rfl, rfl⟩ := h
    exact ⟨hc.2.1, by rw [hc.2.2, List.take_append_drop]⟩
  · cases h
theorem lnP_lt {nm : List UInt8 → Bool} {s r : List UInt8} {t : Tu} (h : lnP nm s = some (t, r)) : r.length < s.length := by
  unfold lnP at h
  split at h
  · rename_i hc
    simp only [Option.some.injEq, Prod.mk.injEq] at h
    rw [← h.2]; simp; omega
  · cases h
theorem lnP_line {nm : List UInt8 → Bool} (hn : NamesOk nm) {t : Tu} (h : rightT nm t = true) (r : List UInt8) : lnP nm (lineT t ++ r) = some (t, r) := by
  obtain ⟨h1, h2, h3⟩ := rightT_iff.1 h
  have g1 := fun b hb => hn.2 _ h2 b hb
  have hb10 : ∀ b ∈ bodyT t, b ≠ 10 := by
    unfold bodyT headT
    split
    · intro b hb
      simp only [List.mem_append, List.mem_cons] at hb
      rcases hb with hb | rfl | hb
      · exact (wdK_no b hb).2
      · decide
      · exact (g1 b hb).2
    · rename_i h4
      have g2 := fun b hb => hn.2 _ (h3.resolve_left h4) b hb
      intro b hb
      simp only [List.mem_append, List.mem_cons] at hb
      rcases hb with (hb | rfl | hb) | rfl | hb
      · exact (wdK_no b hb).2
      · decide
      · exact (g1 b hb).2
      · decide
      · exact (g2 b hb).2
  have e0 : lineT t ++ r = bodyT t ++ 10 :: r := by simp [lineT]
  have e : (bodyT t ++ 10 :: r).takeWhile notNl = bodyT t := tw_app (by decide) fun b hb => by simp [notNl, hb10 b hb]
  have e3 : (bodyT t ++ 10 :: r).drop ((bodyT t).length + 1) = r := by rw [← List.drop_drop, List.drop_left]; rfl
  have hk := kwd_wdK h1.1 h1.2
  have ht : turnV nm (bodyT t) = (t, true) := by
    obtain ⟨g, ru, k⟩ := t
    unfold turnV bodyT headT
    simp only at *
    by_cases h4 : ru = []
    · subst h4
      rw [if_pos rfl, spb_nl 32 _ _ (fun b hb => (wdK_no b hb).1), spb_last 32 _ (fun b hb => (g1 b hb).1)]
      simp [hk, h]
    · have g2 := fun b hb => hn.2 _ (h3.resolve_left h4) b hb
      rw [if_neg h4, List.append_assoc, List.cons_append, spb_nl 32 _ _ (fun b hb => (wdK_no b hb).1), spb_nl 32 _ _ (fun b hb => (g1 b hb).1), spb_last 32 _ (fun b hb => (g2 b hb).1)]
      simp [hk, h, h4]
  unfold lnP
  rw [e0, e, ht, if_pos ⟨by simp, rfl⟩, e3]
/-- All lines. -/
def rdG (nm : List UInt8 → Bool) : Nat → List UInt8 → Option (List Tu)
  | _, [] => some []
  | 0, _ :: _ => none
  | n + 1, b :: s => match lnP nm (b :: s) with
    | some (t, r) => (rdG nm n r).map (t :: ·)
    | none => none
theorem rdG_fuel {nm : List UInt8 → Bool} : ∀ (n m : Nat) (s : List UInt8), s.length ≤ n → s.length ≤ m → rdG nm n s = rdG nm m s
  | n, m, [], _, _ => by cases n <;> cases m <;> rfl
  | 0, _, b :: s, h, _ => by simp at h
  | _, 0, b :: s, _, h => by simp at h
  | n + 1, m + 1, b :: s, h1, h2 => by
    simp only [rdG]
    split
    · rename_i t r he
      have := lnP_lt he
      rw [rdG_fuel n m r (by simp at *; omega) (by simp at *; omega)]
    · rfl
def rdT (nm : List UInt8 → Bool) (s : List UInt8) : Option (List Tu) := rdG nm s.length s
theorem rdT_nil (nm : List UInt8 → Bool) : rdT nm [] = some [] := rfl
theorem rdT_some {nm : List UInt8 → Bool} {s r : List UInt8} {t : Tu} (h : lnP nm s = some (t, r)) : rdT nm s = (rdT nm r).map (t :: ·) := by
  have hl := lnP_lt h
  unfold rdT
  match s, hl, h with
  | b :: s, hl, h =>
    rw [List.length_cons, rdG, h]
    simp only
    rw [rdG_fuel s.length r.length r (by simp at hl; omega) (Nat.le_refl _)]
theorem rdT_none {nm : List UInt8 → Bool} {s : List UInt8} (h0 : s ≠ []) (h : lnP nm s = none) : rdT nm s = none := by
  unfold rdT
  match s, h0, h with
  | b :: s, _, h => rw [List.length_cons, rdG, h]
def linesT (l : List Tu) : List UInt8 := (l.map lineT).flatten
theorem rdT_lines {nm : List UInt8 → Bool} (hn : NamesOk nm) : ∀ (l : List Tu), (∀ t ∈ l, rightT nm t = true) → rdT nm (linesT l) = some l
  | [], _ => rfl
  | t :: l, h => by
    have e : linesT (t :: l) = lineT t ++ linesT l := rfl
    rw [e, rdT_some (lnP_line hn (h t (by simp)) (linesT l)), rdT_lines hn l (fun x hx => h x (by simp [hx]))]; rfl
theorem rdT_good {nm : List UInt8 → Bool} (hn : NamesOk nm) : ∀ (n : Nat) (s : List UInt8) (l : List Tu), s.length ≤ n → rdT nm s = some l → (∀ t ∈ l, rightT nm t = true) ∧ linesT l = s
  | n, [], l, _, h => by
    rw [rdT_nil] at h; simp at h; subst h; exact ⟨by simp, rfl⟩
  | 0, b :: s, l, h, _ => by simp at h
  | n + 1, b :: s, l, hl, h => by
    cases hs : lnP nm (b :: s) with
    | none => rw [rdT_none (by simp) hs] at h; cases h
    | some p =>
      obtain ⟨t, r⟩ := p
      rw [rdT_some hs] at h
      have := lnP_lt hs
      cases hr : rdT nm r with
      | none => rw [hr] at h; cases h
      | some l' =>
        rw [hr] at h
        simp only [Option.map_some, Option.some.injEq] at h
        subst h
        obtain ⟨g1, g2⟩ := lnP_good hn hs
        obtain ⟨i1, i2⟩ := rdT_good hn n r l' (by simp at *; omega) hr
        refine ⟨fun x hx => ?_, ?_⟩
        · rcases List.mem_cons.1 hx with rfl | hx
          · exact g1
          · exact i1 x hx
        · rw [g2, ← i2]; rfl
end Go.Ai
set_option linter.unusedSimpArgs false
set_option linter.unusedVariables false
namespace Go.Ai
/-! ### Digits, no program in sight -/
end Go.Ai
set_option linter.unusedSimpArgs false
set_option linter.unusedVariables false
namespace Go.Ai
open Go.Proofs

def bl (l : List Bool) : AV := .sl (l.map fun b => [.bool b])
/-! ### Bits -/
/-! ### Times -/
/-! ### Compare -/
end Go.Ai
set_option linter.unusedSimpArgs false
set_option linter.unusedVariables false
namespace Go.Ai
open Go.Proofs
/-! ### Bits by value and length -/
/-! ### Minus -/
/-! ### pad -/
/-! ### Of -/
end Go.Ai
set_option linter.unusedSimpArgs false
set_option linter.unusedVariables false
namespace Go.Ai
open Go.Proofs
/-! ### Divide -/
end Go.Ai
set_option linter.unusedSimpArgs false
set_option linter.unusedVariables false
namespace Go.Ai
open Go.Proofs

/-! ### Plain laws of Knuth's division -/
end Go.Ai
