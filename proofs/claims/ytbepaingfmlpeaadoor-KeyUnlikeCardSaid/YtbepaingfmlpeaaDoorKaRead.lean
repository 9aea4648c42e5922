/- YtbepaingfmlpeaaDoorKaRead: part of the abstract interpreter library (values, rules, soundness against the model) or of what a function of the seat computes. Conditions: as each theorem says. -/
import Derived.Test.YtbepaingfmlpeaaDoorKaDig
import Derived.Test.YtbepaingfmlpeaaDoorKaKey
import Derived.Lib.Join
import Derived.Lib.ItoaNum
set_option linter.unusedSimpArgs false
set_option linter.unusedVariables false
namespace Go.Ai
/-! ### A text between strokes, no program in sight -/
def spl : List UInt8 → List UInt8 → List (List UInt8)
  | cur, [] => [cur]
  | cur, b :: r => if b = 47 then cur :: spl [] r else spl (cur ++ [b]) r
theorem spl_app (a r : List UInt8) (cur : List UInt8) (h : ∀ b ∈ a, b ≠ 47) : spl cur (a ++ r) = spl (cur ++ a) r := by
  induction a generalizing cur with
  | nil => simp
  | cons b a ih =>
    rw [List.cons_append, spl, if_neg (h b (by simp)), ih _ (fun c hc => h c (by simp [hc]))]
    simp
theorem spl_stroke (a r : List UInt8) (h : ∀ b ∈ a, b ≠ 47) : spl [] (a ++ 47 :: r) = a :: spl [] r := by
  rw [spl_app a _ [] h, spl, if_pos rfl]; rfl
theorem spl_last (a : List UInt8) (h : ∀ b ∈ a, b ≠ 47) : spl [] a = [a] := by
  have := spl_app a [] [] h
  rw [List.append_nil] at this
  rw [this]; rfl
/-- Together again. -/
def jn : List (List UInt8) → List UInt8
  | [] => []
  | [x] => x
  | x :: y :: r => x ++ 47 :: jn (y :: r)
theorem spl_ne (cur s : List UInt8) : spl cur s ≠ [] := by
  induction s generalizing cur with
  | nil => simp [spl]
  | cons b r ih => rw [spl]; split <;> simp [ih]
theorem jn_spl (cur s : List UInt8) : jn (spl cur s) = cur ++ s := by
  induction s generalizing cur with
  | nil => simp [spl, jn]
  | cons b r ih =>
    rw [spl]
    split
    · rename_i e; subst e
      have h1 := ih []
      have h2 := spl_ne [] r
      cases hs : spl [] r with
      | nil => exact absurd hs h2
      | cons y z => rw [hs] at h1; rw [jn, h1]; simp
    · rw [ih]; simp
theorem spl_mem (cur s : List UInt8) (hc : ∀ b ∈ cur, b ≠ 47) : ∀ x ∈ spl cur s, ∀ b ∈ x, b ≠ 47 := by
  induction s generalizing cur with
  | nil => intro x hx; rw [spl, List.mem_singleton] at hx; subst hx; exact hc
  | cons b r ih =>
    rw [spl]
    split
    · intro x hx
      rcases List.mem_cons.1 hx with rfl | hx
      · exact hc
      · exact ih [] (by simp) x hx
    · rename_i hb
      exact ih _ (fun c h => by rcases List.mem_append.1 h with h | h; exact hc c h; simp at h; subst h; exact hb)
theorem jn5 (a b c d e : List UInt8) : jn [a, b, c, d, e] = a ++ 47 :: (b ++ 47 :: (c ++ 47 :: (d ++ 47 :: e))) := rfl
theorem spl_jn5 (a b c d e : List UInt8) (ha : ∀ x ∈ a, x ≠ 47) (hb : ∀ x ∈ b, x ≠ 47) (hc : ∀ x ∈ c, x ≠ 47) (hd : ∀ x ∈ d, x ≠ 47) (he : ∀ x ∈ e, x ≠ 47) : spl [] (jn [a, b, c, d, e]) = [a, b, c, d, e] := by
  rw [jn5, spl_stroke _ _ ha, spl_stroke _ _ hb, spl_stroke _ _ hc, spl_stroke _ _ hd, spl_last _ he]
theorem spl_len (cur s : List UInt8) : (spl cur s).length ≤ s.length + 1 := by
  induction s generalizing cur with
  | nil => simp [spl]
  | cons b r ih =>
    rw [spl]; split
    · have := ih []; simp; omega
    · have := ih (cur ++ [b]); simp; omega
theorem spl_lens (cur s : List UInt8) : ∀ x ∈ spl cur s, x.length ≤ cur.length + s.length := by
  induction s generalizing cur with
  | nil => intro x hx; rw [spl, List.mem_singleton] at hx; subst hx; simp
  | cons b r ih =>
    rw [spl]
    split
    · intro x hx
      rcases List.mem_cons.1 hx with rfl | hx
      · simp
      · have := ih [] x hx; simp at this ⊢; omega
    · intro x hx
      have := ih _ x hx
      simp at this ⊢; omega
/-! ### Runes and strokes -/
theorem conts_all {s : List UInt8} {i : Nat} : ∀ {n : Nat}, conts s i n = true → ∀ k, 1 ≤ k → k ≤ n → cont s (i + k) = true
  | 0, _, k, h1, h2 => by omega
  | n + 1, h, k, h1, h2 => by
    simp only [conts, Bool.and_eq_true] at h
    rcases Nat.lt_or_ge k (n + 1) with h3 | h3
    · exact conts_all h.1 k h1 (by omega)
    · have : k = n + 1 := by omega
      subst this; exact h.2
theorem stepF_seg {s : List UInt8} {i n r0 least : Nat} (h : i < s.length) (hb : byt s i ≠ 47) : i + (stepF s i n r0 least).2 ≤ s.length ∧ ∀ j (hj : j < s.length), i ≤ j → j < i + (stepF s i n r0 least).2 → s[j] ≠ 47 := by
  have one : ∀ j (hj : j < s.length), i ≤ j → j < i + 1 → s[j] ≠ 47 := by
    intro j hj h1 h2 e
    obtain rfl : j = i := by omega
    rw [byt_at h, e] at hb; exact hb rfl
  unfold stepF
  split
  · rename_i hc
    simp only [Bool.and_eq_true] at hc
    refine ⟨?_, ?_⟩
    · simp only
      by_cases hn : n = 0
      · subst hn; omega
      · have := (cont_iff.1 (conts_all hc.1 n (by omega) (Nat.le_refl _))).1; omega
    · intro j hj h1 h2 e
      simp only at h2
      by_cases hji : j = i
      · exact one j hj h1 (by omega) e
      · have h3 := conts_all hc.1 (j - i) (by omega) (by omega)
        rw [show i + (j - i) = j by omega] at h3
        have h4 := (cont_iff.1 h3).2
        rw [byt_at hj, e] at h4
        simp at h4
  · exact ⟨by simp only; omega, fun j hj h1 h2 => one j hj h1 h2⟩
theorem rune_stroke {s : List UInt8} {i : Nat} (h : i < s.length) (hb : s[i] = 47) : runeAt s i = (47, 1) := by
  rw [rune_lo h (by rw [hb]; decide), hb]; rfl
theorem rune_seg {s : List UInt8} {i : Nat} (h : i < s.length) (hb : s[i] ≠ 47) : (runeAt s i).1 ≠ 47 ∧ 1 ≤ (runeAt s i).2 ∧ i + (runeAt s i).2 ≤ s.length ∧ ∀ j (hj : j < s.length), i ≤ j → j < i + (runeAt s i).2 → s[j] ≠ 47 := by
  have hb2 : byt s i ≠ 47 := fun e => hb (UInt8.toNat.inj (by rw [← byt_at h, e]; rfl))
  have one : i + 1 ≤ s.length ∧ ∀ j (hj : j < s.length), i ≤ j → j < i + 1 → s[j] ≠ 47 := ⟨by omega, by
    intro j hj h1 h2 e
    obtain rfl : j = i := by omega
    exact hb e⟩
  have hst : i + (stepR s i).2 ≤ s.length ∧ ∀ j (hj : j < s.length), i ≤ j → j < i + (stepR s i).2 → s[j] ≠ 47 := by
    unfold stepR
    simp only
    split
    · exact one
    · split
      · exact stepF_seg h hb2
      · split
        · exact stepF_seg h hb2
        · split
          · exact stepF_seg h hb2
          · exact one
  refine ⟨?_, rune_pos, ?_, ?_⟩
  · by_cases g : s[i].toNat < 128
    · rw [rune_lo h g]
      simp only
      intro e
      exact hb (UInt8.toNat.inj (by have : s[i].toNat = 47 := by omega
                                    rw [this]; rfl))
    · have := rune_hi h g; omega
  · rw [step_rune s i h]; split
    · exact one.1
    · exact hst.1
  · rw [step_rune s i h]; split
    · exact one.2
    · exact hst.2
/-- A step over what is no stroke. -/
theorem spl_step {s : List UInt8} {i k from_ : Nat} (h1 : from_ ≤ i) (h2 : i + k ≤ s.length) (h : ∀ j (hj : j < s.length), i ≤ j → j < i + k → s[j] ≠ 47) : spl ((s.take i).drop from_) (s.drop i) = spl ((s.take (i + k)).drop from_) (s.drop (i + k)) := by
  have e1 : s.drop i = (s.drop i).take k ++ s.drop (i + k) := by rw [← List.drop_drop]; exact (List.take_append_drop k (s.drop i)).symm
  have e2 : s.take (i + k) = s.take i ++ (s.drop i).take k := List.take_add
  rw [e1, spl_app]
  · rw [e2, List.drop_append_of_le_length (by rw [List.length_take]; omega)]
  · intro b hb
    obtain ⟨j, hj, rfl⟩ := List.getElem_of_mem hb
    rw [List.length_take, List.length_drop] at hj
    rw [List.getElem_take, List.getElem_drop]
    exact h (i + j) (by omega) (by omega) (by omega)
theorem spl_at {s : List UInt8} {i from_ : Nat} (h : i < s.length) (hb : s[i] = 47) : spl ((s.take i).drop from_) (s.drop i) = (s.take i).drop from_ :: spl ((s.take (i + 1)).drop (i + 1)) (s.drop (i + 1)) := by
  rw [List.drop_eq_getElem_cons h, spl, if_pos hb]
  congr 2
  rw [List.drop_eq_nil_of_le]; rw [List.length_take]; omega
theorem spl_end {s : List UInt8} {from_ : Nat} : spl ((s.take s.length).drop from_) (s.drop s.length) = [s.drop from_] := by
  rw [List.drop_length, List.take_length]; rfl
/-! ### Keys' prints -/
theorem decDigits_eq (n : Nat) : Lib.decDigits n = dec n := by
  induction n using Nat.strongRecOn with
  | _ n ih =>
    by_cases h : n < 10
    · rw [Lib.decDigits, dif_pos h, dec_lt h]
    · rw [Lib.decDigits, dif_neg h, dec_ge h, ih _ (by omega)]
def pageW (b : Bool) : List UInt8 := if b = true then [112, 97, 103, 101] else [116, 105, 99, 107, 101, 116]
def fireW (b : Bool) : List UInt8 := if b = true then [114, 101, 115, 111, 108, 118, 101] else [102, 105, 114, 101]
def printK (k : Ky) : List UInt8 := if rightK k = true then jn [k.g, k.r, pageW k.p, dec k.e, fireW k.f] else [63]
def kz : Ky := ⟨[], [], false, 0, false⟩
def keyOf (g r p e f : List UInt8) : Ky := ⟨g, r, p == [112, 97, 103, 101], (readN e).1 % 18446744073709551616, f == [114, 101, 115, 111, 108, 118, 101]⟩
def goodK (g r p e f : List UInt8) : Bool := decide ((readN e).2 = 0) && decide ((readN e).1 / 18446744073709551616 = 0) && (p == [112, 97, 103, 101] || p == [116, 105, 99, 107, 101, 116]) && (f == [114, 101, 115, 111, 108, 118, 101] || f == [102, 105, 114, 101]) && rightK (keyOf g r p e f)
def readK (s : List UInt8) : Ky × Bool := match spl [] s with
  | [g, r, p, e, f] => if goodK g r p e f = true then (keyOf g r p e f, true) else (kz, false)
  | _ => (kz, false)
def rreadK (s : List UInt8) : Ky × Bool := match spl [] s with
  | [g, r, p, e, f] => if (readN e).1 / 18446744073709551616 = 0 ∧ rightK (keyOf g r p e f) = true ∧ printK (keyOf g r p e f) = s then (keyOf g r p e f, true) else (kz, false)
  | _ => (kz, false)
theorem letter_no (r : Int) (h : letter r = true) : r ≠ 47 := by rintro rfl; revert h; decide
theorem nameGo_no : ∀ (l : List Int) (n : Nat) (last : Int), nameGo n last l = true → ∀ r ∈ l, r ≠ 47
  | [], _, _, _, r, hr => by simp at hr
  | x :: l, n, last, h, r, hr => by
    simp only [nameGo, Bool.and_eq_true] at h
    rcases List.mem_cons.1 hr with rfl | hr
    · rintro rfl
      have := h.1
      revert this
      simp [letter, digR]
    · exact nameGo_no l _ _ h.2 r hr
theorem runes_no (s : List UInt8) : ∀ (n i : Nat), s.length - i ≤ n → (∀ r ∈ runesL s i, r ≠ 47) → ∀ j (hj : j < s.length), i ≤ j → s[j] ≠ 47
  | 0, i, hn, _, j, hj, h => by omega
  | n + 1, i, hn, hr, j, hj, h => by
    have hi : i < s.length := by omega
    rw [runesL_in hi] at hr
    have hp := stepR_pos s i
    have h1 : (stepR s i).1 ≠ 47 := hr _ (by simp)
    have hb : s[i] ≠ 47 := by
      intro e
      apply h1
      unfold stepR
      simp only
      rw [byt_at hi, e]
      rw [if_pos (by decide)]; rfl
    have hs := rune_seg hi hb
    have hsr := step_rune s i hi
    have hk : (runeAt s i).2 = (stepR s i).2 := by
      rw [hsr]; split
      · rename_i e
        have : (stepR s i).2 = 1 := by
          revert e
          have lp : ∀ a r0 least, (stepF s i a r0 least).1 = -1 → (stepF s i a r0 least).2 = 1 := by
            intro a r0 least
            unfold stepF
            split
            · simp only; intro e; omega
            · simp
          unfold stepR
          simp only
          split
          · simp only; intro e; omega
          · split
            · exact lp _ _ _
            · split
              · exact lp _ _ _
              · split
                · exact lp _ _ _
                · simp
        rw [this]
      · rfl
    rw [hk] at hs
    rcases Nat.lt_or_ge j (i + (stepR s i).2) with h2 | h2
    · exact hs.2.2.2 j hj h h2
    · exact runes_no s n (i + (stepR s i).2) (by omega) (fun r hr' => hr r (by simp [hr'])) j hj h2
theorem nameT_no {s : List UInt8} (h : nameT s = true) : ∀ b ∈ s, b ≠ 47 := by
  intro b hb
  obtain ⟨j, hj, rfl⟩ := List.getElem_of_mem hb
  exact runes_no s s.length 0 (by omega) (nameGo_no _ _ _ h) j hj (Nat.zero_le _)
theorem dec_no (n : Nat) : ∀ b ∈ dec n, b ≠ 47 := by
  intro b hb e
  have := List.all_eq_true.1 (dec_dig n) b hb
  subst e
  simp [isDig] at this
theorem spl_print {k : Ky} (h : rightK k = true) : spl [] (jn [k.g, k.r, pageW k.p, dec k.e, fireW k.f]) = [k.g, k.r, pageW k.p, dec k.e, fireW k.f] := by
  have hr := h
  unfold rightK at hr
  simp only [Bool.and_eq_true] at hr
  refine spl_jn5 _ _ _ _ _ (nameT_no hr.1.1) (nameT_no hr.1.2) ?_ (dec_no _) ?_
  · unfold pageW; split <;> decide
  · unfold fireW; split <;> decide
theorem readN_dec {n : Nat} (h : n < 340282366920938463463374607431768211456) : readN (dec n) = (n, 0) := by
  unfold readN
  rw [if_pos (okDec_dec n), undec_dec, if_pos h]
theorem pageW_eq (b : Bool) : (pageW b == [112, 97, 103, 101]) = b := by cases b <;> rfl
theorem fireW_eq (b : Bool) : (fireW b == [114, 101, 115, 111, 108, 118, 101]) = b := by cases b <;> rfl
theorem right_e {k : Ky} (h : rightK k = true) : k.e ≤ 4611686018427387904 := by
  unfold rightK at h
  simp only [Bool.and_eq_true, decide_eq_true_eq] at h
  exact h.2.2
theorem keyOf_print {k : Ky} (h : rightK k = true) : keyOf k.g k.r (pageW k.p) (dec k.e) (fireW k.f) = k := by
  have := right_e h
  unfold keyOf
  rw [readN_dec (by omega), pageW_eq, fireW_eq]
  simp only
  rw [Nat.mod_eq_of_lt (by omega)]
theorem goodK_print {k : Ky} (h : rightK k = true) : goodK k.g k.r (pageW k.p) (dec k.e) (fireW k.f) = true := by
  have := right_e h
  unfold goodK
  rw [keyOf_print h, readN_dec (by omega), pageW_eq, fireW_eq, h]
  simp only
  have hp : (k.p || pageW k.p == [116, 105, 99, 107, 101, 116]) = true := by cases k.p <;> rfl
  have hf : (k.f || fireW k.f == [102, 105, 114, 101]) = true := by cases k.f <;> rfl
  rw [hp, hf]
  simp; omega
/-- What is printed is read. -/
theorem read_print (k : Ky) : readK (printK k) = if rightK k = true then (k, true) else (kz, false) := by
  unfold printK
  split
  · rename_i h
    unfold readK
    rw [spl_print h]
    simp only
    rw [if_pos (goodK_print h), keyOf_print h]
  · rfl
theorem readN_ok {s : List UInt8} (h : (readN s).2 = 0) : dec (readN s).1 = s := by
  unfold readN at h ⊢
  split
  · rename_i hk
    rw [if_pos hk] at h
    split
    · exact dec_undec s hk
    · rename_i h2
      rw [if_neg h2] at h
      exact absurd h (by decide)
  · rename_i hk
    rw [if_neg hk] at h
    exact absurd h (by decide)
theorem print_keyOf {g r p e f : List UInt8} (h : goodK g r p e f = true) : printK (keyOf g r p e f) = jn [g, r, p, e, f] := by
  unfold goodK at h
  simp only [Bool.and_eq_true, decide_eq_true_eq, Bool.or_eq_true, beq_iff_eq] at h
  obtain ⟨⟨⟨⟨h1, h2⟩, h3⟩, h4⟩, h5⟩ := h
  unfold printK
  rw [if_pos h5]
  have e1 : dec (keyOf g r p e f).e = e := by
    show dec ((readN e).1 % 18446744073709551616) = e
    rw [Nat.mod_eq_of_lt (by omega)]; exact readN_ok h1
  have e2 : pageW (keyOf g r p e f).p = p := by
    show pageW (p == _) = p
    rcases h3 with rfl | rfl <;> rfl
  have e3 : fireW (keyOf g r p e f).f = f := by
    show fireW (f == _) = f
    rcases h4 with rfl | rfl <;> rfl
  rw [e1, e2, e3]; rfl
/-- The document's reading is the same. -/
theorem rread_eq (s : List UInt8) : rreadK s = readK s := by
  unfold rreadK readK
  have hj := jn_spl [] s
  rw [List.nil_append] at hj
  split
  · rename_i g r p e f hs
    rw [hs] at hj
    by_cases hg : goodK g r p e f = true
    · have hp := print_keyOf hg
      rw [hj] at hp
      have hg2 := hg
      unfold goodK at hg2
      simp only [Bool.and_eq_true, decide_eq_true_eq] at hg2
      rw [if_pos hg, if_pos ⟨hg2.1.1.1.2, hg2.2, hp⟩]
    · rw [if_neg hg, if_neg]
      rintro ⟨h1, h2, h3⟩
      apply hg
      have h4 := spl_print h2
      unfold printK at h3
      rw [if_pos h2] at h3
      rw [h3, hs] at h4
      obtain ⟨_, _, e3, e4, e5⟩ : g = (keyOf g r p e f).g ∧ r = (keyOf g r p e f).r ∧ p = pageW (keyOf g r p e f).p ∧ e = dec (keyOf g r p e f).e ∧ f = fireW (keyOf g r p e f).f := by simpa using h4
      have := goodK_print h2
      rw [← e3, ← e4, ← e5] at this
      exact this
  · rfl
theorem readK_print {s : List UInt8} (h : (readK s).2 = true) : printK (readK s).1 = s := by
  have hj := jn_spl [] s
  rw [List.nil_append] at hj
  unfold readK at h ⊢
  split at h
  · rename_i g r p e f hs
    rw [hs] at hj
    by_cases hg : goodK g r p e f = true
    · rw [if_pos hg]; rw [← hj]; exact print_keyOf hg
    · rw [if_neg hg] at h; cases h
  · cases h
theorem print_len (k : Ky) (hg : k.g.length ≤ 500) (hr : k.r.length ≤ 500) : (printK k).length ≤ 1100 := by
  unfold printK
  split
  · rename_i h
    have he := right_e h
    have hd := dec_len 19 k.e (by omega)
    rw [jn5]
    have hp : (pageW k.p).length ≤ 6 := by cases k.p <;> decide
    have hf : (fireW k.f).length ≤ 7 := by cases k.f <;> decide
    simp only [List.length_append, List.length_cons]
    omega
  · simp
end Go.Ai
set_option linter.unusedSimpArgs false
set_option linter.unusedVariables false
namespace Go.Ai
open Go.Proofs Go.RowKit
theorem ite_le {α : Type} {a b : Nat} {x y : α} (h : a ≤ b) : (if a ≤ b then x else y) = x := if_pos h
theorem join5 (a b c d e : List UInt8) : Lib.join [a, b, c, d, e] [47] = jn [a, b, c, d, e] := by
  rw [Lib.join_cons, jn5]
  simp [Lib.joinTail]
theorem kprint_spec (k : Ky) (hg : k.g.length ≤ 1000) (hr : k.r.length ≤ 1000) : Sp Tryd.prog gl 10 [.agg k.row] (.str (printK k)) := by
  refine s10 rfl rfl ?_
  have R := kright_spec k (by omega) (by omega)
  cases h : rightK k
  · rw [h] at R
    have e : printK k = [63] := by unfold printK; rw [h]; rfl
    rw [e]
    rw [krow] at R ⊢
    clear e h
    obtain ⟨g, r, p, e, f⟩ := k
    simp only at *
    simp -implicitDefEqProofs [c10]
    refine onC_mk _ R ?_
    simp -implicitDefEqProofs
  · rw [h] at R
    have E1 := either_spec k.p [112, 97, 103, 101] [116, 105, 99, 107, 101, 116]
    have E2 := either_spec k.f [114, 101, 115, 111, 108, 118, 101] [102, 105, 114, 101]
    have F := fmt_spec k.e (by have := right_e h; omega)
    rw [decDigits_eq] at F
    have hd := dec_len 19 k.e (by have := right_e h; omega)
    have e : printK k = Lib.join [k.g, k.r, pageW k.p, dec k.e, fireW k.f] [47] := by unfold printK; rw [if_pos h, join5]
    have hlen := print_len ⟨[], [], k.p, k.e, k.f⟩ (by simp) (by simp)
    have J := join_spec [k.g, k.r, pageW k.p, dec k.e, fireW k.f] [47] (by simp) (by
      rw [join5, jn5]
      have hp : (pageW k.p).length ≤ 6 := by cases k.p <;> decide
      have hf : (fireW k.f).length ≤ 7 := by cases k.f <;> decide
      simp only [List.length_append, List.length_cons]
      omega)
    rw [e]
    rw [show (if k.p = true then [112, 97, 103, 101] else [116, 105, 99, 107, 101, 116]) = pageW k.p from rfl] at E1
    rw [show (if k.f = true then [114, 101, 115, 111, 108, 118, 101] else [102, 105, 114, 101]) = fireW k.f from rfl] at E2
    clear e h hd hlen
    rw [krow] at R ⊢
    obtain ⟨g, r, p, e, f⟩ := k
    simp only at *
    generalize Lib.join [g, r, pageW p, dec e, fireW f] [47] = out at *
    simp only [strRows, List.map_cons, List.map_nil] at J
    generalize dec e = de at *
    generalize pageW p = pw at *
    generalize fireW f = fw at *
    simp -implicitDefEqProofs [c10]
    refine onC_mk _ R ?_
    simp -implicitDefEqProofs
    refine onC_mk _ E1 ?_
    simp -implicitDefEqProofs
    refine onC_mk _ F ?_
    simp -implicitDefEqProofs
    refine onC_mk _ E2 ?_
    simp -implicitDefEqProofs
    refine onC_mk _ J ?_
    simp -implicitDefEqProofs
theorem digits13_spec (n : Nat) (h : n < 18446744073709551616) : Sp Tryd.prog gl 41 [u n] (.str (dec n)) := by
  refine s41 rfl rfl ?_
  have B := bits_spec n (by omega)
  have D := digits_spec (bitsOf n 128) (by simp [bitsOf])
  rw [bitsOf_val128 n (by omega)] at D
  rw [show wide n = .agg [u 0, u n] by unfold wide; rw [Nat.div_eq_of_lt h, Nat.mod_eq_of_lt h]] at B
  unfold bl at B D
  generalize dec n = out at *
  generalize List.map (fun b => [AV.bool b]) (bitsOf n 128) = bs at *
  simp -implicitDefEqProofs [c41]
  refine onC_mk _ B ?_
  simp -implicitDefEqProofs
  refine onC_mk _ D ?_
  simp -implicitDefEqProofs
set_option maxRecDepth 20000 in
theorem rprint_spec (k : Ky) (hg : k.g.length ≤ 1000) (hr : k.r.length ≤ 1000) : Sp Tryd.prog gl 18 [.agg k.row] (.str (printK k)) := by
  refine s18 rfl rfl ?_
  have R := rkright_spec k (by omega) (by omega)
  cases h : rightK k
  · rw [h] at R
    have e : printK k = [63] := by unfold printK; rw [h]; rfl
    rw [e]
    rw [krow] at R ⊢
    clear e h
    obtain ⟨g, r, p, e, f⟩ := k
    simp only at *
    simp -implicitDefEqProofs [c18]
    refine onC_mk _ R ?_
    simp -implicitDefEqProofs
  · rw [h] at R
    have D := digits13_spec k.e (by have := right_e h; omega)
    have hd := dec_len 19 k.e (by have := right_e h; omega)
    have e : printK k = k.g ++ 47 :: (k.r ++ 47 :: (pageW k.p ++ 47 :: (dec k.e ++ 47 :: fireW k.f))) := by unfold printK; rw [if_pos h, jn5]
    rw [e]
    clear e h
    rw [krow] at R ⊢
    obtain ⟨g, r, p, e, f⟩ := k
    simp only at *
    generalize dec e = de at *
    cases p
    · cases f
      · simp -implicitDefEqProofs [c18]
        refine onC_mk _ R ?_
        simp -implicitDefEqProofs
        rw [ite_le (by omega)]
        simp -implicitDefEqProofs
        rw [ite_le (by omega)]
        simp -implicitDefEqProofs
        rw [ite_le (by omega)]
        simp -implicitDefEqProofs
        refine onC_mk _ D ?_
        simp -implicitDefEqProofs
        rw [ite_le (by omega)]
        simp -implicitDefEqProofs
        rw [ite_le (by omega)]
        simp -implicitDefEqProofs [pageW, fireW]
      · simp -implicitDefEqProofs [c18]
        refine onC_mk _ R ?_
        simp -implicitDefEqProofs
        rw [ite_le (by omega)]
        simp -implicitDefEqProofs
        rw [ite_le (by omega)]
        simp -implicitDefEqProofs
        rw [ite_le (by omega)]
        simp -implicitDefEqProofs
        refine onC_mk _ D ?_
        simp -implicitDefEqProofs
        rw [ite_le (by omega)]
        simp -implicitDefEqProofs
        rw [ite_le (by omega)]
        simp -implicitDefEqProofs [pageW, fireW]
    · cases f
      · simp -implicitDefEqProofs [c18]
        refine onC_mk _ R ?_
        simp -implicitDefEqProofs
        rw [ite_le (by omega)]
        simp -implicitDefEqProofs
        rw [ite_le (by omega)]
        simp -implicitDefEqProofs
        rw [ite_le (by omega)]
        simp -implicitDefEqProofs
        refine onC_mk _ D ?_
        simp -implicitDefEqProofs
        rw [ite_le (by omega)]
        simp -implicitDefEqProofs
        rw [ite_le (by omega)]
        simp -implicitDefEqProofs [pageW, fireW]
      · simp -implicitDefEqProofs [c18]
        refine onC_mk _ R ?_
        simp -implicitDefEqProofs
        rw [ite_le (by omega)]
        simp -implicitDefEqProofs
        rw [ite_le (by omega)]
        simp -implicitDefEqProofs
        rw [ite_le (by omega)]
        simp -implicitDefEqProofs
        refine onC_mk _ D ?_
        simp -implicitDefEqProofs
        rw [ite_le (by omega)]
        simp -implicitDefEqProofs
        rw [ite_le (by omega)]
        simp -implicitDefEqProofs [pageW, fireW]
theorem which_spec (s a b : List UInt8) : Sp Tryd.prog gl 38 [.str s, .str a, .str b] (.tup [.bool (s == a), .bool (s == a || s == b)]) := by
  refine s38 rfl rfl ?_
  generalize hx : (s == a) = x
  generalize hy : (s == b) = y
  cases x
  · simp -implicitDefEqProofs [c38, hx, hy]
  · simp -implicitDefEqProofs [c38, hx, hy]
end Go.Ai
