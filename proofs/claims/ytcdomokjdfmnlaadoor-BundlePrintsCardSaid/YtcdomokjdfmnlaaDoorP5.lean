/- YtcdomokjdfmnlaaDoorP5: part of the abstract interpreter library (values, rules, soundness against the model) or of what a function of the seat computes. Conditions: as each theorem says. -/
import Derived.Test.YtcdomokjdfmnlaaDoorP4
import Derived.Test.YtcdomokjdfmnlaaDoorP3
import Derived.Lib.Join
import Derived.Lib.ItoaNum
set_option linter.unusedSimpArgs false
set_option linter.unusedVariables false
namespace Go.Ai
open Go.Proofs
theorem krow (k : Ky) : k.row = [.str k.g, .str k.r, .bool k.p, u k.e, .bool k.f] := rfl
theorem xheavy_spec (k : Ky) : Sp Tryd.prog gl 9 [.agg k.row] (.bool (decide (500 < k.g.length ∨ 500 < k.r.length))) := by
  refine s9 rfl rfl ?_
  obtain ⟨kg, kr, kp, ke, kf⟩ := k
  unfold Ky.row
  simp only
  by_cases h : 500 < kg.length
  · have h' : (500 : Int) < kg.length := by omega
    simp -implicitDefEqProofs [c9, h, h']
  · have h' : ¬ (500 : Int) < kg.length := by omega
    simp -implicitDefEqProofs [c9, h, h']
    omega
def heavyK (k : Ky) : Bool := decide (500 < k.g.length ∨ 500 < k.r.length)
theorem int_beq_nat (a b : Nat) : ((a : Int) == (b : Int)) = (a == b) := by
  rw [Bool.eq_iff_iff]; simp; omega
theorem ky_beq (a b : Ky) : (a.g == b.g && (a.r == b.r && (a.p == b.p && (((a.e : Int) == (b.e : Int)) && a.f == b.f)))) = decide (a = b) := by
  obtain ⟨g, r, p, e, f⟩ := a
  obtain ⟨g', r', p', e', f'⟩ := b
  rw [Bool.eq_iff_iff, int_beq_nat]
  simp
def rightK (k : Ky) : Bool := nameT k.g && nameT k.r && decide (1 ≤ k.e ∧ k.e ≤ 4611686018427387904)
theorem kright_spec (k : Ky) (hg : k.g.length ≤ 900000) (hr : k.r.length ≤ 900000) : Sp Tryd.prog gl 47 [.agg k.row] (.bool (rightK k)) := by
  refine s47 rfl rfl ?_
  obtain ⟨g, r, p, e, f⟩ := k
  have N1 := tname_spec g hg
  have N2 := tname_spec r hr
  unfold rightK Ky.row
  simp only at *
  generalize nameT g = n1 at *
  generalize nameT r = n2 at *
  cases n1
  · simp -implicitDefEqProofs [c47]
    refine onC_mk _ N1 ?_
    simp -implicitDefEqProofs
  · cases n2
    · simp -implicitDefEqProofs [c47]
      refine onC_mk _ N1 ?_
      simp -implicitDefEqProofs
      refine onC_mk _ N2 ?_
      simp -implicitDefEqProofs
    · simp -implicitDefEqProofs [c47]
      refine onC_mk _ N1 ?_
      simp -implicitDefEqProofs
      refine onC_mk _ N2 ?_
      by_cases h1 : 1 ≤ e
      · have h1' : (1 : Int) ≤ e := by omega
        by_cases h2 : e ≤ 4611686018427387904
        · have h2' : (e : Int) ≤ 4611686018427387904 := by omega
          simp -implicitDefEqProofs [h1, h1', h2, h2']
        · have h2' : ¬ (e : Int) ≤ 4611686018427387904 := by omega
          simp -implicitDefEqProofs [h1, h1', h2, h2']
      · have h1' : ¬ (1 : Int) ≤ e := by omega
        simp -implicitDefEqProofs [h1, h1']
theorem rkright_spec (k : Ky) (hg : k.g.length ≤ 900000) (hr : k.r.length ≤ 900000) : Sp Tryd.prog gl 14 [.agg k.row] (.bool (rightK k)) := by
  refine s14 rfl rfl ?_
  obtain ⟨g, r, p, e, f⟩ := k
  have N1 := rname_spec g hg
  have N2 := rname_spec r hr
  unfold rightK Ky.row
  simp only at *
  generalize nameT g = n1 at *
  generalize nameT r = n2 at *
  cases n1
  · simp -implicitDefEqProofs [c14]
    refine onC_mk _ N1 ?_
    simp -implicitDefEqProofs
  · cases n2
    · simp -implicitDefEqProofs [c14]
      refine onC_mk _ N1 ?_
      simp -implicitDefEqProofs
      refine onC_mk _ N2 ?_
      simp -implicitDefEqProofs
    · simp -implicitDefEqProofs [c14]
      refine onC_mk _ N1 ?_
      simp -implicitDefEqProofs
      refine onC_mk _ N2 ?_
      by_cases h1 : 0 < e
      · have h1' : (0 : Int) < e := by omega
        have h1n : 1 ≤ e := h1
        by_cases h2 : e ≤ 4611686018427387904
        · have h2' : (e : Int) ≤ 4611686018427387904 := by omega
          simp -implicitDefEqProofs [h1, h1', h2, h2', h1n]
        · have h2' : ¬ (e : Int) ≤ 4611686018427387904 := by omega
          simp -implicitDefEqProofs [h1, h1', h2, h2', h1n]
      · have h1' : ¬ (0 : Int) < e := by omega
        have h1n : ¬ 1 ≤ e := by omega
        simp -implicitDefEqProofs [h1, h1', h1n]
end Go.Ai
set_option linter.unusedSimpArgs false
set_option linter.unusedVariables false
namespace Go.Ai
/-! ### A text between strokes, no program in sight -/
def spl : List UInt8 → List UInt8 → List (List UInt8)
  | cur, [] => [cur]
  | cur, b :: r => if b = 47 then cur :: spl [] r else spl (cur ++ [b]) r
theorem spl_app (a r : List UInt8) (cur : List UInt8) (h : ∀ b ∈ a, b ≠ 47) : spl cur (a ++ r) = spl (cur ++ a) r := by
  induction a generalizing cur with
  | nil => simp
  | cons b a ih =>
    rw [List.cons_append, spl, if_neg (h b (by simp)), ih _ (fun c hc => h c (by simp [hc]))]
    simp
theorem spl_stroke (a r : List UInt8) (h : ∀ b ∈ a, b ≠ 47) : spl [] (a ++ 47 :: r) = a :: spl [] r := by
  rw [spl_app a _ [] h, spl, if_pos rfl]; rfl
theorem spl_last (a : List UInt8) (h : ∀ b ∈ a, b ≠ 47) : spl [] a = [a] := by
  have := spl_app a [] [] h
  rw [List.append_nil] at this
  rw [this]; rfl
/-- Together again. -/
def jn : List (List UInt8) → List UInt8
  | [] => []
  | [x] => x
  | x :: y :: r => x ++ 47 :: jn (y :: r)
theorem spl_ne (cur s : List UInt8) : spl cur s ≠ [] := by
  induction s generalizing cur with
  | nil => simp [spl]
  | cons b r ih => rw [spl]; split <;> simp [ih]
theorem jn_spl (cur s : List UInt8) : jn (spl cur s) = cur ++ s := by
  induction s generalizing cur with
  | nil => simp [spl, jn]
  | cons b r ih =>
    rw [spl]
    split
    · rename_i e; subst e
      have h1 := ih []
      have h2 := spl_ne [] r
      cases hs : spl [] r with
      | nil => exact absurd hs h2
      | cons y z => rw [hs] at h1; rw [jn, h1]; simp
    · rw [ih]; simp
theorem spl_mem (cur s : List UInt8) (hc : ∀ b ∈ cur, b ≠ 47) : ∀ x ∈ spl cur s, ∀ b ∈ x, b ≠ 47 := by
  induction s generalizing cur with
  | nil => intro x hx; rw [spl, List.mem_singleton] at hx; subst hx; exact hc
  | cons b r ih =>
    rw [spl]
    split
    · intro x hx
      rcases List.mem_cons.1 hx with rfl | hx
      · exact hc
      · exact ih [] (by simp) x hx
    · rename_i hb
      exact ih _ (fun c h => by rcases List.mem_append.1 h with h | h; exact hc c h; simp at h; subst h; exact hb)
theorem jn5 (a b c d e : List UInt8) : jn [a, b, c, d, e] = a ++ 47 :: (b ++ 47 :: (c ++ 47 :: (d ++ 47 :: e))) := rfl
theorem spl_jn5 (a b c d e : List UInt8) (ha : ∀ x ∈ a, x ≠ 47) (hb : ∀ x ∈ b, x ≠ 47) (hc : ∀ x ∈ c, x ≠ 47) (hd : ∀ x ∈ d, x ≠ 47) (he : ∀ x ∈ e, x ≠ 47) : spl [] (jn [a, b, c, d, e]) = [a, b, c, d, e] := by
  rw [jn5, spl_stroke _ _ ha, spl_stroke _ _ hb, spl_stroke _ _ hc, spl_stroke _ _ hd, spl_last _ he]
theorem spl_len (cur s : List UInt8) : (spl cur s).length ≤ s.length + 1 := by
  induction s generalizing cur with
  | nil => simp [spl]
  | cons b r ih =>
    rw [spl]; split
    · have := ih []; simp; omega
    · have := ih (cur ++ [b]); simp; omega
theorem spl_lens (cur s : List UInt8) : ∀ x ∈ spl cur s, x.length ≤ cur.length + s.length := by
  induction s generalizing cur with
  | nil => intro x hx; rw [spl, List.mem_singleton] at hx; subst hx; simp
  | cons b r ih =>
    rw [spl]
    split
    · intro x hx
      rcases List.mem_cons.1 hx with rfl | hx
      · simp
      · have := ih [] x hx; simp at this ⊢; omega
    · intro x hx
      have := ih _ x hx
      simp at this ⊢; omega
/-! ### Runes and strokes -/
theorem conts_all {s : List UInt8} {i : Nat} : ∀ {n : Nat}, conts s i n = true → ∀ k, 1 ≤ k → k ≤ n → cont s (i + k) = true
  | 0, _, k, h1, h2 => by omega
  | n + 1, h, k, h1, h2 => by
    simp only [conts, Bool.and_eq_true] at h
    rcases Nat.lt_or_ge k (n + 1) with h3 | h3
    · exact conts_all h.1 k h1 (by omega)
    · have : k = n + 1 := by omega
      subst this; exact h.2
theorem stepF_seg {s : List UInt8} {i n r0 least : Nat} (h : i < s.length) (hb : byt s i ≠ 47) : i + (stepF s i n r0 least).2 ≤ s.length ∧ ∀ j (hj : j < s.length), i ≤ j → j < i + (stepF s i n r0 least).2 → s[j] ≠ 47 := by
  have one : ∀ j (hj : j < s.length), i ≤ j → j < i + 1 → s[j] ≠ 47 := by
    intro j hj h1 h2 e
    obtain rfl : j = i := by omega
    rw [byt_at h, e] at hb; exact hb rfl
  unfold stepF
  split
  · rename_i hc
    simp only [Bool.and_eq_true] at hc
    refine ⟨?_, ?_⟩
    · simp only
      by_cases hn : n = 0
      · subst hn; omega
      · have := (cont_iff.1 (conts_all hc.1 n (by omega) (Nat.le_refl _))).1; omega
    · intro j hj h1 h2 e
      simp only at h2
      by_cases hji : j = i
      · exact one j hj h1 (by omega) e
      · have h3 := conts_all hc.1 (j - i) (by omega) (by omega)
        rw [show i + (j - i) = j by omega] at h3
        have h4 := (cont_iff.1 h3).2
        rw [byt_at hj, e] at h4
        simp at h4
  · exact ⟨by simp only; omega, fun j hj h1 h2 => one j hj h1 h2⟩
theorem rune_stroke {s : List UInt8} {i : Nat} (h : i < s.length) (hb : s[i] = 47) : runeAt s i = (47, 1) := by
  rw [rune_lo h (by rw [hb]; decide), hb]; rfl
theorem rune_seg {s : List UInt8} {i : Nat} (h : i < s.length) (hb : s[i] ≠ 47) : (runeAt s i).1 ≠ 47 ∧ 1 ≤ (runeAt s i).2 ∧ i + (runeAt s i).2 ≤ s.length ∧ ∀ j (hj : j < s.length), i ≤ j → j < i + (runeAt s i).2 → s[j] ≠ 47 := by
  have hb2 : byt s i ≠ 47 := fun e => hb (UInt8.toNat.inj (by rw [← byt_at h, e]; rfl))
  have one : i + 1 ≤ s.length ∧ ∀ j (hj : j < s.length), i ≤ j → j < i + 1 → s[j] ≠ 47 := ⟨by omega, by
    intro j hj h1 h2 e
    obtain rfl : j = i := by omega
    exact hb e⟩
  have hst : i + (stepR s i).2 ≤ s.length ∧ ∀ j (hj : j < s.length), i ≤ j → j < i + (stepR s i).2 → s[j] ≠ 47 := by
    unfold stepR
    simp only
    split
    · exact one
    · split
      · exact stepF_seg h hb2
      · split
        · exact stepF_seg h hb2
        · split
          · exact stepF_seg h hb2
          · exact one
  refine ⟨?_, rune_pos, ?_, ?_⟩
  · by_cases g : s[i].toNat < 128
    · rw [rune_lo h g]
      simp only
      intro e
      exact hb (UInt8.toNat.inj (by have : s[i].toNat = 47 := by omega
                                    rw [this]; rfl))
    · have := rune_hi h g; omega
  · rw [step_rune s i h]; split
    · exact one.1
    · exact hst.1
  · rw [step_rune s i h]; split
    · exact one.2
    · exact hst.2
/-- A step over what is no stroke. -/
theorem spl_step {s : List UInt8} {i k from_ : Nat} (h1 : from_ ≤ i) (h2 : i + k ≤ s.length) (h : ∀ j (hj : j < s.length), i ≤ j → j < i + k → s[j] ≠ 47) : spl ((s.take i).drop from_) (s.drop i) = spl ((s.take (i + k)).drop from_) (s.drop (i + k)) := by
  have e1 : s.drop i = (s.drop i).take k ++ s.drop (i + k) := by rw [← List.drop_drop]; exact (List.take_append_drop k (s.drop i)).symm
  have e2 : s.take (i + k) = s.take i ++ (s.drop i).take k := List.take_add
  rw [e1, spl_app]
  · rw [e2, List.drop_append_of_le_length (by rw [List.length_take]; omega)]
  · intro b hb
    obtain ⟨j, hj, rfl⟩ := List.getElem_of_mem hb
    rw [List.length_take, List.length_drop] at hj
    rw [List.getElem_take, List.getElem_drop]
    exact h (i + j) (by omega) (by omega) (by omega)
theorem spl_at {s : List UInt8} {i from_ : Nat} (h : i < s.length) (hb : s[i] = 47) : spl ((s.take i).drop from_) (s.drop i) = (s.take i).drop from_ :: spl ((s.take (i + 1)).drop (i + 1)) (s.drop (i + 1)) := by
  rw [List.drop_eq_getElem_cons h, spl, if_pos hb]
  congr 2
  rw [List.drop_eq_nil_of_le]; rw [List.length_take]; omega
theorem spl_end {s : List UInt8} {from_ : Nat} : spl ((s.take s.length).drop from_) (s.drop s.length) = [s.drop from_] := by
  rw [List.drop_length, List.take_length]; rfl
/-! ### Keys' prints -/
theorem decDigits_eq (n : Nat) : Lib.decDigits n = dec n := by
  induction n using Nat.strongRecOn with
  | _ n ih =>
    by_cases h : n < 10
    · rw [Lib.decDigits, dif_pos h, dec_lt h]
    · rw [Lib.decDigits, dif_neg h, dec_ge h, ih _ (by omega)]
def pageW (b : Bool) : List UInt8 := if b = true then [112, 97, 103, 101] else [116, 105, 99, 107, 101, 116]
def fireW (b : Bool) : List UInt8 := if b = true then [114, 101, 115, 111, 108, 118, 101] else [102, 105, 114, 101]
def printK (k : Ky) : List UInt8 := if rightK k = true then jn [k.g, k.r, pageW k.p, dec k.e, fireW k.f] else [63]
def kz : Ky := ⟨[], [], false, 0, false⟩
def keyOf (g r p e f : List UInt8) : Ky := ⟨g, r, p == [112, 97, 103, 101], (readN e).1 % 18446744073709551616, f == [114, 101, 115, 111, 108, 118, 101]⟩
def goodK (g r p e f : List UInt8) : Bool := decide ((readN e).2 = 0) && decide ((readN e).1 / 18446744073709551616 = 0) && (p == [112, 97, 103, 101] || p == [116, 105, 99, 107, 101, 116]) && (f == [114, 101, 115, 111, 108, 118, 101] || f == [102, 105, 114, 101]) && rightK (keyOf g r p e f)
def readK (s : List UInt8) : Ky × Bool := match spl [] s with
  | [g, r, p, e, f] => if goodK g r p e f = true then (keyOf g r p e f, true) else (kz, false)
  | _ => (kz, false)
def rreadK (s : List UInt8) : Ky × Bool := match spl [] s with
  | [g, r, p, e, f] => if (readN e).1 / 18446744073709551616 = 0 ∧ rightK (keyOf g r p e f) = true ∧ printK (keyOf g r p e f) = s then (keyOf g r p e f, true) else (kz, false)
  | _ => (kz, false)
theorem letter_no (r : Int) (h : letter r = true) : r ≠ 47 := by rintro rfl; revert h; decide
theorem nameGo_no : ∀ (l : List Int) (n : Nat) (last : Int), nameGo n last l = true → ∀ r ∈ l, r ≠ 47
  | [], _, _, _, r, hr => by simp at hr
  | x :: l, n, last, h, r, hr => by
    simp only [nameGo, Bool.and_eq_true] at h
    rcases List.mem_cons.1 hr with rfl | hr
    · rintro rfl
      have := h.1
      revert this
      simp [letter, digR]
    · exact nameGo_no l _ _ h.2 r hr
theorem runes_no (s : List UInt8) : ∀ (n i : Nat), s.length - i ≤ n → (∀ r ∈ runesL s i, r ≠ 47) → ∀ j (hj : j < s.length), i ≤ j → s[j] ≠ 47
  | 0, i, hn, _, j, hj, h => by omega
  | n + 1, i, hn, hr, j, hj, h => by
    have hi : i < s.length := by omega
    rw [runesL_in hi] at hr
    have hp := stepR_pos s i
    have h1 : (stepR s i).1 ≠ 47 := hr _ (by simp)
    have hb : s[i] ≠ 47 := by
      intro e
      apply h1
      unfold stepR
      simp only
      rw [byt_at hi, e]
      rw [if_pos (by decide)]; rfl
    have hs := rune_seg hi hb
    have hsr := step_rune s i hi
    have hk : (runeAt s i).2 = (stepR s i).2 := by
      rw [hsr]; split
      · rename_i e
        have : (stepR s i).2 = 1 := by
          revert e
          have lp : ∀ a r0 least, (stepF s i a r0 least).1 = -1 → (stepF s i a r0 least).2 = 1 := by
            intro a r0 least
            unfold stepF
            split
            · simp only; intro e; omega
            · simp
          unfold stepR
          simp only
          split
          · simp only; intro e; omega
          · split
            · exact lp _ _ _
            · split
              · exact lp _ _ _
              · split
                · exact lp _ _ _
                · simp
        rw [this]
      · rfl
    rw [hk] at hs
    rcases Nat.lt_or_ge j (i + (stepR s i).2) with h2 | h2
    · exact hs.2.2.2 j hj h h2
    · exact runes_no s n (i + (stepR s i).2) (by omega) (fun r hr' => hr r (by simp [hr'])) j hj h2
theorem nameT_no {s : List UInt8} (h : nameT s = true) : ∀ b ∈ s, b ≠ 47 := by
  intro b hb
  obtain ⟨j, hj, rfl⟩ := List.getElem_of_mem hb
  exact runes_no s s.length 0 (by omega) (nameGo_no _ _ _ h) j hj (Nat.zero_le _)
theorem dec_no (n : Nat) : ∀ b ∈ dec n, b ≠ 47 := by
  intro b hb e
  have := List.all_eq_true.1 (dec_dig n) b hb
  subst e
  simp [isDig] at this
theorem spl_print {k : Ky} (h : rightK k = true) : spl [] (jn [k.g, k.r, pageW k.p, dec k.e, fireW k.f]) = [k.g, k.r, pageW k.p, dec k.e, fireW k.f] := by
  have hr := h
  unfold rightK at hr
  simp only [Bool.and_eq_true] at hr
  refine spl_jn5 _ _ _ _ _ (nameT_no hr.1.1) (nameT_no hr.1.2) ?_ (dec_no _) ?_
  · unfold pageW; split <;> decide
  · unfold fireW; split <;> decide
theorem readN_dec {n : Nat} (h : n < 340282366920938463463374607431768211456) : readN (dec n) = (n, 0) := by
  unfold readN
  rw [if_pos (okDec_dec n), undec_dec, if_pos h]
theorem pageW_eq (b : Bool) : (pageW b == [112, 97, 103, 101]) = b := by cases b <;> rfl
theorem fireW_eq (b : Bool) : (fireW b == [114, 101, 115, 111, 108, 118, 101]) = b := by cases b <;> rfl
theorem right_e {k : Ky} (h : rightK k = true) : k.e ≤ 4611686018427387904 := by
  unfold rightK at h
  simp only [Bool.and_eq_true, decide_eq_true_eq] at h
  exact h.2.2
theorem keyOf_print {k : Ky} (h : rightK k = true) : keyOf k.g k.r (pageW k.p) (dec k.e) (fireW k.f) = k := by
  have := right_e h
  unfold keyOf
  rw [readN_dec (by omega), pageW_eq, fireW_eq]
  simp only
  rw [Nat.mod_eq_of_lt (by omega)]
theorem goodK_print {k : Ky} (h : rightK k = true) : goodK k.g k.r (pageW k.p) (dec k.e) (fireW k.f) = true := by
  have := right_e h
  unfold goodK
  rw [keyOf_print h, readN_dec (by omega), pageW_eq, fireW_eq, h]
  simp only
  have hp : (k.p || pageW k.p == [116, 105, 99, 107, 101, 116]) = true := by cases k.p <;> rfl
  have hf : (k.f || fireW k.f == [102, 105, 114, 101]) = true := by cases k.f <;> rfl
  rw [hp, hf]
  simp; omega
/-- What is printed is read. -/
theorem read_print (k : Ky) : readK (printK k) = if rightK k = true then (k, true) else (kz, false) := by
  unfold printK
  split
  · rename_i h
    unfold readK
    rw [spl_print h]
    simp only
    rw [if_pos (goodK_print h), keyOf_print h]
  · rfl
theorem readN_ok {s : List UInt8} (h : (readN s).2 = 0) : dec (readN s).1 = s := by
  unfold readN at h ⊢
  split
  · rename_i hk
    rw [if_pos hk] at h
    split
    · exact dec_undec s hk
    · rename_i h2
      rw [if_neg h2] at h
      exact absurd h (by decide)
  · rename_i hk
    rw [if_neg hk] at h
    exact absurd h (by decide)
theorem print_keyOf {g r p e f : List UInt8} (h : goodK g r p e f = true) : printK (keyOf g r p e f) = jn [g, r, p, e, f] := by
  unfold goodK at h
  simp only [Bool.and_eq_true, decide_eq_true_eq, Bool.or_eq_true, beq_iff_eq] at h
  obtain ⟨⟨⟨⟨h1, h2⟩, h3⟩, h4⟩, h5⟩ := h
  unfold printK
  rw [if_pos h5]
  have e1 : dec (keyOf g r p e f).e = e := by
    show dec ((readN e).1 % 18446744073709551616) = e
    rw [Nat.mod_eq_of_lt (by omega)]; exact readN_ok h1
  have e2 : pageW (keyOf g r p e f).p = p := by
    show pageW (p == _) = p
    rcases h3 with rfl | rfl <;> rfl
  have e3 : fireW (keyOf g r p e f).f = f := by
    show fireW (f == _) = f
    rcases h4 with rfl | rfl <;> rfl
  rw [e1, e2, e3]; rfl
/-- The document's reading is the same. -/
theorem rread_eq (s : List UInt8) : rreadK s = readK s := by
  unfold rreadK readK
  have hj := jn_spl [] s
  rw [List.nil_append] at hj
  split
  · rename_i g r p e f hs
    rw [hs] at hj
    by_cases hg : goodK g r p e f = true
    · have hp := print_keyOf hg
      rw [hj] at hp
      have hg2 := hg
      unfold goodK at hg2
      simp only [Bool.and_eq_true, decide_eq_true_eq] at hg2
      rw [if_pos hg, if_pos ⟨hg2.1.1.1.2, hg2.2, hp⟩]
    · rw [if_neg hg, if_neg]
      rintro ⟨h1, h2, h3⟩
      apply hg
      have h4 := spl_print h2
      unfold printK at h3
      rw [if_pos h2] at h3
      rw [h3, hs] at h4
      obtain ⟨_, _, e3, e4, e5⟩ : g = (keyOf g r p e f).g ∧ r = (keyOf g r p e f).r ∧ p = pageW (keyOf g r p e f).p ∧ e = dec (keyOf g r p e f).e ∧ f = fireW (keyOf g r p e f).f := by simpa using h4
      have := goodK_print h2
      rw [← e3, ← e4, ← e5] at this
      exact this
  · rfl
theorem readK_print {s : List UInt8} (h : (readK s).2 = true) : printK (readK s).1 = s := by
  have hj := jn_spl [] s
  rw [List.nil_append] at hj
  unfold readK at h ⊢
  split at h
  · rename_i g r p e f hs
    rw [hs] at hj
    by_cases hg : goodK g r p e f = true
    · rw [if_pos hg]; rw [← hj]; exact print_keyOf hg
    · rw [if_neg hg] at h; cases h
  · cases h
theorem print_len (k : Ky) (hg : k.g.length ≤ 500) (hr : k.r.length ≤ 500) : (printK k).length ≤ 1100 := by
  unfold printK
  split
  · rename_i h
    have he := right_e h
    have hd := dec_len 19 k.e (by omega)
    rw [jn5]
    have hp : (pageW k.p).length ≤ 6 := by cases k.p <;> decide
    have hf : (fireW k.f).length ≤ 7 := by cases k.f <;> decide
    simp only [List.length_append, List.length_cons]
    omega
  · simp
end Go.Ai
set_option linter.unusedSimpArgs false
set_option linter.unusedVariables false
namespace Go.Ai
open Go.Proofs
/-! What Spl says of a stroke, of the end of a line. -/
theorem stepF_seg10 {s : List UInt8} {i n r0 least : Nat} (h : i < s.length) (hb : byt s i ≠ 10) : i + (stepF s i n r0 least).2 ≤ s.length ∧ ∀ j (hj : j < s.length), i ≤ j → j < i + (stepF s i n r0 least).2 → s[j] ≠ 10 := by
  have one : ∀ j (hj : j < s.length), i ≤ j → j < i + 1 → s[j] ≠ 10 := by
    intro j hj h1 h2 e
    obtain rfl : j = i := by omega
    rw [byt_at h, e] at hb; exact hb rfl
  unfold stepF
  split
  · rename_i hc
    simp only [Bool.and_eq_true] at hc
    refine ⟨?_, ?_⟩
    · simp only
      by_cases hn : n = 0
      · subst hn; omega
      · have := (cont_iff.1 (conts_all hc.1 n (by omega) (Nat.le_refl _))).1; omega
    · intro j hj h1 h2 e
      simp only at h2
      by_cases hji : j = i
      · exact one j hj h1 (by omega) e
      · have h3 := conts_all hc.1 (j - i) (by omega) (by omega)
        rw [show i + (j - i) = j by omega] at h3
        have h4 := (cont_iff.1 h3).2
        rw [byt_at hj, e] at h4
        simp at h4
  · exact ⟨by simp only; omega, fun j hj h1 h2 => one j hj h1 h2⟩
theorem rune_stroke10 {s : List UInt8} {i : Nat} (h : i < s.length) (hb : s[i] = 10) : runeAt s i = (10, 1) := by
  rw [rune_lo h (by rw [hb]; decide), hb]; rfl
theorem rune_seg10 {s : List UInt8} {i : Nat} (h : i < s.length) (hb : s[i] ≠ 10) : (runeAt s i).1 ≠ 10 ∧ 1 ≤ (runeAt s i).2 ∧ i + (runeAt s i).2 ≤ s.length ∧ ∀ j (hj : j < s.length), i ≤ j → j < i + (runeAt s i).2 → s[j] ≠ 10 := by
  have hb2 : byt s i ≠ 10 := fun e => hb (UInt8.toNat.inj (by rw [← byt_at h, e]; rfl))
  have one : i + 1 ≤ s.length ∧ ∀ j (hj : j < s.length), i ≤ j → j < i + 1 → s[j] ≠ 10 := ⟨by omega, by
    intro j hj h1 h2 e
    obtain rfl : j = i := by omega
    exact hb e⟩
  have hst : i + (stepR s i).2 ≤ s.length ∧ ∀ j (hj : j < s.length), i ≤ j → j < i + (stepR s i).2 → s[j] ≠ 10 := by
    unfold stepR
    simp only
    split
    · exact one
    · split
      · exact stepF_seg10 h hb2
      · split
        · exact stepF_seg10 h hb2
        · split
          · exact stepF_seg10 h hb2
          · exact one
  refine ⟨?_, rune_pos, ?_, ?_⟩
  · by_cases g : s[i].toNat < 128
    · rw [rune_lo h g]
      simp only
      intro e
      exact hb (UInt8.toNat.inj (by have : s[i].toNat = 10 := by omega
                                    rw [this]; rfl))
    · have := rune_hi h g; omega
  · rw [step_rune s i h]; split
    · exact one.1
    · exact hst.1
  · rw [step_rune s i h]; split
    · exact one.2
    · exact hst.2
/-- A step over what is no stroke. -/
theorem letter_no10 (r : Int) (h : letter r = true) : r ≠ 10 := by rintro rfl; revert h; decide
theorem nameGo_no10 : ∀ (l : List Int) (n : Nat) (last : Int), nameGo n last l = true → ∀ r ∈ l, r ≠ 10
  | [], _, _, _, r, hr => by simp at hr
  | x :: l, n, last, h, r, hr => by
    simp only [nameGo, Bool.and_eq_true] at h
    rcases List.mem_cons.1 hr with rfl | hr
    · rintro rfl
      have := h.1
      revert this
      simp [letter, digR]
    · exact nameGo_no10 l _ _ h.2 r hr
theorem runes_no10 (s : List UInt8) : ∀ (n i : Nat), s.length - i ≤ n → (∀ r ∈ runesL s i, r ≠ 10) → ∀ j (hj : j < s.length), i ≤ j → s[j] ≠ 10
  | 0, i, hn, _, j, hj, h => by omega
  | n + 1, i, hn, hr, j, hj, h => by
    have hi : i < s.length := by omega
    rw [runesL_in hi] at hr
    have hp := stepR_pos s i
    have h1 : (stepR s i).1 ≠ 10 := hr _ (by simp)
    have hb : s[i] ≠ 10 := by
      intro e
      apply h1
      unfold stepR
      simp only
      rw [byt_at hi, e]
      rw [if_pos (by decide)]; rfl
    have hs := rune_seg10 hi hb
    have hsr := step_rune s i hi
    have hk : (runeAt s i).2 = (stepR s i).2 := by
      rw [hsr]; split
      · rename_i e
        have : (stepR s i).2 = 1 := by
          revert e
          have lp : ∀ a r0 least, (stepF s i a r0 least).1 = -1 → (stepF s i a r0 least).2 = 1 := by
            intro a r0 least
            unfold stepF
            split
            · simp only; intro e; omega
            · simp
          unfold stepR
          simp only
          split
          · simp only; intro e; omega
          · split
            · exact lp _ _ _
            · split
              · exact lp _ _ _
              · split
                · exact lp _ _ _
                · simp
        rw [this]
      · rfl
    rw [hk] at hs
    rcases Nat.lt_or_ge j (i + (stepR s i).2) with h2 | h2
    · exact hs.2.2.2 j hj h h2
    · exact runes_no10 s n (i + (stepR s i).2) (by omega) (fun r hr' => hr r (by simp [hr'])) j hj h2
theorem nameT_no10 {s : List UInt8} (h : nameT s = true) : ∀ b ∈ s, b ≠ 10 := by
  intro b hb
  obtain ⟨j, hj, rfl⟩ := List.getElem_of_mem hb
  exact runes_no10 s s.length 0 (by omega) (nameGo_no10 _ _ _ h) j hj (Nat.zero_le _)
end Go.Ai
set_option linter.unusedSimpArgs false
set_option linter.unusedVariables false
namespace Go.Ai
open Go.Proofs
theorem goes_spec (m : Ms) (k : Ky) : Sp Tryd.prog gl 140 [.agg m.row, .agg k.row] (.bool (goes m k)) := by
  refine s140 rfl rfl ?_
  obtain ⟨g, p, ks⟩ := m
  obtain ⟨g', r', p', e', f'⟩ := k
  unfold goes Ms.row Ky.row
  simp only
  cases h1 : (g == g')
  · simp -implicitDefEqProofs [c140, h1]
  · cases h2 : (p == p')
    · simp -implicitDefEqProofs [c140, h1, h2]
    · simp -implicitDefEqProofs [c140, h1, h2]
      omega
theorem goesC_spec (m : Ms) (k : Ky) (d : Nat) (c : Id) (hc : c.isIt = false) (hd : c.isNw d = false) : SpH Tryd.prog gl 139 d ⟨[.agg m.row, .ptr c 0], [(c, k.row)], []⟩ ⟨.bool (goes m k), [(c, k.row)], []⟩ := by
  refine h139 rfl ?_
  have G := goes_spec m k
  have hi := inn_notNw hd
  generalize goes m k = R at *
  unfold Ms.row Ky.row at *
  simp -implicitDefEqProofs [c139]
  refine onC_mk _ G ?_
  simp -implicitDefEqProofs
  refine postH_r ⟨?_, ?_, ?_, ?_, ?_, ?_⟩ <;> simp -implicitDefEqProofs [hi, hc]
set_option maxRecDepth 20000 in
theorem idx_spec (ms : List Ms) (k : Ky) (hn : ms.length ≤ 1000000) (d : Nat) (b c : Id) (hb : b.isIt = false) (hbd : b.isNw d = false) (hc : c.isIt = false) (hcd : c.isNw d = false) (hbc : b ≠ c) :
    SpH Tryd.prog gl 138 d ⟨[.ms b 0 ms.length 3, .fn 139 [.ptr c 0]], [(b, cellsM ms), (c, k.row)], kPm b ms.length⟩ ⟨i6 (goIx ms k 0), [(b, cellsM ms), (c, k.row)], kPm b ms.length⟩ := by
  refine h138 rfl ?_
  have hib := inn_notNw hbd
  have hic := inn_notNw hcd
  have hcb : c ≠ b := fun e => hbc e.symm
  obtain ⟨R, hR⟩ : ∃ R, R = goIx ms k 0 := ⟨_, rfl⟩
  rw [← hR]
  have ids1 := cellsM_ids ms
  have ids2 := row_ids k
  have m1 : mpL Id.up (cellsM ms) = cellsM ms := mpL_noids ids1
  have m2 : mpL Id.up k.row = k.row := mpL_noids ids2
  have m3 : ∀ f, mpL f (cellsM ms) = cellsM ms := fun f => mpL_noids ids1
  have m4 : ∀ f, mpL f k.row = k.row := fun f => mpL_noids ids2
  have hlen := cellsM_len ms
  have hrow := fun j h => cellsM_row ms j h
  have C := fun m => goesC_spec m k 16 (.up c) hc rfl
  generalize cellsM ms = cs at *
  generalize k.row = kr at *
  simp only [inSt, mpB, mpL, AV.mp, mpP_kPm, m1, m2]
  simp -implicitDefEqProofs [c138, dlS_kPm]
  refine wp_lpk (α := Nat) (fun i => ⟨[(0, .ms (.up b) 0 ms.length 3), (1, .fn 139 [.ptr (.up c) 0]), (6, .ms (.up b) 0 ms.length 3), (7, i6 ms.length), (8, i6 i)], [(.up b, cs), (.up c, kr)], kPm (.up b) ms.length⟩)
    (fun i => i ≤ ms.length ∧ goIx (ms.drop i) k i = R) (fun i => ms.length - i) ?_ 0 ?_ ?_
  · rintro K i hK ⟨h1, h2⟩
    by_cases g : i < ms.length
    · have t1 : IntKind.i64.wrap ((i : Int) + 1) = (i + 1 : Nat) := by rw [wrap_i64] <;> omega
      have hr := hrow i g
      have C := C ms[i]
      rw [List.drop_eq_getElem_cons g] at h2
      simp only [goIx] at h2
      have fin : goes ms[i] k = false → ∀ σ', Weak σ' ⟨[(0, .ms (.up b) 0 ms.length 3), (1, .fn 139 [.ptr (.up c) 0]), (6, .ms (.up b) 0 ms.length 3), (7, i6 ms.length), (8, i6 (i + 1 : Nat))], [(.up b, cs), (.up c, kr)], kPm (.up b) ms.length⟩ → K σ' :=
        fun hg σ' hσ => hK (i + 1) σ' ⟨by omega, by rw [hg] at h2; simpa using h2⟩ (by omega) hσ
      have hl3 : i * 3 + 3 ≤ cs.length := by omega
      generalize ms[i] = m at *
      clear hK hR hrow m1 m2
      have hms := mrow_ids m
      generalize m.row = mr at *
      simp -implicitDefEqProofs [g, hr, hl3]
      refine onH_mk _ _ C ⟨?_, ?_, ?_, ?_, ?_, ?_, ?_⟩ ?_
      · simp -implicitDefEqProofs
      · simp -implicitDefEqProofs [hcb, hbc]
      · simp -implicitDefEqProofs
      · simp -implicitDefEqProofs
      · simp -implicitDefEqProofs
      · simp -implicitDefEqProofs
      · simp -implicitDefEqProofs
      · cases hg : goes m k
        · have fin := fin hg
          simp -implicitDefEqProofs [hcb, hbc, dlB_kPm, dlS_kPm, t1]
          refine fin _ (weak_mk ?_ ?_ ?_ ?_ ?_ ?_)
          · simp -implicitDefEqProofs
          · simp -implicitDefEqProofs [hbc, hcb]
          · intro p hp; exact .inl (kPm_self p hp)
          · simp -implicitDefEqProofs
          · simp -implicitDefEqProofs [ids1, ids2]
          · intro p hp e he
            rw [kPm_ids hp he]; simp -implicitDefEqProofs
        · rw [hg] at h2
          simp only [if_true] at h2
          subst h2
          simp -implicitDefEqProofs [hcb, hbc, dlB_kPm, dlS_kPm]
          refine postH_r ⟨?_, ?_, ?_, ?_, ?_, ?_⟩
          · simp -implicitDefEqProofs
          · simp -implicitDefEqProofs
          · simp -implicitDefEqProofs [hib, hic, hb, hc, hbc, hcb, m3, m4]
          · simp -implicitDefEqProofs [ids1, ids2]
          · intro p hp
            obtain ⟨j, hj, rfl⟩ := kPm_mem hp
            simp only [pmOut, hib]
            exact ⟨by simp, .inl (kPm_lk _ _ _ hj)⟩
          · simp -implicitDefEqProofs
    · obtain rfl : i = ms.length := by omega
      rw [List.drop_length] at h2
      simp only [goIx] at h2
      subst h2
      clear hK
      simp -implicitDefEqProofs [dlS_kPm]
      refine postH_r ⟨?_, ?_, ?_, ?_, ?_, ?_⟩
      · simp -implicitDefEqProofs
      · simp -implicitDefEqProofs
      · simp -implicitDefEqProofs [hib, hic, hb, hc, hbc, hcb, m3, m4]
      · simp -implicitDefEqProofs [ids1, ids2]
      · intro p hp
        obtain ⟨j, hj, rfl⟩ := kPm_mem hp
        simp only [pmOut, hib]
        exact ⟨by simp, .inl (kPm_lk _ _ _ hj)⟩
      · simp -implicitDefEqProofs
  · exact ⟨Nat.zero_le _, hR.symm⟩
  · refine weak_mk ?_ ?_ ?_ ?_ ?_ ?_
    · simp -implicitDefEqProofs
    · simp -implicitDefEqProofs [hbc, hcb]
    · intro p hp; exact .inl (kPm_self p hp)
    · simp -implicitDefEqProofs
    · simp -implicitDefEqProofs [ids1, ids2]
    · intro p hp e he
      rw [kPm_ids hp he]; simp -implicitDefEqProofs
end Go.Ai
set_option linter.unusedSimpArgs false
set_option linter.unusedVariables false
namespace Go.Ai
open Go.Proofs
theorem idxNil_spec (k : Ky) (d : Nat) (c : Id) (hc : c.isIt = false) (hcd : c.isNw d = false) :
    SpH Tryd.prog gl 138 d ⟨[.nils, .fn 139 [.ptr c 0]], [(c, k.row)], []⟩ ⟨i6 (-1), [(c, k.row)], []⟩ := by
  refine h138 rfl ?_
  have hic := inn_notNw hcd
  have ids2 := row_ids k
  have m4 : ∀ f, mpL f k.row = k.row := fun f => mpL_noids ids2
  generalize k.row = kr at *
  simp only [inSt, mpB, mpL, AV.mp, mpP, m4]
  simp -implicitDefEqProofs [c138]
  refine wp_lpk (α := Unit) (fun _ => ⟨[(0, .nils), (1, .fn 139 [.ptr (.up c) 0]), (7, i6 0), (8, i6 0)], [(.up c, kr)], []⟩) (fun _ => True) (fun _ => 0) ?_ () trivial ?_
  · rintro K _ hK _
    clear hK
    simp -implicitDefEqProofs
    refine postH_r ⟨?_, ?_, ?_, ?_, ?_, ?_⟩ <;> simp -implicitDefEqProofs [hic, hc, m4, ids2]
  · refine weak_mk ?_ ?_ ?_ ?_ ?_ ?_ <;> simp -implicitDefEqProofs [ids2]
theorem idsL_set {v : AV} (hv : v.ids = []) : ∀ {l : List AV}, idsL l = [] → ∀ {j : Nat}, idsL (l.set j v) = []
  | [], _, j => by simp [idsL]
  | x :: r, h, 0 => by
    simp only [idsL, List.append_eq_nil_iff] at h
    simp only [List.set_cons_zero, idsL, hv, h.2, List.append_nil]
  | x :: r, h, j + 1 => by
    simp only [idsL, List.append_eq_nil_iff] at h
    simp only [List.set_cons_succ, idsL, h.1, List.nil_append]
    exact idsL_set hv h.2
theorem kPm_none (b : Id) (n : Nat) : lkP (kPm b n) (.b b (n * 3 + 2)) = none := by
  have : ∀ (l : List Nat), (∀ x ∈ l, x ≠ n) → lkP (l.map fun i => (Pl.b b (i * 3 + 2), 5)) (.b b (n * 3 + 2)) = none := by
    intro l
    induction l with
    | nil => intro _; rfl
    | cons x r ih =>
      intro h
      simp only [List.map_cons, lkP]
      rw [if_neg (by have := h x (by simp); simp only [Pl.b.injEq, true_and]; omega)]
      exact ih (fun y hy => h y (by simp [hy]))
  exact this _ (fun x hx => by have := List.mem_range.1 hx; omega)
theorem kPm_after {b : Id} {n j : Nat} {l : List (Pl × Nat)} (hl : ∀ i, i < n → i ≠ j → lkP l (.b b (i * 3 + 2)) = some 5) : ∀ p ∈ kPm b n, lkP ((.b b (j * 3 + 2), 5) :: l) p.1 = some p.2 := by
  intro p hp
  obtain ⟨i, hi, rfl⟩ := kPm_mem hp
  simp only [lkP]
  by_cases e : i = j
  · subst e; rw [if_pos rfl]
  · rw [if_neg (by simp only [Pl.b.injEq, true_and]; omega)]
    exact hl i hi e
theorem kPm_lt {b : Id} {n m : Nat} (h : n * 3 ≤ m) : ∀ p ∈ kPm b n, p.1.lt b m := by
  intro p hp
  obtain ⟨i, hi, rfl⟩ := kPm_mem hp
  simp only [Pl.lt]; intro _; omega
theorem grp_snoc (l : List Ky) (i : Nat) (h : i < l.length) (pg : Bool) : grp (l.take (i + 1)) pg = if l[i].p = pg then addK (grp (l.take i) pg) l[i] else grp (l.take i) pg := by
  unfold grp
  rw [List.take_succ_eq_append_getElem h, List.filter_append, List.foldl_append]
  by_cases e : l[i].p = pg
  · rw [if_pos e]; simp [e]
  · rw [if_neg e]; simp [e]
theorem grp_len (l : List Ky) (pg : Bool) : (grp l pg).length ≤ l.length := by
  have : ∀ (r : List Ky) (a : List Ms), (r.foldl addK a).length ≤ a.length + r.length := by
    intro r
    induction r with
    | nil => intro a; simp
    | cons x r ih => intro a; simp only [List.foldl_cons, List.length_cons]; have := ih (addK a x); have := addK_length a x; omega
  have h1 := this (l.filter fun k => k.p == pg) []
  have h2 := List.length_filter_le (fun k : Ky => k.p == pg) l
  unfold grp
  simp at h1; omega
theorem addK_ne (l : List Ms) (k : Ky) : addK l k ≠ [] := by
  cases l with
  | nil => simp [addK]
  | cons m r => simp only [addK]; split <;> simp
def stG (n : Nat) (L : List (List AV)) (pg : Bool) (x : Nat × List Ms) : St :=
  match x.2 with
  | [] => ⟨[(1, .bool pg), (9, .sl L), (10, i6 n), (11, i6 x.1), (5, .nils)], [], []⟩
  | m :: r => ⟨[(1, .bool pg), (9, .sl L), (10, i6 n), (11, i6 x.1), (5, .ms (.n 33) 0 (m :: r).length 3)], [(.n 33, cellsM (m :: r))], kPm (.n 33) (m :: r).length⟩
theorem stG_ne {n : Nat} {L : List (List AV)} {pg : Bool} {i : Nat} {ms : List Ms} (h : ms ≠ []) : stG n L pg (i, ms) = ⟨[(1, .bool pg), (9, .sl L), (10, i6 n), (11, i6 i), (5, .ms (.n 33) 0 ms.length 3)], [(.n 33, cellsM ms)], kPm (.n 33) ms.length⟩ := by
  cases ms with
  | nil => exact absurd rfl h
  | cons m r => rfl
theorem rows_at (l : List Ky) (i : Nat) (h : i < l.length) : (l.map Ky.row)[i]? = some l[i].row := by
  rw [List.getElem?_map, List.getElem?_eq_getElem h]; rfl
end Go.Ai
set_option linter.unusedSimpArgs false
set_option linter.unusedVariables false
namespace Go.Ai
open Go.Proofs
set_option maxRecDepth 20000 in
theorem group_spec (l : List Ky) (pg : Bool) (hn : l.length ≤ 100000) (d : Nat) : SpH Tryd.prog gl 106 d ⟨[.sl (l.map Ky.row), .bool pg], [], []⟩ ⟨.sl ((grp l pg).map Ms.row), [], [(.s 0, 3)]⟩ := by
  refine h106 rfl ?_
  have hlim : lim = 140737488355328 := rfl
  have rows := rows_at l
  have hL : (l.map Ky.row).length = l.length := List.length_map ..
  generalize l.map Ky.row = L at *
  simp -implicitDefEqProofs [c106]
  refine wp_lpk (α := Nat × List Ms) (fun x => stG l.length L pg x) (fun x => x.1 ≤ l.length ∧ x.2 = grp (l.take x.1) pg ∧ x.2.length ≤ x.1) (fun x => l.length - x.1) ?_ (0, []) ?_ ?_
  · rintro K ⟨i, ms⟩ hK ⟨h1, h2, h3⟩
    simp only at h1 h2 h3
    by_cases g : i < l.length
    · have t1 : IntKind.i64.wrap ((i : Int) + 1) = (i + 1 : Nat) := by rw [wrap_i64] <;> omega
      have hr := rows i g
      have sn := grp_snoc l i g pg
      rw [← h2] at sn
      have fin : l[i].p ≠ pg → ∀ σ', Weak σ' (stG l.length L pg (i + 1, ms)) → K σ' := fun hp σ' hσ => hK (i + 1, ms) σ' ⟨by simp only; omega, by simp only; rw [sn, if_neg hp], by simp only; omega⟩ (by simp only; omega) hσ
      have fin2 : l[i].p = pg → ∀ σ', Weak σ' (stG l.length L pg (i + 1, addK ms l[i])) → K σ' := fun hp σ' hσ => hK (i + 1, addK ms l[i]) σ' ⟨by simp only; omega, by simp only; rw [sn, if_pos hp], by simp only; have := addK_length ms l[i]; omega⟩ (by simp only; omega) hσ
      have hrl : (l[i].row).length = 5 := rfl
      generalize l[i] = k at *
      clear hK sn rows h2
      generalize l.length = n at *
      have kids := row_ids k
      have keq : k.row = [.str k.g, .str k.r, .bool k.p, u k.e, .bool k.f] := rfl
      by_cases hms : ms = []
      · subst hms
        have N0 := idxNil_spec k 21 (.n 7) rfl rfl
        by_cases hp : k.p = pg
        · replace fin2 := fin2 hp
          rw [stG_ne (addK_ne _ _)] at fin2
          have ec : cellsM (addK [] k) = [.str k.g, .bool k.p, .sl [k.row]] := rfl
          have el : (addK [] k).length = 1 := rfl
          rw [ec, el] at fin2
          clear fin
          have hbb : (k.p != pg) = false := by rw [hp]; simp
          rw [keq] at hr hrl kids N0 fin2
          obtain ⟨kg, kr, kp, ke, kf⟩ := k
          simp only at *
          simp only [stG]
          simp -implicitDefEqProofs [g, hr, hbb]
          refine onH_mk _ _ N0 ⟨?_, ?_, ?_, ?_, ?_, ?_, ?_⟩ ?_
          · simp -implicitDefEqProofs
          · simp -implicitDefEqProofs
          · simp -implicitDefEqProofs
          · simp -implicitDefEqProofs
          · simp -implicitDefEqProofs
          · simp -implicitDefEqProofs
          · simp -implicitDefEqProofs
          · simp -implicitDefEqProofs [hlim, t1]
            refine fin2 _ (weak_mk ?_ ?_ ?_ ?_ ?_ ?_)
            · simp -implicitDefEqProofs
            · simp -implicitDefEqProofs
            · simp -implicitDefEqProofs [kPm]
            · simp -implicitDefEqProofs
            · simp -implicitDefEqProofs
            · simp -implicitDefEqProofs [kPm]
        · replace fin := fin hp
          have hbb : (k.p != pg) = true := by simpa using hp
          clear fin2
          rw [keq] at hr hrl kids N0
          obtain ⟨kg, kr, kp, ke, kf⟩ := k
          simp only at *
          simp only [stG] at fin ⊢
          simp -implicitDefEqProofs [g, hr, hbb, t1]
          refine fin _ (weak_mk ?_ ?_ ?_ ?_ ?_ ?_) <;> simp -implicitDefEqProofs
      · rw [stG_ne hms]
        have N0 := idx_spec ms k (by omega) 21 (.n 33) (.n 7) rfl rfl rfl rfl (by decide)
        by_cases hp : k.p = pg
        · replace fin2 := fin2 hp
          rw [stG_ne (addK_ne _ _)] at fin2
          have hbb : (k.p != pg) = false := by rw [hp]; simp
          clear fin
          have cids := cellsM_ids ms
          have clen := cellsM_len ms
          rcases goIx_some (l := ms) (i := 0) (k := k) with hno | ⟨j, m, j1, j2, j3, j4⟩
          · rw [goIx_none.2 hno] at N0
            rw [addK_none hno] at fin2
            have cnew : cellsM (ms ++ [⟨k.g, k.p, [k]⟩]) = cellsM ms ++ [.str k.g, .bool k.p, .sl [k.row]] := cellsM_app _ _
            rw [cnew] at fin2
            rw [List.length_append] at fin2
            simp only [List.length_cons, List.length_nil, Nat.zero_add] at fin2
            clear cnew
            have hks : (cellsM ms ++ [AV.str k.g, AV.bool k.p, AV.nils])[ms.length * 3 + 2]? = some .nils := by
              rw [List.getElem?_append_right (by omega), clen, show ms.length * 3 + 2 - ms.length * 3 = 2 by omega]; rfl
            have hpn := kPm_none (.n 33) ms.length
            have hlt := kPm_lt (b := .n 33) (n := ms.length) (m := (cellsM ms).length) (by omega)
            have hw : ((ms.length : Int) + 1) * 48 ≤ 140737488355328 := by omega
            generalize cellsM ms = cs at *
            rw [keq] at hr hrl kids N0 fin2
            obtain ⟨kg, kr, kp, ke, kf⟩ := k
            simp only at *
            simp -implicitDefEqProofs [g, hr, hbb]
            refine onH_mk _ _ N0 ⟨?_, ?_, ?_, ?_, ?_, ?_, ?_⟩ ?_
            · simp -implicitDefEqProofs
            · simp -implicitDefEqProofs
            · intro p hp
              obtain ⟨j, hj, rfl⟩ := kPm_mem hp
              simp only [pmIn]
              refine ⟨by simp -implicitDefEqProofs, .inl ?_⟩
              simp -implicitDefEqProofs [dlS_kPm, kPm_lk _ _ _ hj]
            · exact pmOne_kPm _ _ _
            · simp -implicitDefEqProofs
            · simp -implicitDefEqProofs
            · simp -implicitDefEqProofs
            · have hlt1 : (ms.length : Int) < ms.length + 1 := by omega
              have hcl2 : ms.length * 3 + 2 < ms.length * 3 + 3 := by omega
              simp -implicitDefEqProofs [hpn, hks, hlim, clen, cids, hw, t1, hlt]
              refine ⟨fun a q ha => by have := hlt _ ha; rw [clen] at this; exact this, by omega, ?_⟩
              simp -implicitDefEqProofs [hlt1, hks, hpn, clen, hcl2, t1, hlim]
              refine fin2 _ (weak_mk ?_ ?_ ?_ ?_ ?_ ?_)
              · simp -implicitDefEqProofs
              · simp -implicitDefEqProofs
              · intro p hp
                refine .inl (kPm_after (j := ms.length) ?_ p hp)
                intro i hi hne
                simp -implicitDefEqProofs [lkP_dl, lkP_dlS, Pl.at]
                exact ⟨by omega, kPm_lk _ _ _ (by omega)⟩
              · simp -implicitDefEqProofs
              · simp -implicitDefEqProofs [cids, idsL_appB]
              · intro p hp e he
                rw [kPm_ids hp he]; simp -implicitDefEqProofs
          · rw [j3] at N0
            rw [j4] at fin2
            have hj : j < ms.length := by
              rcases Nat.lt_or_ge j ms.length with h | h
              · exact h
              · rw [List.getElem?_eq_none h] at j1; cases j1
            have hmj : ms[j] = m := by rw [List.getElem?_eq_getElem hj] at j1; simpa using j1
            have hks := cellsM_ks ms j hj
            have cset := cellsM_set (m.ks ++ [k]) ms j hj
            rw [hmj] at hks cset
            rw [← cset, List.length_set] at fin2
            have h8 : m.ks.length < 8 := by
              simp only [goes, Bool.and_eq_true, decide_eq_true_eq] at j2
              exact j2.2
            have hpj := kPm_lk (.n 33) ms.length j hj
            have hjI : (j : Int) < ms.length := by omega
            have hj0 : ¬ (j : Int) < 0 := by omega
            have hcl : j * 3 + 2 < ms.length * 3 := by omega
            have hw : (m.ks.length + 1) * 56 ≤ 140737488355328 := by omega
            simp only [List.map_append, List.map_cons, List.map_nil, Nat.zero_add] at fin2 N0
            have hrows : ∀ x ∈ m.ks.map Ky.row, x.length = 5 := by
              intro r hr
              obtain ⟨m, _, rfl⟩ := List.mem_map.1 hr
              rfl
            have hrl2 : (m.ks.map Ky.row).length = m.ks.length := List.length_map ..
            clear j1 j2 j3 j4 hmj cset
            generalize cellsM ms = cs at *
            generalize m.ks.map Ky.row = R at *
            generalize m.ks.length = rn at *
            rw [keq] at hr hrl kids N0 fin2
            obtain ⟨kg, kr, kp, ke, kf⟩ := k
            simp only at *
            simp -implicitDefEqProofs [g, hr, hbb]
            refine onH_mk _ _ N0 ⟨?_, ?_, ?_, ?_, ?_, ?_, ?_⟩ ?_
            · simp -implicitDefEqProofs
            · simp -implicitDefEqProofs
            · intro p hp
              obtain ⟨j, hj, rfl⟩ := kPm_mem hp
              simp only [pmIn]
              refine ⟨by simp -implicitDefEqProofs, .inl ?_⟩
              simp -implicitDefEqProofs [dlS_kPm, kPm_lk _ _ _ hj]
            · exact pmOne_kPm _ _ _
            · simp -implicitDefEqProofs
            · simp -implicitDefEqProofs
            · simp -implicitDefEqProofs
            · have hks2 : ∀ h : j * 3 + 2 < cs.length, cs[j * 3 + 2] = .sl R := fun h => by
                rw [List.getElem?_eq_getElem h] at hks; simpa using hks
              clear hks
              simp -implicitDefEqProofs [hks2, hlim, clen, cids, hw, t1, hj, hjI, hj0, hpj, hcl, hrl2]
              refine ⟨hrows, fin2 _ (weak_mk ?_ ?_ ?_ ?_ ?_ ?_)⟩
              · simp -implicitDefEqProofs
              · simp -implicitDefEqProofs
              · intro p hp
                refine .inl (kPm_after (j := j) ?_ p hp)
                intro i hi hne
                simp -implicitDefEqProofs [lkP_dl, lkP_dlS, Pl.at]
                exact ⟨by omega, kPm_lk _ _ _ (by omega)⟩
              · simp -implicitDefEqProofs
              · have hset : idsL (cs.set (j * 3 + 2) (.sl (R ++ [[AV.str kg, AV.str kr, AV.bool kp, u ke, AV.bool kf]]))) = [] := idsL_set rfl cids
                simp -implicitDefEqProofs [hset]
              · intro p hp e he
                rw [kPm_ids hp he]; simp -implicitDefEqProofs
        · replace fin := fin hp
          rw [stG_ne hms] at fin
          have hbb : (k.p != pg) = true := by simpa using hp
          clear fin2
          have cids := cellsM_ids ms
          generalize cellsM ms = cs at *
          rw [keq] at hr hrl kids N0
          obtain ⟨kg, kr, kp, ke, kf⟩ := k
          simp only at *
          simp -implicitDefEqProofs [g, hr, hbb, t1, dlS_kPm]
          refine fin _ (weak_mk ?_ ?_ ?_ ?_ ?_ ?_)
          · simp -implicitDefEqProofs
          · simp -implicitDefEqProofs
          · intro p hp; exact .inl (kPm_self p hp)
          · simp -implicitDefEqProofs
          · simp -implicitDefEqProofs [cids]
          · intro p hp e he
            rw [kPm_ids hp he]; simp -implicitDefEqProofs
    · obtain rfl : i = l.length := by omega
      rw [List.take_length] at h2
      clear hK
      by_cases hms : ms = []
      · subst hms
        rw [← h2]
        simp only [stG]
        simp -implicitDefEqProofs
        refine postH_r ⟨?_, ?_, ?_, ?_, ?_, ?_⟩ <;> simp -implicitDefEqProofs
      · rw [stG_ne hms, ← h2]
        have cids := cellsM_ids ms
        have clen := cellsM_len ms
        have cfl : cellsM ms = (ms.map Ms.row).flatten := rfl
        simp -implicitDefEqProofs [dlS_kPm]
        refine postH_fr 4 (.n 33) ms.length 3 (ms.map Ms.row) ⟨?_, ?_, ?_, ?_, ?_, ?_, ?_⟩ ?_
        · simp -implicitDefEqProofs
        · simp -implicitDefEqProofs [cfl]
        · simp -implicitDefEqProofs
        · simp -implicitDefEqProofs
        · intro r hr
          obtain ⟨m, _, rfl⟩ := List.mem_map.1 hr
          rfl
        · rw [← cfl]; exact cids
        · simp -implicitDefEqProofs
        · refine ⟨?_, ?_, ?_, ?_, ?_, ?_⟩ <;> simp -implicitDefEqProofs
  · exact ⟨Nat.zero_le _, rfl, Nat.le_refl _⟩
  · simp only [stG]
    refine weak_mk ?_ ?_ ?_ ?_ ?_ ?_ <;> simp -implicitDefEqProofs [hL]
end Go.Ai
