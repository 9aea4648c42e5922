/- YtcdomokjdfmnlaaDoorP5: part of the abstract interpreter library (values, rules, soundness against the model) or of what a function of the seat computes. Conditions: as each theorem says. -/
import Derived.Test.YtcdomokjdfmnlaaDoorP4
import Derived.Test.YtcdomokjdfmnlaaDoorP2
import Derived.Lib.Join
import Derived.Lib.ItoaNum
set_option linter.unusedSimpArgs false
set_option linter.unusedVariables false
namespace Go.Ai
open Go.Proofs
/-- A print read: the number; the error. -/
def readN (s : List UInt8) : Nat × Nat := if okDec s then (if undec s < 340282366920938463463374607431768211456 then (undec s, 0) else (0, 3)) else (0, 5)
theorem undec_take (s : List UInt8) (i : Nat) (h : i < s.length) : undec (s.take (i + 1)) = 10 * undec (s.take i) + ((s[i]).toNat - 48) := by
  rw [List.take_succ_eq_append_getElem h, undec_snoc]
theorem all_take (s : List UInt8) (i : Nat) (h : i < s.length) (hd : isDig s[i] = true) (ha : (s.take i).all isDig = true) : (s.take (i + 1)).all isDig = true := by
  rw [List.take_succ_eq_append_getElem h, List.all_append, ha]; simpa using hd
theorem readN_bad {s : List UInt8} (h : okDec s = false) : readN s = (0, 5) := by unfold readN; rw [h]; rfl
theorem all_bad {s : List UInt8} {i : Nat} (h : i < s.length) (hd : isDig s[i] = false) : okDec s = false := by
  unfold okDec
  have : s.all isDig = false := by
    rw [Bool.eq_false_iff]; intro h2
    rw [List.all_eq_true] at h2
    have := h2 s[i] (List.getElem_mem h)
    rw [hd] at this; cases this
  rw [this]; simp
def b2c : AV := .sl [[.bool false], [.bool true], [.bool false], [.bool true]]
theorem b2c_eq : b2c = bl [false, true, false, true] := rfl
theorem len_step (l a : List Bool) (x : Nat) (h : l.length ≤ x) (ha : a.length ≤ 128) (hx : 128 ≤ x) : (plusL (timesL [] l [false, true, false, true]) a false).length ≤ x + 5 := by
  have h1 := timesL_len [] l [false, true, false, true] (by simp)
  have h2 := plusL_len (timesL [] l [false, true, false, true]) a false
  simp only [List.length_cons, List.length_nil] at h1
  omega
theorem val_step (l : List Bool) (d : Nat) (hd : d < 256) : val (plusL (timesL [] l [false, true, false, true]) (bitsOf d 128) false) = 10 * val l + d := by
  rw [plusL_val, timesL_val, bitsOf_val128 _ (by omega), show val [false, true, false, true] = 10 from rfl, show val [] = 0 from rfl]
  simp; omega
set_option maxRecDepth 20000 in
/-- The second loop and what comes behind it. -/
theorem rread_t2 (s : List UInt8) (hl : s.length ≤ 39) (ha : s.all isDig = true) (e : List (Nat × AV)) (pm : List (Pl × Nat)) (h0 : lk e 0 = .str s) (h2 : lk e 2 = .ptr (.n 2) 0) :
    wpA (SpH Tryd.prog gl) (AC.tl 4 c113) (postA [.ca 2 2, .t 3] (if undec s < 340282366920938463463374607431768211456 then .tup [wide (undec s), i6 0] else .tup [wide 0, i6 3])) ⟨e, [(.n 2, [u 0, u 0])], pm⟩ := by
  obtain ⟨R, hR⟩ : ∃ R, R = (if undec s < 340282366920938463463374607431768211456 then AV.tup [wide (undec s), i6 0] else .tup [wide 0, i6 3]) := ⟨_, rfl⟩
  rw [← hR]
  simp only [c113, AC.tl]
  simp -implicitDefEqProofs [h0, h2]
  refine wp_lpk (α := Nat × List Bool) (fun x => ⟨[(0, .str s), (2, .ptr (.n 2) 0), (5, bl x.2), (6, bl [false, true, false, true]), (7, i6 x.1)], [(.n 2, [u 0, u 0])], []⟩)
    (fun x => x.1 ≤ s.length ∧ x.2.length ≤ 128 + 5 * x.1 ∧ val x.2 = undec (s.take x.1)) (fun x => s.length - x.1) ?_ (0, []) ?_ ?_
  · rintro K ⟨i, l⟩ hK ⟨h1, h3, h4⟩
    simp only at h1 h3 h4
    by_cases g : i < s.length
    · have hd : isDig s[i] = true := List.all_eq_true.1 ha _ (List.getElem_mem g)
      simp only [isDig, decide_eq_true_eq] at hd
      have ut := undec_take s i g
      obtain ⟨x, hx⟩ : ∃ x, x = s[i] := ⟨_, rfl⟩
      rw [← hx] at hd ut
      obtain ⟨d, hd'⟩ : ∃ d, d = x.toNat - 48 := ⟨_, rfl⟩
      rw [← hd'] at ut
      have T := times_spec_l l [false, true, false, true] (by omega) (by simp)
      have B := bits_spec d (by omega)
      have wd : wide d = .agg [u 0, u d] := by unfold wide; rw [Nat.div_eq_of_lt (by omega), Nat.mod_eq_of_lt (by omega)]
      rw [wd] at B
      have tl := timesL_len [] l [false, true, false, true] (by simp)
      simp only [List.length_cons, List.length_nil] at tl
      have Pl := plus_spec (timesL [] l [false, true, false, true]) (bitsOf d 128) (by omega) (by rw [bitsOf_len]; omega)
      have vs := val_step l d (by omega)
      have ls := len_step l (bitsOf d 128) (128 + 5 * i) h3 (by rw [bitsOf_len]; omega) (by omega)
      have t1 : IntKind.i64.wrap ((i : Int) + 1) = i + 1 := by rw [wrap_i64] <;> omega
      have w1 : IntKind.u64.wrap (x.toNat : Int) = x.toNat := by rw [wrap_u64] <;> omega
      have w2 : IntKind.u64.wrap ((x.toNat : Int) - 48) = d := by rw [wrap_u64] <;> omega
      generalize plusL (timesL [] l [false, true, false, true]) (bitsOf d 128) false = l2 at *
      generalize timesL [] l [false, true, false, true] = l3 at *
      generalize bitsOf d 128 = l4 at *
      have fin : ∀ σ', Weak σ' ⟨[(0, .str s), (2, .ptr (.n 2) 0), (5, bl l2), (6, bl [false, true, false, true]), (7, i6 (i + 1 : Nat))], [(.n 2, [u 0, u 0])], []⟩ → K σ' :=
        fun σ' hσ => hK (i + 1, l2) σ' ⟨by simp only; omega, by simp only; omega, by simp only; rw [vs, ut, h4]⟩ (by simp only; omega) hσ
      have gx : s[i]? = some x := by rw [hx]; exact List.getElem?_eq_getElem g
      clear hx hd' vs ls tl wd ut hK h4 hR
      simp -implicitDefEqProofs [bl, g]
      refine onC_mk _ T ?_
      simp -implicitDefEqProofs [gx, w1, w2]
      refine onC_mk _ B ?_
      simp -implicitDefEqProofs [bl]
      refine onC_mk _ Pl ?_
      simp -implicitDefEqProofs [bl]
      refine fin _ ?_
      apply weak_mk <;> simp [bl, t1]
    · obtain rfl : i = s.length := by omega
      rw [List.take_length] at h4
      have O := of_spec l (by omega)
      rw [h4] at O
      have e0 : wide 0 = .agg [u 0, u 0] := rfl
      by_cases q : undec s < 340282366920938463463374607431768211456
      · rw [if_pos q] at O hR
        subst hR
        unfold wide at *
        generalize undec s / 18446744073709551616 = a1 at *
        generalize undec s % 18446744073709551616 = a2 at *
        simp -implicitDefEqProofs [bl]
        refine onC_mk _ O ?_
        simp -implicitDefEqProofs
      · rw [if_neg q] at O hR
        subst hR
        rw [e0] at O ⊢
        simp -implicitDefEqProofs [bl]
        refine onC_mk _ O ?_
        simp -implicitDefEqProofs
  · simp [undec, val]
  · apply weak_mk <;> simp [bl, h0, h2]
theorem readN_over {s : List UInt8} (hok : okDec s = true) (h : 39 < s.length) : readN s = (0, 3) := by
  unfold readN
  rw [if_pos hok, if_neg]
  have h1 := okDec_big s hok (by omega)
  have h2 : 10 ^ 39 ≤ 10 ^ (s.length - 1) := Nat.pow_le_pow_right (by omega) (by omega)
  have h3 : (340282366920938463463374607431768211456 : Nat) ≤ 10 ^ 39 := by decide
  omega
set_option maxRecDepth 20000 in
theorem rread_t1 (s : List UInt8) (hl : s.length ≤ 1000000) (hz : s.headD 0 = 48 → s.length = 1) (hne : s ≠ []) (e : List (Nat × AV)) (pm : List (Pl × Nat)) (h0 : lk e 0 = .str s) (h2 : lk e 2 = .ptr (.n 2) 0) :
    wpA (SpH Tryd.prog gl) (AC.tl 2 c113) (postA [.ca 2 2, .t 3] (.tup [wide (readN s).1, i6 (readN s).2])) ⟨e, [(.n 2, [u 0, u 0])], pm⟩ := by
  have okd : s.all isDig = true → okDec s = true := by
    intro h
    unfold okDec
    rw [h]
    cases s with
    | nil => exact absurd rfl hne
    | cons x r =>
      by_cases hx : x = 48
      · have := hz hx; simp at this; simp [this]
      · simp [hx]
  have tail : ∀ e pm, s.length ≤ 39 → s.all isDig = true → lk e 0 = .str s → lk e 2 = .ptr (.n 2) 0 → wpA (SpH Tryd.prog gl) (AC.tl 4 c113) (postA [.ca 2 2, .t 3] (.tup [wide (readN s).1, i6 (readN s).2])) ⟨e, [(.n 2, [u 0, u 0])], pm⟩ := by
    intro e pm h39 ha h0 h2
    have := rread_t2 s h39 ha e pm h0 h2
    have er : (if undec s < 340282366920938463463374607431768211456 then AV.tup [wide (undec s), i6 0] else .tup [wide 0, i6 3]) = .tup [wide (readN s).1, i6 (readN s).2] := by
      unfold readN
      rw [if_pos (okd ha)]
      split <;> rfl
    rw [er] at this
    exact this
  have ec : AC.tl 2 c113 = AC.cutAt 2 (AC.tl 4 c113) (AC.tl 2 c113) := rfl
  rw [ec]
  generalize AC.tl 4 c113 = t at tail ⊢
  have e0 : wide 0 = .agg [u 0, u 0] := rfl
  have b5 : okDec s = false → AV.tup [wide (readN s).1, i6 (readN s).2] = .tup [.agg [u 0, u 0], i6 5] := fun h => by rw [readN_bad h, e0]; rfl
  have b3 : okDec s = true → 39 < s.length → AV.tup [wide (readN s).1, i6 (readN s).2] = .tup [.agg [u 0, u 0], i6 3] := fun h h' => by rw [readN_over h h', e0]; rfl
  generalize AV.tup [wide (readN s).1, i6 (readN s).2] = R at *
  simp only [c113, AC.tl, AC.cutAt]
  simp -implicitDefEqProofs [h0, h2]
  refine wp_lpk (α := Nat) (fun i => ⟨[(0, .str s), (2, .ptr (.n 2) 0), (4, i6 i)], [(.n 2, [u 0, u 0])], []⟩)
    (fun i => i ≤ s.length ∧ (s.take i).all isDig = true) (fun i => s.length - i) ?_ 0 ?_ ?_
  · rintro K i hK ⟨h1, h3⟩
    by_cases g : i < s.length
    · have t1 : IntKind.i64.wrap ((i : Int) + 1) = (i + 1 : Nat) := by rw [wrap_i64] <;> omega
      have fin : isDig s[i] = true → ∀ σ', Weak σ' ⟨[(0, .str s), (2, .ptr (.n 2) 0), (4, i6 (i + 1 : Nat))], [(.n 2, [u 0, u 0])], []⟩ → K σ' :=
        fun hd σ' hσ => hK (i + 1) σ' ⟨by omega, all_take s i g hd h3⟩ (by omega) hσ
      have bad : isDig s[i] = false → R = .tup [.agg [u 0, u 0], i6 5] := fun h => b5 (all_bad g h)
      have gx : s[i]? = some s[i] := List.getElem?_eq_getElem g
      obtain ⟨x, hx⟩ : ∃ x, s[i] = x := ⟨_, rfl⟩
      simp only [hx] at fin bad gx
      clear hK b5 b3 h3 tail
      by_cases x1 : (x.toNat : Int) < 48
      · have := bad (by simp only [isDig, decide_eq_false_iff_not]; omega)
        subst this
        simp -implicitDefEqProofs [g, hx, x1]
      · by_cases x2 : (57 : Int) < x.toNat
        · have := bad (by simp only [isDig, decide_eq_false_iff_not]; omega)
          subst this
          simp -implicitDefEqProofs [g, hx, x1, x2]
        · have fin := fin (by simp only [isDig, decide_eq_true_eq]; omega)
          simp -implicitDefEqProofs [g, hx, x1, x2]
          refine fin _ ?_
          apply weak_mk <;> simp [t1]
    · obtain rfl : i = s.length := by omega
      rw [List.take_length] at h3
      by_cases g2 : 39 < s.length
      · have := b3 (okd h3) g2
        subst this
        have g2' : (39 : Int) < (s.length : Int) := by omega
        simp -implicitDefEqProofs [g2, g2']
      · have g2' : ¬ (39 : Int) < (s.length : Int) := by omega
        have tl := fun e pm => tail e pm (by omega) h3
        clear hK b5 b3 h3 tail
        simp -implicitDefEqProofs [g2, g2']
        refine tl _ _ ?_ ?_ <;> simp -implicitDefEqProofs
  · simp
  · apply weak_mk <;> simp [h0, h2]
set_option maxRecDepth 20000 in
theorem rread_spec (s : List UInt8) (hl : s.length ≤ 1000000) : Sp Tryd.prog gl 113 [.str s] (.tup [wide (readN s).1, i6 (readN s).2]) := by
  refine s113 rfl rfl ?_
  have e0 : wide 0 = .agg [u 0, u 0] := rfl
  cases s with
  | nil =>
    rw [readN_bad rfl]
    simp only [e0]
    simp -implicitDefEqProofs [c113]
  | cons x r =>
    by_cases h1 : x = 48 ∧ 1 ≤ r.length
    · have : okDec (x :: r) = false := by
        unfold okDec
        obtain ⟨rfl, h1⟩ := h1
        have h2 : r ≠ [] := by intro e; rw [e] at h1; simp at h1
        simp [h2]
      rw [readN_bad this]
      simp only [e0]
      obtain ⟨rfl, h1⟩ := h1
      have h2 : (1 : Int) < (r.length : Int) + 1 := by omega
      simp -implicitDefEqProofs [c113, h2]
    · have T := rread_t1 (x :: r) hl (fun h => by
        simp at h
        simp
        exact Classical.byContradiction (fun hr => h1 ⟨h, List.length_pos_iff.2 hr⟩)) (by simp)
      have ec : c113 = AC.cutAt 2 (AC.tl 2 c113) c113 := rfl
      rw [ec]
      generalize AC.tl 2 c113 = t at T ⊢
      simp only [c113, AC.cutAt]
      generalize AV.tup [wide (readN (x :: r)).1, i6 (readN (x :: r)).2] = R at *
      by_cases hx : x = 48
      · have h3 : ¬ 1 ≤ r.length := fun h => h1 ⟨hx, h⟩
        have h2 : ¬ (1 : Int) < (r.length : Int) + 1 := by omega
        subst hx
        simp -implicitDefEqProofs [h2]
        refine T _ _ ?_ ?_ <;> simp -implicitDefEqProofs
      · have hx' : ((x.toNat : Int) == 48) = false := by
          rw [beq_eq_false_iff_ne]
          intro h; apply hx
          have : x.toNat = (48 : UInt8).toNat := by simp; omega
          exact UInt8.toNat_inj.1 this
        simp -implicitDefEqProofs [hx']
        refine T _ _ ?_ ?_ <;> simp -implicitDefEqProofs
end Go.Ai
set_option linter.unusedSimpArgs false
set_option linter.unusedVariables false
namespace Go.Ai
open Go.Proofs
/-! ### Runes -/
theorem get_at (s : List UInt8) (i : Nat) (h : i < s.length) : (ByteArray.mk s.toArray).get! (i + 0) = s[i] := by
  show (ByteArray.mk s.toArray).get! i = _
  simp [ByteArray.get!, getElem!_pos, h]
theorem rune_lo {s : List UInt8} {i : Nat} (h : i < s.length) (hb : s[i].toNat < 128) : runeAt s i = ((s[i].toNat : Int), 1) := by
  unfold runeAt Utf8.decode
  simp only [get_at s i h, hb, if_true]
theorem rune_hi {s : List UInt8} {i : Nat} (h : i < s.length) (hb : ¬ s[i].toNat < 128) : 128 ≤ (runeAt s i).1 := by
  unfold runeAt Utf8.decode
  simp only [get_at s i h, hb, if_false, Utf8.runeError]
  generalize (ByteArray.mk s.toArray).get! (i + 1) = x1
  generalize (ByteArray.mk s.toArray).get! (i + 2) = x2
  generalize (ByteArray.mk s.toArray).get! (i + 3) = x3
  generalize (s[i]).toNat = b at *
  split
  · split
    · simp only []; omega
    · simp only []; omega
  · split
    · split
      · rename_i h2; simp only [Bool.and_eq_true, decide_eq_true_eq] at h2; simp only []; omega
      · simp only []; omega
    · split
      · split
        · rename_i h2; simp only [Bool.and_eq_true, decide_eq_true_eq] at h2; simp only []; omega
        · simp only []; omega
      · simp only []; omega
theorem rune_pos {s : List UInt8} {i : Nat} : 1 ≤ (runeAt s i).2 := by
  unfold runeAt Utf8.decode
  simp only [Utf8.runeError]
  repeat' split
  all_goals (simp only []; omega)
set_option maxRecDepth 20000 in
theorem xdigits_spec (s : List UInt8) (hl : s.length ≤ 1000000) : Sp Tryd.prog gl 147 [.str s] (.bool (okDec s)) := by
  refine s147 rfl rfl ?_
  have bad : ∀ i (h : i < s.length), isDig s[i] = false → okDec s = false := fun i h => all_bad h
  have bad0 : s.headD 0 = 48 → 1 < s.length → okDec s = false := by
    intro h1 h2
    unfold okDec
    rw [h1]
    have : (s.length == 1) = false := by simp; omega
    rw [this]; simp
  have good : s ≠ [] → s.all isDig = true → (s.headD 0 = 48 → s.length = 1) → okDec s = true := by
    intro h1 h2 h3
    unfold okDec
    rw [h2]
    by_cases hx : s.headD 0 = 48
    · simp [h1, h3 hx]
    · have : (s.headD 0 != 48) = true := by simp only [bne_iff_ne, ne_eq]; exact hx
      rw [this]; simp [h1]
  have hnil : s = [] → okDec s = false := by rintro rfl; rfl
  have h1000 : s.headD 0 = (s[0]?).getD 0 := by cases s <;> rfl
  generalize okDec s = R at *
  simp -implicitDefEqProofs [c147]
  refine wp_lpk (α := Nat) (fun i => ⟨[(0, .str s), (6, .itp 6)], [(.it 6, [.itr s i])], []⟩)
    (fun i => i ≤ s.length ∧ (s.take i).all isDig = true ∧ (1 ≤ i → s.headD 0 = 48 → s.length = 1)) (fun i => s.length - i) ?_ 0 ?_ ?_
  · rintro K i hK ⟨h1, h3, h4⟩
    by_cases g : i < s.length
    · have fin : isDig s[i] = true → (i = 0 → s[i] = 48 → s.length = 1) → ∀ σ', Weak σ' ⟨[(0, .str s), (6, .itp 6)], [(.it 6, [.itr s (i + 1)])], []⟩ → K σ' :=
        fun hd h5 σ' hσ => hK (i + 1) σ' ⟨by omega, all_take s i g hd h3, fun _ hh => by
          by_cases hi : i = 0
          · subst hi
            refine h5 rfl ?_ 
            rw [h1000, List.getElem?_eq_getElem g] at hh
            simpa using hh
          · exact h4 (by omega) hh⟩ (by omega) hσ
      have bad := bad i g
      have rlo := rune_lo g
      have rhi := rune_hi g
      have bad0' : i = 0 → s[i] = 48 → 1 < s.length → R = false := by
        rintro rfl h5 h6
        refine bad0 ?_ h6
        rw [h1000, List.getElem?_eq_getElem g, h5]; rfl
      obtain ⟨x, hsx⟩ : ∃ x, s[i] = x := ⟨_, rfl⟩
      simp only [hsx] at fin bad rlo rhi bad0'
      clear hK bad0 good hnil h4 h3
      by_cases hx : x.toNat < 128
      · have r := rlo hx
        by_cases x1 : (x.toNat : Int) < 48
        · have := bad (by simp only [isDig, decide_eq_false_iff_not]; omega)
          subst this
          simp -implicitDefEqProofs [g, r, x1]
        · by_cases x2 : (57 : Int) < x.toNat
          · have := bad (by simp only [isDig, decide_eq_false_iff_not]; omega)
            subst this
            simp -implicitDefEqProofs [g, r, x1, x2]
          · have fin := fin (by simp only [isDig, decide_eq_true_eq]; omega)
            by_cases i0 : i = 0
            · subst i0
              by_cases x3 : x.toNat = 48
              · have x3' : x = 48 := UInt8.toNat_inj.1 (by rw [x3]; rfl)
                by_cases l1 : 1 < s.length
                · have := bad0' rfl x3' l1
                  subst this
                  have l1' : (1 : Int) < (s.length : Int) := by omega
                  have x3i : (x.toNat : Int) = 48 := by omega
                  simp -implicitDefEqProofs [g, r, x1, x2, x3i, l1']
                · have l1' : ¬ (1 : Int) < (s.length : Int) := by omega
                  have x3i : (x.toNat : Int) = 48 := by omega
                  have fin := fin (fun _ _ => by omega)
                  clear bad bad0'
                  simp -implicitDefEqProofs [g, r, x1, x2, x3i, l1']
                  refine fin _ ?_
                  apply weak_mk <;> simp
              · have x3' : ((x.toNat : Int) == 48) = false := by rw [beq_eq_false_iff_ne]; omega
                have fin := fin (fun _ h => absurd (by rw [h]; rfl) x3)
                simp -implicitDefEqProofs [g, r, x1, x2, x3']
                refine fin _ ?_
                apply weak_mk <;> simp
            · have i0' : ((i : Int) == 0) = false := by rw [beq_eq_false_iff_ne]; omega
              have fin := fin (fun h => absurd h i0)
              simp -implicitDefEqProofs [g, r, x1, x2, i0']
              refine fin _ ?_
              apply weak_mk <;> simp
      · have h128 := rhi hx
        have := bad (by simp only [isDig, decide_eq_false_iff_not]; omega)
        subst this
        obtain ⟨rr, hrr⟩ : ∃ rr, (runeAt s i).1 = rr := ⟨_, rfl⟩
        rw [hrr] at h128
        have x1 : ¬ rr < 48 := by omega
        have x2 : (57 : Int) < rr := by omega
        simp -implicitDefEqProofs [g, hrr, x1, x2]
    · obtain rfl : i = s.length := by omega
      rw [List.take_length] at h3
      clear hK bad bad0
      by_cases hs : s = []
      · have := hnil hs
        subst this; subst hs
        simp -implicitDefEqProofs
      · have := good hs h3 (h4 (List.length_pos_iff.2 hs))
        subst this
        simp -implicitDefEqProofs [hs]
  · simp
  · apply weak_mk <;> simp
end Go.Ai
set_option linter.unusedSimpArgs false
set_option linter.unusedVariables false
namespace Go.Ai
open Go.Proofs
theorem wrap_i32 {n : Int} (h1 : -2147483648 ≤ n) (h2 : n < 2147483648) : IntKind.i32.wrap n = n := by
  have e1 : (2 : Int) ^ 32 = 4294967296 := by decide
  have e2 : (2 : Int) ^ (32 - 1) = 2147483648 := by decide
  have : IntKind.i32.wrap n = if (true && decide (n % 2 ^ 32 ≥ 2 ^ (32 - 1))) = true then n % 2 ^ 32 - 2 ^ 32 else n % 2 ^ 32 := rfl
  rw [this]
  simp only [e1, e2, Bool.true_and, decide_eq_true_eq]
  split <;> omega
theorem foldl_mono10 (r : List UInt8) (a : Nat) : a ≤ r.foldl (fun a b => 10 * a + (b.toNat - 48)) a := by
  induction r generalizing a with
  | nil => exact Nat.le_refl _
  | cons x r ih => simp only [List.foldl_cons]; exact Nat.le_trans (by omega) (ih _)
theorem undec_take_le (s : List UInt8) (i : Nat) : undec (s.take i) ≤ undec s := by
  have h := foldl_mono10 (s.drop i) (undec (s.take i))
  have : undec s = (s.drop i).foldl (fun a b => 10 * a + (b.toNat - 48)) (undec (s.take i)) := by
    unfold undec
    rw [← List.foldl_append, List.take_append_drop]
  omega
set_option maxRecDepth 20000 in
theorem xread_spec (s : List UInt8) (hl : s.length ≤ 1000000) : Sp Tryd.prog gl 111 [.str s] (.tup [wide (readN s).1, i6 (readN s).2]) := by
  refine s111 rfl rfl ?_
  have e0 : wide 0 = .agg [u 0, u 0] := rfl
  have D := xdigits_spec s hl
  cases hok : okDec s with
  | false =>
    rw [hok] at D
    rw [readN_bad hok, e0]
    simp -implicitDefEqProofs [c111]
    refine onC_mk _ D ?_
    simp -implicitDefEqProofs
  | true =>
    rw [hok] at D
    have hall : s.all isDig = true := by
      unfold okDec at hok
      simp only [Bool.and_eq_true] at hok
      exact hok.1.2
    have res : readN s = if undec s < 340282366920938463463374607431768211456 then (undec s, 0) else (0, 3) := by unfold readN; rw [if_pos hok]
    have rbad : ¬ undec s < 340282366920938463463374607431768211456 → AV.tup [wide (readN s).1, i6 (readN s).2] = .tup [.agg [u 0, u 0], i6 3] := fun h => by rw [res, if_neg h, e0]; rfl
    have rgood : undec s < 340282366920938463463374607431768211456 → AV.tup [wide (readN s).1, i6 (readN s).2] = .tup [wide (undec s), i6 0] := fun h => by rw [res, if_pos h]; rfl
    clear res
    generalize AV.tup [wide (readN s).1, i6 (readN s).2] = R at *
    simp -implicitDefEqProofs [c111]
    refine onC_mk _ D ?_
    simp -implicitDefEqProofs
    refine wp_lpk (α := Nat) (fun i => ⟨[(0, .str s), (2, .ptr (.n 2) 0), (4, .ptr (.n 4) 0), (14, .itp 14)], [(.n 2, [u 0, u 0]), (.n 4, [u (undec (s.take i) / 18446744073709551616), u (undec (s.take i) % 18446744073709551616)]), (.it 14, [.itr s i])], []⟩)
      (fun i => i ≤ s.length ∧ undec (s.take i) < 340282366920938463463374607431768211456) (fun i => s.length - i) ?_ 0 ?_ ?_
    · rintro K i hK ⟨h1, h3⟩
      by_cases g : i < s.length
      · have hd : isDig s[i] = true := List.all_eq_true.1 hall _ (List.getElem_mem g)
        simp only [isDig, decide_eq_true_eq] at hd
        have ut := undec_take s i g
        have ul := undec_take_le s (i + 1)
        have r := rune_lo g (by omega)
        have fin : undec (s.take (i + 1)) < 340282366920938463463374607431768211456 → ∀ σ', Weak σ' ⟨[(0, .str s), (2, .ptr (.n 2) 0), (4, .ptr (.n 4) 0), (14, .itp 14)], [(.n 2, [u 0, u 0]), (.n 4, [u (undec (s.take (i + 1)) / 18446744073709551616), u (undec (s.take (i + 1)) % 18446744073709551616)]), (.it 14, [.itr s (i + 1)])], []⟩ → K σ' :=
          fun h σ' hσ => hK (i + 1) σ' ⟨by omega, h⟩ (by omega) hσ
        generalize undec (s.take (i + 1)) = n2 at *
        generalize undec (s.take i) = n1 at *
        obtain ⟨x, hsx⟩ : ∃ x, s[i] = x := ⟨_, rfl⟩
        simp only [hsx] at hd ut r
        obtain ⟨dg, hdg⟩ : ∃ dg, dg = x.toNat - 48 := ⟨_, rfl⟩
        rw [← hdg] at ut
        have w1 : IntKind.i32.wrap ((x.toNat : Int) - 48) = dg := by rw [wrap_i32] <;> omega
        have w2 : IntKind.u64.wrap (dg : Int) = dg := by rw [wrap_u64] <;> omega
        have M := xmore_spec n1 10 h3 (by omega)
        clear hK rgood
        by_cases o1 : n1 * 10 < 340282366920938463463374607431768211456
        · rw [if_pos o1] at M
          have A := xadd_spec (n1 * 10) dg o1 (by omega)
          have wd : wide dg = .agg [u 0, u dg] := by unfold wide; rw [Nat.div_eq_of_lt (by omega), Nat.mod_eq_of_lt (by omega)]
          rw [wd] at A
          have en : n1 * 10 + dg = n2 := by omega
          rw [en] at A
          by_cases o2 : n2 < 340282366920938463463374607431768211456
          · rw [if_pos o2] at A
            have fin := fin o2
            unfold wide at M A
            clear ut en ul rbad h3 o1 o2 hdg
            generalize n1 * 10 / 18446744073709551616 = a1 at *
            generalize n1 * 10 % 18446744073709551616 = a2 at *
            generalize n1 / 18446744073709551616 = b1 at *
            generalize n1 % 18446744073709551616 = b2 at *
            generalize n2 / 18446744073709551616 = d1 at *
            generalize n2 % 18446744073709551616 = d2 at *
            simp -implicitDefEqProofs [g, r]
            refine onC_mk _ M ?_
            simp -implicitDefEqProofs
            rw [w1, w2]
            refine onC_mk _ A ?_
            simp -implicitDefEqProofs
            refine fin _ ?_
            apply weak_mk <;> simp
          · rw [if_neg o2] at A
            have := rbad (by omega)
            subst this
            unfold wide at M A
            clear ut en ul rbad h3 o1 o2 hdg fin
            generalize n1 * 10 / 18446744073709551616 = a1 at *
            generalize n1 * 10 % 18446744073709551616 = a2 at *
            generalize n1 / 18446744073709551616 = b1 at *
            generalize n1 % 18446744073709551616 = b2 at *
            simp -implicitDefEqProofs [g, r]
            refine onC_mk _ M ?_
            simp -implicitDefEqProofs
            rw [w1, w2]
            refine onC_mk _ A ?_
            simp -implicitDefEqProofs
        · rw [if_neg o1] at M
          have := rbad (by omega)
          subst this
          unfold wide at M
          clear ut ul rbad h3 o1 hdg fin
          generalize n1 / 18446744073709551616 = b1 at *
          generalize n1 % 18446744073709551616 = b2 at *
          simp -implicitDefEqProofs [g, r]
          refine onC_mk _ M ?_
          simp -implicitDefEqProofs
      · obtain rfl : i = s.length := by omega
        rw [List.take_length] at h3 ⊢
        have := rgood h3
        subst this
        unfold wide
        clear hK rbad rgood
        generalize undec s / 18446744073709551616 = a1 at *
        generalize undec s % 18446744073709551616 = a2 at *
        simp -implicitDefEqProofs
    · simp [undec]
    · apply weak_mk <;> simp [undec]
end Go.Ai
set_option linter.unusedSimpArgs false
set_option linter.unusedVariables false
namespace Go.Ai
/-! ### A text between strokes, no program in sight -/
def spl : List UInt8 → List UInt8 → List (List UInt8)
  | cur, [] => [cur]
  | cur, b :: r => if b = 47 then cur :: spl [] r else spl (cur ++ [b]) r
theorem spl_app (a r : List UInt8) (cur : List UInt8) (h : ∀ b ∈ a, b ≠ 47) : spl cur (a ++ r) = spl (cur ++ a) r := by
  induction a generalizing cur with
  | nil => simp
  | cons b a ih =>
    rw [List.cons_append, spl, if_neg (h b (by simp)), ih _ (fun c hc => h c (by simp [hc]))]
    simp
theorem spl_stroke (a r : List UInt8) (h : ∀ b ∈ a, b ≠ 47) : spl [] (a ++ 47 :: r) = a :: spl [] r := by
  rw [spl_app a _ [] h, spl, if_pos rfl]; rfl
theorem spl_last (a : List UInt8) (h : ∀ b ∈ a, b ≠ 47) : spl [] a = [a] := by
  have := spl_app a [] [] h
  rw [List.append_nil] at this
  rw [this]; rfl
/-- Together again. -/
def jn : List (List UInt8) → List UInt8
  | [] => []
  | [x] => x
  | x :: y :: r => x ++ 47 :: jn (y :: r)
theorem spl_ne (cur s : List UInt8) : spl cur s ≠ [] := by
  induction s generalizing cur with
  | nil => simp [spl]
  | cons b r ih => rw [spl]; split <;> simp [ih]
theorem jn_spl (cur s : List UInt8) : jn (spl cur s) = cur ++ s := by
  induction s generalizing cur with
  | nil => simp [spl, jn]
  | cons b r ih =>
    rw [spl]
    split
    · rename_i e; subst e
      have h1 := ih []
      have h2 := spl_ne [] r
      cases hs : spl [] r with
      | nil => exact absurd hs h2
      | cons y z => rw [hs] at h1; rw [jn, h1]; simp
    · rw [ih]; simp
theorem spl_mem (cur s : List UInt8) (hc : ∀ b ∈ cur, b ≠ 47) : ∀ x ∈ spl cur s, ∀ b ∈ x, b ≠ 47 := by
  induction s generalizing cur with
  | nil => intro x hx; rw [spl, List.mem_singleton] at hx; subst hx; exact hc
  | cons b r ih =>
    rw [spl]
    split
    · intro x hx
      rcases List.mem_cons.1 hx with rfl | hx
      · exact hc
      · exact ih [] (by simp) x hx
    · rename_i hb
      exact ih _ (fun c h => by rcases List.mem_append.1 h with h | h; exact hc c h; simp at h; subst h; exact hb)
theorem jn5 (a b c d e : List UInt8) : jn [a, b, c, d, e] = a ++ 47 :: (b ++ 47 :: (c ++ 47 :: (d ++ 47 :: e))) := rfl
theorem spl_jn5 (a b c d e : List UInt8) (ha : ∀ x ∈ a, x ≠ 47) (hb : ∀ x ∈ b, x ≠ 47) (hc : ∀ x ∈ c, x ≠ 47) (hd : ∀ x ∈ d, x ≠ 47) (he : ∀ x ∈ e, x ≠ 47) : spl [] (jn [a, b, c, d, e]) = [a, b, c, d, e] := by
  rw [jn5, spl_stroke _ _ ha, spl_stroke _ _ hb, spl_stroke _ _ hc, spl_stroke _ _ hd, spl_last _ he]
theorem spl_len (cur s : List UInt8) : (spl cur s).length ≤ s.length + 1 := by
  induction s generalizing cur with
  | nil => simp [spl]
  | cons b r ih =>
    rw [spl]; split
    · have := ih []; simp; omega
    · have := ih (cur ++ [b]); simp; omega
theorem spl_lens (cur s : List UInt8) : ∀ x ∈ spl cur s, x.length ≤ cur.length + s.length := by
  induction s generalizing cur with
  | nil => intro x hx; rw [spl, List.mem_singleton] at hx; subst hx; simp
  | cons b r ih =>
    rw [spl]
    split
    · intro x hx
      rcases List.mem_cons.1 hx with rfl | hx
      · simp
      · have := ih [] x hx; simp at this ⊢; omega
    · intro x hx
      have := ih _ x hx
      simp at this ⊢; omega
/-! ### Runes and strokes -/
theorem conts_all {s : List UInt8} {i : Nat} : ∀ {n : Nat}, conts s i n = true → ∀ k, 1 ≤ k → k ≤ n → cont s (i + k) = true
  | 0, _, k, h1, h2 => by omega
  | n + 1, h, k, h1, h2 => by
    simp only [conts, Bool.and_eq_true] at h
    rcases Nat.lt_or_ge k (n + 1) with h3 | h3
    · exact conts_all h.1 k h1 (by omega)
    · have : k = n + 1 := by omega
      subst this; exact h.2
theorem stepF_seg {s : List UInt8} {i n r0 least : Nat} (h : i < s.length) (hb : byt s i ≠ 47) : i + (stepF s i n r0 least).2 ≤ s.length ∧ ∀ j (hj : j < s.length), i ≤ j → j < i + (stepF s i n r0 least).2 → s[j] ≠ 47 := by
  have one : ∀ j (hj : j < s.length), i ≤ j → j < i + 1 → s[j] ≠ 47 := by
    intro j hj h1 h2 e
    obtain rfl : j = i := by omega
    rw [byt_at h, e] at hb; exact hb rfl
  unfold stepF
  split
  · rename_i hc
    simp only [Bool.and_eq_true] at hc
    refine ⟨?_, ?_⟩
    · simp only
      by_cases hn : n = 0
      · subst hn; omega
      · have := (cont_iff.1 (conts_all hc.1 n (by omega) (Nat.le_refl _))).1; omega
    · intro j hj h1 h2 e
      simp only at h2
      by_cases hji : j = i
      · exact one j hj h1 (by omega) e
      · have h3 := conts_all hc.1 (j - i) (by omega) (by omega)
        rw [show i + (j - i) = j by omega] at h3
        have h4 := (cont_iff.1 h3).2
        rw [byt_at hj, e] at h4
        simp at h4
  · exact ⟨by simp only; omega, fun j hj h1 h2 => one j hj h1 h2⟩
theorem rune_stroke {s : List UInt8} {i : Nat} (h : i < s.length) (hb : s[i] = 47) : runeAt s i = (47, 1) := by
  rw [rune_lo h (by rw [hb]; decide), hb]; rfl
theorem rune_seg {s : List UInt8} {i : Nat} (h : i < s.length) (hb : s[i] ≠ 47) : (runeAt s i).1 ≠ 47 ∧ 1 ≤ (runeAt s i).2 ∧ i + (runeAt s i).2 ≤ s.length ∧ ∀ j (hj : j < s.length), i ≤ j → j < i + (runeAt s i).2 → s[j] ≠ 47 := by
  have hb2 : byt s i ≠ 47 := fun e => hb (UInt8.toNat.inj (by rw [← byt_at h, e]; rfl))
  have one : i + 1 ≤ s.length ∧ ∀ j (hj : j < s.length), i ≤ j → j < i + 1 → s[j] ≠ 47 := ⟨by omega, by
    intro j hj h1 h2 e
    obtain rfl : j = i := by omega
    exact hb e⟩
  have hst : i + (stepR s i).2 ≤ s.length ∧ ∀ j (hj : j < s.length), i ≤ j → j < i + (stepR s i).2 → s[j] ≠ 47 := by
    unfold stepR
    simp only
    split
    · exact one
    · split
      · exact stepF_seg h hb2
      · split
        · exact stepF_seg h hb2
        · split
          · exact stepF_seg h hb2
          · exact one
  refine ⟨?_, rune_pos, ?_, ?_⟩
  · by_cases g : s[i].toNat < 128
    · rw [rune_lo h g]
      simp only
      intro e
      exact hb (UInt8.toNat.inj (by have : s[i].toNat = 47 := by omega
                                    rw [this]; rfl))
    · have := rune_hi h g; omega
  · rw [step_rune s i h]; split
    · exact one.1
    · exact hst.1
  · rw [step_rune s i h]; split
    · exact one.2
    · exact hst.2
/-- A step over what is no stroke. -/
theorem spl_step {s : List UInt8} {i k from_ : Nat} (h1 : from_ ≤ i) (h2 : i + k ≤ s.length) (h : ∀ j (hj : j < s.length), i ≤ j → j < i + k → s[j] ≠ 47) : spl ((s.take i).drop from_) (s.drop i) = spl ((s.take (i + k)).drop from_) (s.drop (i + k)) := by
  have e1 : s.drop i = (s.drop i).take k ++ s.drop (i + k) := by rw [← List.drop_drop]; exact (List.take_append_drop k (s.drop i)).symm
  have e2 : s.take (i + k) = s.take i ++ (s.drop i).take k := List.take_add
  rw [e1, spl_app]
  · rw [e2, List.drop_append_of_le_length (by rw [List.length_take]; omega)]
  · intro b hb
    obtain ⟨j, hj, rfl⟩ := List.getElem_of_mem hb
    rw [List.length_take, List.length_drop] at hj
    rw [List.getElem_take, List.getElem_drop]
    exact h (i + j) (by omega) (by omega) (by omega)
theorem spl_at {s : List UInt8} {i from_ : Nat} (h : i < s.length) (hb : s[i] = 47) : spl ((s.take i).drop from_) (s.drop i) = (s.take i).drop from_ :: spl ((s.take (i + 1)).drop (i + 1)) (s.drop (i + 1)) := by
  rw [List.drop_eq_getElem_cons h, spl, if_pos hb]
  congr 2
  rw [List.drop_eq_nil_of_le]; rw [List.length_take]; omega
theorem spl_end {s : List UInt8} {from_ : Nat} : spl ((s.take s.length).drop from_) (s.drop s.length) = [s.drop from_] := by
  rw [List.drop_length, List.take_length]; rfl
/-! ### Keys' prints -/
theorem decDigits_eq (n : Nat) : Lib.decDigits n = dec n := by
  induction n using Nat.strongRecOn with
  | _ n ih =>
    by_cases h : n < 10
    · rw [Lib.decDigits, dif_pos h, dec_lt h]
    · rw [Lib.decDigits, dif_neg h, dec_ge h, ih _ (by omega)]
def pageW (b : Bool) : List UInt8 := if b = true then [112, 97, 103, 101] else [116, 105, 99, 107, 101, 116]
def fireW (b : Bool) : List UInt8 := if b = true then [114, 101, 115, 111, 108, 118, 101] else [102, 105, 114, 101]
def printK (k : Ky) : List UInt8 := if rightK k = true then jn [k.g, k.r, pageW k.p, dec k.e, fireW k.f] else [63]
def kz : Ky := ⟨[], [], false, 0, false⟩
def keyOf (g r p e f : List UInt8) : Ky := ⟨g, r, p == [112, 97, 103, 101], (readN e).1 % 18446744073709551616, f == [114, 101, 115, 111, 108, 118, 101]⟩
def goodK (g r p e f : List UInt8) : Bool := decide ((readN e).2 = 0) && decide ((readN e).1 / 18446744073709551616 = 0) && (p == [112, 97, 103, 101] || p == [116, 105, 99, 107, 101, 116]) && (f == [114, 101, 115, 111, 108, 118, 101] || f == [102, 105, 114, 101]) && rightK (keyOf g r p e f)
def readK (s : List UInt8) : Ky × Bool := match spl [] s with
  | [g, r, p, e, f] => if goodK g r p e f = true then (keyOf g r p e f, true) else (kz, false)
  | _ => (kz, false)
def rreadK (s : List UInt8) : Ky × Bool := match spl [] s with
  | [g, r, p, e, f] => if (readN e).1 / 18446744073709551616 = 0 ∧ rightK (keyOf g r p e f) = true ∧ printK (keyOf g r p e f) = s then (keyOf g r p e f, true) else (kz, false)
  | _ => (kz, false)
theorem letter_no (r : Int) (h : letter r = true) : r ≠ 47 := by rintro rfl; revert h; decide
theorem nameGo_no : ∀ (l : List Int) (n : Nat) (last : Int), nameGo n last l = true → ∀ r ∈ l, r ≠ 47
  | [], _, _, _, r, hr => by simp at hr
  | x :: l, n, last, h, r, hr => by
    simp only [nameGo, Bool.and_eq_true] at h
    rcases List.mem_cons.1 hr with rfl | hr
    · rintro rfl
      have := h.1
      revert this
      simp [letter, digR]
    · exact nameGo_no l _ _ h.2 r hr
theorem runes_no (s : List UInt8) : ∀ (n i : Nat), s.length - i ≤ n → (∀ r ∈ runesL s i, r ≠ 47) → ∀ j (hj : j < s.length), i ≤ j → s[j] ≠ 47
  | 0, i, hn, _, j, hj, h => by omega
  | n + 1, i, hn, hr, j, hj, h => by
    have hi : i < s.length := by omega
    rw [runesL_in hi] at hr
    have hp := stepR_pos s i
    have h1 : (stepR s i).1 ≠ 47 := hr _ (by simp)
    have hb : s[i] ≠ 47 := by
      intro e
      apply h1
      unfold stepR
      simp only
      rw [byt_at hi, e]
      rw [if_pos (by decide)]; rfl
    have hs := rune_seg hi hb
    have hsr := step_rune s i hi
    have hk : (runeAt s i).2 = (stepR s i).2 := by
      rw [hsr]; split
      · rename_i e
        have : (stepR s i).2 = 1 := by
          revert e
          have lp : ∀ a r0 least, (stepF s i a r0 least).1 = -1 → (stepF s i a r0 least).2 = 1 := by
            intro a r0 least
            unfold stepF
            split
            · simp only; intro e; omega
            · simp
          unfold stepR
          simp only
          split
          · simp only; intro e; omega
          · split
            · exact lp _ _ _
            · split
              · exact lp _ _ _
              · split
                · exact lp _ _ _
                · simp
        rw [this]
      · rfl
    rw [hk] at hs
    rcases Nat.lt_or_ge j (i + (stepR s i).2) with h2 | h2
    · exact hs.2.2.2 j hj h h2
    · exact runes_no s n (i + (stepR s i).2) (by omega) (fun r hr' => hr r (by simp [hr'])) j hj h2
theorem nameT_no {s : List UInt8} (h : nameT s = true) : ∀ b ∈ s, b ≠ 47 := by
  intro b hb
  obtain ⟨j, hj, rfl⟩ := List.getElem_of_mem hb
  exact runes_no s s.length 0 (by omega) (nameGo_no _ _ _ h) j hj (Nat.zero_le _)
theorem dec_no (n : Nat) : ∀ b ∈ dec n, b ≠ 47 := by
  intro b hb e
  have := List.all_eq_true.1 (dec_dig n) b hb
  subst e
  simp [isDig] at this
theorem spl_print {k : Ky} (h : rightK k = true) : spl [] (jn [k.g, k.r, pageW k.p, dec k.e, fireW k.f]) = [k.g, k.r, pageW k.p, dec k.e, fireW k.f] := by
  have hr := h
  unfold rightK at hr
  simp only [Bool.and_eq_true] at hr
  refine spl_jn5 _ _ _ _ _ (nameT_no hr.1.1) (nameT_no hr.1.2) ?_ (dec_no _) ?_
  · unfold pageW; split <;> decide
  · unfold fireW; split <;> decide
theorem readN_dec {n : Nat} (h : n < 340282366920938463463374607431768211456) : readN (dec n) = (n, 0) := by
  unfold readN
  rw [if_pos (okDec_dec n), undec_dec, if_pos h]
theorem pageW_eq (b : Bool) : (pageW b == [112, 97, 103, 101]) = b := by cases b <;> rfl
theorem fireW_eq (b : Bool) : (fireW b == [114, 101, 115, 111, 108, 118, 101]) = b := by cases b <;> rfl
theorem right_e {k : Ky} (h : rightK k = true) : k.e ≤ 4611686018427387904 := by
  unfold rightK at h
  simp only [Bool.and_eq_true, decide_eq_true_eq] at h
  exact h.2.2
theorem keyOf_print {k : Ky} (h : rightK k = true) : keyOf k.g k.r (pageW k.p) (dec k.e) (fireW k.f) = k := by
  have := right_e h
  unfold keyOf
  rw [readN_dec (by omega), pageW_eq, fireW_eq]
  simp only
  rw [Nat.mod_eq_of_lt (by omega)]
theorem goodK_print {k : Ky} (h : rightK k = true) : goodK k.g k.r (pageW k.p) (dec k.e) (fireW k.f) = true := by
  have := right_e h
  unfold goodK
  rw [keyOf_print h, readN_dec (by omega), pageW_eq, fireW_eq, h]
  simp only
  have hp : (k.p || pageW k.p == [116, 105, 99, 107, 101, 116]) = true := by cases k.p <;> rfl
  have hf : (k.f || fireW k.f == [102, 105, 114, 101]) = true := by cases k.f <;> rfl
  rw [hp, hf]
  simp; omega
/-- What is printed is read. -/
theorem read_print (k : Ky) : readK (printK k) = if rightK k = true then (k, true) else (kz, false) := by
  unfold printK
  split
  · rename_i h
    unfold readK
    rw [spl_print h]
    simp only
    rw [if_pos (goodK_print h), keyOf_print h]
  · rfl
theorem readN_ok {s : List UInt8} (h : (readN s).2 = 0) : dec (readN s).1 = s := by
  unfold readN at h ⊢
  split
  · rename_i hk
    rw [if_pos hk] at h
    split
    · exact dec_undec s hk
    · rename_i h2
      rw [if_neg h2] at h
      exact absurd h (by decide)
  · rename_i hk
    rw [if_neg hk] at h
    exact absurd h (by decide)
theorem print_keyOf {g r p e f : List UInt8} (h : goodK g r p e f = true) : printK (keyOf g r p e f) = jn [g, r, p, e, f] := by
  unfold goodK at h
  simp only [Bool.and_eq_true, decide_eq_true_eq, Bool.or_eq_true, beq_iff_eq] at h
  obtain ⟨⟨⟨⟨h1, h2⟩, h3⟩, h4⟩, h5⟩ := h
  unfold printK
  rw [if_pos h5]
  have e1 : dec (keyOf g r p e f).e = e := by
    show dec ((readN e).1 % 18446744073709551616) = e
    rw [Nat.mod_eq_of_lt (by omega)]; exact readN_ok h1
  have e2 : pageW (keyOf g r p e f).p = p := by
    show pageW (p == _) = p
    rcases h3 with rfl | rfl <;> rfl
  have e3 : fireW (keyOf g r p e f).f = f := by
    show fireW (f == _) = f
    rcases h4 with rfl | rfl <;> rfl
  rw [e1, e2, e3]; rfl
/-- The document's reading is the same. -/
theorem rread_eq (s : List UInt8) : rreadK s = readK s := by
  unfold rreadK readK
  have hj := jn_spl [] s
  rw [List.nil_append] at hj
  split
  · rename_i g r p e f hs
    rw [hs] at hj
    by_cases hg : goodK g r p e f = true
    · have hp := print_keyOf hg
      rw [hj] at hp
      have hg2 := hg
      unfold goodK at hg2
      simp only [Bool.and_eq_true, decide_eq_true_eq] at hg2
      rw [if_pos hg, if_pos ⟨hg2.1.1.1.2, hg2.2, hp⟩]
    · rw [if_neg hg, if_neg]
      rintro ⟨h1, h2, h3⟩
      apply hg
      have h4 := spl_print h2
      unfold printK at h3
      rw [if_pos h2] at h3
      rw [h3, hs] at h4
      obtain ⟨_, _, e3, e4, e5⟩ : g = (keyOf g r p e f).g ∧ r = (keyOf g r p e f).r ∧ p = pageW (keyOf g r p e f).p ∧ e = dec (keyOf g r p e f).e ∧ f = fireW (keyOf g r p e f).f := by simpa using h4
      have := goodK_print h2
      rw [← e3, ← e4, ← e5] at this
      exact this
  · rfl
theorem readK_print {s : List UInt8} (h : (readK s).2 = true) : printK (readK s).1 = s := by
  have hj := jn_spl [] s
  rw [List.nil_append] at hj
  unfold readK at h ⊢
  split at h
  · rename_i g r p e f hs
    rw [hs] at hj
    by_cases hg : goodK g r p e f = true
    · rw [if_pos hg]; rw [← hj]; exact print_keyOf hg
    · rw [if_neg hg] at h; cases h
  · cases h
theorem print_len (k : Ky) (hg : k.g.length ≤ 500) (hr : k.r.length ≤ 500) : (printK k).length ≤ 1100 := by
  unfold printK
  split
  · rename_i h
    have he := right_e h
    have hd := dec_len 19 k.e (by omega)
    rw [jn5]
    have hp : (pageW k.p).length ≤ 6 := by cases k.p <;> decide
    have hf : (fireW k.f).length ≤ 7 := by cases k.f <;> decide
    simp only [List.length_append, List.length_cons]
    omega
  · simp
end Go.Ai
set_option linter.unusedSimpArgs false
set_option linter.unusedVariables false
namespace Go.Ai
/-! ### Reading what was put, no program in sight -/
abbrev RS := Option (List UInt8)
def numOf (l : List UInt8) : Nat := l.foldl (fun a b => 256 * a + b.toNat) 0
def getN : RS → RS × Nat
  | some (k :: r) => if k.toNat ≤ 8 ∧ k.toNat ≤ r.length ∧ ¬ (0 < k.toNat ∧ r.headD 1 = 0) then (some (r.drop k.toNat), numOf (r.take k.toNat)) else (none, 0)
  | _ => (none, 0)
def countN (most : Nat) (s : RS) : RS × Nat := if (getN s).2 ≤ most then getN s else (none, 0)
def takeN (s : RS) (n : Nat) : RS × List UInt8 := match s with
  | some b => if n ≤ b.length then (some (b.drop n), b.take n) else (none, [])
  | none => (none, [])
def textN (most : Nat) (s : RS) : RS × List UInt8 := takeN (countN most s).1 (countN most s).2
def flagN : RS → RS × Bool
  | some (b :: r) => if b.toNat ≤ 1 then (some r, b == 1) else (none, false)
  | _ => (none, false)
def getK (s : RS) : RS × Ky :=
  let a := textN 96 s
  let b := textN 96 a.1
  let c := flagN b.1
  let d := getN c.1
  let e := flagN d.1
  let k : Ky := ⟨a.2, b.2, c.2, d.2, e.2⟩
  match e.1 with
  | some r => if rightK k = true then (some r, k) else (none, kz)
  | none => (none, kz)
theorem numOf_acc (l : List UInt8) (a : Nat) : l.foldl (fun a b => 256 * a + b.toNat) a = a * 256 ^ l.length + numOf l := by
  unfold numOf
  induction l generalizing a with
  | nil => simp
  | cons b r ih =>
    simp only [List.foldl_cons, List.length_cons]
    rw [ih (256 * a + b.toNat), ih (256 * 0 + b.toNat), Nat.pow_succ]
    simp only [Nat.add_mul, Nat.mul_zero, Nat.zero_add]
    rw [show 256 * a * 256 ^ r.length = a * (256 ^ r.length * 256) by ac_rfl]
    omega
theorem numOf_cons (b : UInt8) (r : List UInt8) : numOf (b :: r) = b.toNat * 256 ^ r.length + numOf r := by
  have := numOf_acc r (256 * 0 + b.toNat)
  simp only [Nat.mul_zero, Nat.zero_add] at this
  rw [← this]; simp [numOf]
theorem numOf_be (k n : Nat) : numOf (be k n) = n % 256 ^ k := by
  induction k with
  | zero => simp [be, numOf, Nat.mod_one]
  | succ k ih =>
    rw [be, numOf_cons, ih, be_len]
    have e : (UInt8.ofNat (n / 256 ^ k)).toNat = n / 256 ^ k % 256 := by simp
    rw [e, Nat.pow_succ, Nat.mod_mul, Nat.mul_comm (n / 256 ^ k % 256), Nat.add_comm]
theorem sz8_bounds (n : Nat) : n < 256 ^ sz8 n ∧ (n ≠ 0 → 256 ^ (sz8 n - 1) ≤ n) := by
  induction n using Nat.strongRecOn with
  | _ n ih =>
    by_cases h0 : n = 0
    · subst h0; rw [sz8_zero]; simp
    · rw [sz8_pos h0]
      obtain ⟨h1, h2⟩ := ih (n / 256) (by omega)
      refine ⟨by rw [Nat.pow_succ]; omega, fun _ => ?_⟩
      rw [Nat.add_sub_cancel]
      by_cases h3 : n / 256 = 0
      · rw [h3, sz8_zero]; simp; omega
      · have h4 := h2 h3
        rw [sz8_pos h3] at h4 ⊢
        rw [Nat.add_sub_cancel] at h4
        rw [Nat.pow_succ]; omega
theorem getN_put (n : Nat) (r : List UInt8) (hn : n < 18446744073709551616) : getN (some (numB n ++ r)) = (some r, n) := by
  have h8 := sz8_le8 n hn
  obtain ⟨h1, h2⟩ := sz8_bounds n
  have ek : (UInt8.ofNat (sz8 n)).toNat = sz8 n := by simp; omega
  unfold numB
  rw [List.cons_append, getN, ek, if_pos]
  · have e1 : List.drop (sz8 n) (be (sz8 n) n ++ r) = r := List.drop_left' (be_len _ _)
    have e2 : List.take (sz8 n) (be (sz8 n) n ++ r) = be (sz8 n) n := List.take_left' (be_len _ _)
    rw [e1, e2, numOf_be, Nat.mod_eq_of_lt h1]
  · refine ⟨h8, by rw [List.length_append, be_len]; omega, ?_⟩
    rintro ⟨h3, h4⟩
    cases hs : sz8 n with
    | zero => omega
    | succ k =>
      rw [hs] at h4 h1 h2
      simp only [be, List.cons_append, List.headD_cons] at h4
      have h0 : n ≠ 0 := by rintro rfl; rw [sz8_zero] at hs; cases hs
      have h5 := h2 h0
      rw [Nat.add_sub_cancel] at h5
      have h6 := congrArg UInt8.toNat h4
      simp only [UInt8.toNat_ofNat', UInt8.toNat_zero] at h6
      have h7 : n / 256 ^ k < 256 := by rw [Nat.div_lt_iff_lt_mul (Nat.pow_pos (by omega))]; rw [Nat.pow_succ] at h1; omega
      have h9 : 1 ≤ n / 256 ^ k := by rw [Nat.le_div_iff_mul_le (Nat.pow_pos (by omega))]; omega
      omega
theorem textN_put (s r : List UInt8) (h : s.length ≤ 96) : textN 96 (some (textB s ++ r)) = (some r, s) := by
  unfold textN countN textB
  rw [List.append_assoc, getN_put s.length _ (by omega)]
  simp only
  rw [if_pos h]
  simp only [takeN]
  rw [if_pos (by rw [List.length_append]; omega)]
  rw [List.drop_left' rfl, List.take_left' rfl]
theorem flagN_put (f : Bool) (r : List UInt8) : flagN (some (flagB f ++ r)) = (some r, f) := by
  cases f <;> rfl
theorem stepR_w (s : List UInt8) (i : Nat) : (stepR s i).2 ≤ 4 := by
  have hF : ∀ n r0 least, n ≤ 3 → (stepF s i n r0 least).2 ≤ 4 := by
    intro n r0 least hn
    unfold stepF; split
    · simp only; omega
    · simp
  unfold stepR
  simp only
  split
  · simp
  · split
    · exact hF _ _ _ (by omega)
    · split
      · exact hF _ _ _ (by omega)
      · split
        · exact hF _ _ _ (by omega)
        · simp
theorem runes_few (s : List UInt8) : ∀ (n i : Nat), s.length - i ≤ n → s.length - i ≤ 4 * (runesL s i).length
  | 0, i, h => by omega
  | n + 1, i, h => by
    by_cases hi : i < s.length
    · rw [runesL_in hi]
      have h1 := stepR_w s i
      have h2 := stepR_pos s i
      have := runes_few s n (i + (stepR s i).2) (by omega)
      simp only [List.length_cons]; omega
    · omega
theorem nameGo_few : ∀ (l : List Int) (n : Nat) (last : Int), nameGo n last l = true → n + l.length ≤ 24
  | [], n, last, h => by simp only [nameGo, Bool.and_eq_true, decide_eq_true_eq] at h; simp; omega
  | x :: l, n, last, h => by
    simp only [nameGo, Bool.and_eq_true] at h
    have := nameGo_few l _ _ h.2
    simp only [List.length_cons]; omega
theorem nameT_len {s : List UInt8} (h : nameT s = true) : s.length ≤ 96 := by
  have h1 := nameGo_few _ _ _ h
  have h2 := runes_few s s.length 0 (by omega)
  omega
/-- A right key is got as it was put. -/
theorem getK_put (k : Ky) (r : List UInt8) (h : rightK k = true) : getK (some (putK k ++ r)) = (some r, k) := by
  have hr := h
  unfold rightK at hr
  simp only [Bool.and_eq_true] at hr
  have l1 := nameT_len hr.1.1
  have l2 := nameT_len hr.1.2
  have he := right_e h
  unfold getK putK
  simp only [List.append_assoc]
  rw [textN_put _ _ l1]
  simp only
  rw [textN_put _ _ l2]
  simp only
  rw [flagN_put]
  simp only
  rw [getN_put _ _ (by omega)]
  simp only
  rw [flagN_put]
  simp only
  rw [if_pos h]
theorem putK_inj {a b : Ky} (ha : rightK a = true) (hb : rightK b = true) (h : putK a = putK b) : a = b := by
  have h1 := getK_put a [] ha
  have h2 := getK_put b [] hb
  rw [h, h2] at h1
  exact (Prod.mk.inj h1).2.symm
theorem printK_inj {a b : Ky} (ha : rightK a = true) (hb : rightK b = true) (h : printK a = printK b) : a = b := by
  have h1 := read_print a
  have h2 := read_print b
  rw [if_pos ha] at h1
  rw [if_pos hb, ← h, h1] at h2
  exact (Prod.mk.inj h2).1
end Go.Ai
set_option linter.unusedSimpArgs false
set_option linter.unusedVariables false
namespace Go.Ai
open Go.Proofs Go.RowKit
/-- A reader's cells. -/
def rdv : RS → List AV
  | some b => [.sl (byteRows b), .bool false]
  | none => [.sl [], .bool true]
theorem wbad_spec (st : RS) (d : Nat) (c : Id) (hc : c.isIt = false) (hd : c.isNw d = false) : SpH Tryd.prog gl 16 d ⟨[.ptr c 0], [(c, rdv st)], []⟩ ⟨.bool st.isNone, [(c, rdv st)], []⟩ := by
  refine h16 rfl ?_
  have hi := inn_notNw hd
  cases st with
  | none =>
    simp only [rdv]
    simp -implicitDefEqProofs [c16]
    refine postH_r ⟨?_, ?_, ?_, ?_, ?_, ?_⟩ <;> simp -implicitDefEqProofs [hi, hc]
  | some b =>
    simp only [rdv]
    generalize byteRows b = B
    simp -implicitDefEqProofs [c16]
    refine postH_r ⟨?_, ?_, ?_, ?_, ?_, ?_⟩ <;> simp -implicitDefEqProofs [hi, hc]
theorem wfail_spec (st : RS) (d : Nat) (c : Id) (hc : c.isIt = false) (hd : c.isNw d = false) : SpH Tryd.prog gl 86 d ⟨[.ptr c 0], [(c, rdv st)], []⟩ ⟨.tup [], [(c, rdv none)], []⟩ := by
  refine h86 rfl ?_
  have hi := inn_notNw hd
  cases st with
  | none =>
    simp only [rdv]
    simp -implicitDefEqProofs [c86]
    refine postH_n ⟨?_, ?_, ?_, ?_, ?_, ?_⟩ <;> simp -implicitDefEqProofs [hi, hc]
  | some b =>
    simp only [rdv]
    generalize byteRows b = B
    simp -implicitDefEqProofs [c86]
    refine postH_n ⟨?_, ?_, ?_, ?_, ?_, ?_⟩ <;> simp -implicitDefEqProofs [hi, hc]
set_option maxRecDepth 20000 in
theorem wtake_spec (st : RS) (n : Nat) (hl : ∀ b, st = some b → b.length ≤ 1000000) (hn : n < 18446744073709551616) (d : Nat) (c : Id) (hc : c.isIt = false) (hd : c.isNw d = false) :
    SpH Tryd.prog gl 85 d ⟨[.ptr c 0, u n], [(c, rdv st)], []⟩ ⟨.tup [.sl (byteRows (takeN st n).2), .bool (takeN st n).1.isSome], [(c, rdv (takeN st n).1)], []⟩ := by
  refine h85 rfl ?_
  have hi := inn_notNw hd
  have Bd := fun d' hd' => wbad_spec st d' (.up c) hc hd'
  have Fl := fun d' hd' => wfail_spec st d' (.up c) hc hd'
  cases st with
  | none =>
    simp only [takeN, rdv] at *
    simp -implicitDefEqProofs [c85]
    refine onH_mk _ _ (Bd 8 rfl) ⟨?_, ?_, ?_, ?_, ?_, ?_, ?_⟩ ?_
    iterate 7 (· simp -implicitDefEqProofs)
    simp -implicitDefEqProofs
    refine onH_mk _ _ (Fl 20 rfl) ⟨?_, ?_, ?_, ?_, ?_, ?_, ?_⟩ ?_
    iterate 7 (· simp -implicitDefEqProofs)
    simp -implicitDefEqProofs
    refine postH_r ⟨?_, ?_, ?_, ?_, ?_, ?_⟩ <;> simp -implicitDefEqProofs [hi, hc, byteRows]
  | some b =>
    have hb := hl b rfl
    have bl := byteRows_len b
    have one := byteRows_one b
    have t1 : IntKind.u64.wrap (b.length : Int) = b.length := by rw [wrap_u64] <;> omega
    by_cases g : n ≤ b.length
    · have g' : ¬ (b.length : Int) < n := by omega
      have g2 : (n : Int) ≤ b.length := by omega
      have g3 : ¬ b.length < n := by omega
      have e1 := byteRows_take b n
      have e2 := byteRows_drop b n
      have e3 : List.take b.length (byteRows b) = byteRows b := by rw [List.take_of_length_le (by omega)]
      simp only [takeN, rdv, g, if_true] at *
      generalize byteRows (b.take n) = B1 at *
      generalize byteRows (b.drop n) = B2 at *
      generalize byteRows b = B at *
      simp -implicitDefEqProofs [c85]
      refine onH_mk _ _ (Bd 8 rfl) ⟨?_, ?_, ?_, ?_, ?_, ?_, ?_⟩ ?_
      iterate 7 (· simp -implicitDefEqProofs)
      simp -implicitDefEqProofs [bl, t1, g', g2, g3, g, e1, e2, e3]
      refine ⟨one, postH_r ⟨?_, ?_, ?_, ?_, ?_, ?_⟩⟩ <;> simp -implicitDefEqProofs [hi, hc]
    · have g' : (b.length : Int) < n := by omega
      have g3 : b.length < n := by omega
      simp only [takeN, rdv, g, if_false] at *
      generalize byteRows b = B at *
      simp -implicitDefEqProofs [c85]
      refine onH_mk _ _ (Bd 8 rfl) ⟨?_, ?_, ?_, ?_, ?_, ?_, ?_⟩ ?_
      iterate 7 (· simp -implicitDefEqProofs)
      simp -implicitDefEqProofs [bl, t1, g', g3]
      refine onH_mk _ _ (Fl 20 rfl) ⟨?_, ?_, ?_, ?_, ?_, ?_, ?_⟩ ?_
      iterate 7 (· simp -implicitDefEqProofs)
      simp -implicitDefEqProofs
      refine postH_r ⟨?_, ?_, ?_, ?_, ?_, ?_⟩ <;> simp -implicitDefEqProofs [hi, hc, byteRows]
theorem numOf_take (r : List UInt8) (i : Nat) (h : i < r.length) : numOf (r.take (i + 1)) = 256 * numOf (r.take i) + r[i].toNat := by
  unfold numOf
  rw [List.take_succ_eq_append_getElem h, List.foldl_append]; rfl
theorem numOf_lt (r : List UInt8) : numOf r < 256 ^ r.length := by
  induction r with
  | nil => simp [numOf]
  | cons b r ih =>
    rw [numOf_cons, List.length_cons, Nat.pow_succ]
    have := b.toNat_lt
    have h2 : b.toNat * 256 ^ r.length ≤ 255 * 256 ^ r.length := Nat.mul_le_mul_right _ (by omega)
    omega
theorem shl8 (x : Nat) (h : x < 72057594037927936) : IntKind.u64.wrap ((x : Int) * 2 ^ (min 8 IntKind.u64.bits)) = ((x * 256 : Nat) : Int) := by
  have e : (2 : Int) ^ (min 8 IntKind.u64.bits) = 256 := by decide
  rw [e, wrap_u64] <;> omega
theorem or8 (x b : Nat) (h : x < 72057594037927936) (hb : b < 256) : bits BinOp.or IntKind.u64 ((x * 256 : Nat) : Int) (b : Int) = ((256 * x + b : Nat) : Int) := by
  rw [bits_or_u64_nat (x * 256) b (by omega) (by omega)]
  congr 1
  rw [show x * 256 = 2 ^ 8 * x by omega, ← Nat.two_pow_add_eq_or_of_lt (by omega)]
set_option maxRecDepth 20000 in
theorem wget_spec (st : RS) (hl : ∀ b, st = some b → b.length ≤ 1000000) (d : Nat) (c : Id) (hc : c.isIt = false) (hd : c.isNw d = false) :
    SpH Tryd.prog gl 87 d ⟨[.ptr c 0, .int .u8 0], [(c, rdv st)], []⟩ ⟨.tup [.int .u8 0, u (getN st).2], [(c, rdv (getN st).1)], []⟩ := by
  refine h87 rfl ?_
  have hi := inn_notNw hd
  have T1 := wtake_spec st 1 hl (by omega) 16 (.up c) hc rfl
  rcases st with _ | b
  · simp only [takeN, rdv, getN] at *
    simp -implicitDefEqProofs [c87]
    refine onH_mk _ _ T1 ⟨?_, ?_, ?_, ?_, ?_, ?_, ?_⟩ ?_
    iterate 7 (· simp -implicitDefEqProofs)
    simp -implicitDefEqProofs
    refine postH_r ⟨?_, ?_, ?_, ?_, ?_, ?_⟩ <;> simp -implicitDefEqProofs [hi, hc]
  rcases b with _ | ⟨k, r⟩
  · simp only [takeN, rdv, getN] at *
    simp -implicitDefEqProofs [c87]
    refine onH_mk _ _ T1 ⟨?_, ?_, ?_, ?_, ?_, ?_, ?_⟩ ?_
    iterate 7 (· simp -implicitDefEqProofs)
    simp -implicitDefEqProofs
    refine postH_r ⟨?_, ?_, ?_, ?_, ?_, ?_⟩ <;> simp -implicitDefEqProofs [hi, hc]
  have hr : r.length ≤ 1000000 := by have := hl _ rfl; simp at this; omega
  have e1 : takeN (some (k :: r)) 1 = (some r, [k]) := by simp [takeN]
  rw [e1] at T1
  simp only [rdv, Option.isSome_some] at T1
  rw [show byteRows [k] = [[.int .u8 k.toNat]] from rfl] at T1
  have T2 := wtake_spec (some r) k.toNat (fun b hb => by cases hb; exact hr) (by have := k.toNat_lt; omega) 39 (.up c) hc rfl
  have F2 := wfail_spec (some r) 34 (.up c) hc rfl
  have k256 : k.toNat < 256 := k.toNat_lt
  have a1 := and0_u8 k.toNat k256
  have a2 := andNot0_u8 k.toNat k256
  have w1 : IntKind.u64.wrap (k.toNat : Int) = k.toNat := by rw [wrap_u64] <;> omega
  generalize hkk : k.toNat = kk at *
  by_cases g8 : kk ≤ 8
  · have g8' : ¬ (8 : Int) < kk := by omega
    have g8n : ¬ 8 < kk := by omega
    by_cases gln : kk ≤ r.length
    · have e2 : takeN (some r) kk = (some (r.drop kk), r.take kk) := by simp [takeN, gln]
      rw [e2] at T2
      have F3 := wfail_spec (some (r.drop kk)) 55 (.up c) hc rfl
      simp only [rdv, Option.isSome_some] at T2 F3
      by_cases gz : 0 < kk ∧ r.headD 1 = 0
      · have eg : getN (some (k :: r)) = (none, 0) := by simp only [getN, hkk]; rw [if_neg (fun h => h.2.2 gz)]
        rw [eg]
        obtain ⟨r0, rr, rfl⟩ : ∃ r0 rr, r = r0 :: rr := by
          cases r with
          | nil => simp at gln; omega
          | cons a b => exact ⟨a, b, rfl⟩
        have r00 : r0 = 0 := gz.2
        obtain ⟨m, hm⟩ : ∃ m, kk = m + 1 := ⟨kk - 1, by omega⟩
        have e3 : byteRows (List.take kk (r0 :: rr)) = [.int .u8 0] :: byteRows (rr.take m) := by rw [hm, r00]; rfl
        rw [e3] at T2
        have p1 : (0 : Int) < kk := by omega
        have p2 : 0 < kk := gz.1
        simp only [rdv] at *
        generalize byteRows (rr.take m) = B1 at *
        generalize byteRows (List.drop kk (r0 :: rr)) = B2 at *
        generalize byteRows (r0 :: rr) = B3 at *
        generalize byteRows (k :: r0 :: rr) = B4 at *
        simp -implicitDefEqProofs [c87]
        refine onH_mk _ _ T1 ⟨?_, ?_, ?_, ?_, ?_, ?_, ?_⟩ ?_
        iterate 7 (· simp -implicitDefEqProofs)
        simp -implicitDefEqProofs [a1, a2, g8', g8n, w1]
        refine onH_mk _ _ T2 ⟨?_, ?_, ?_, ?_, ?_, ?_, ?_⟩ ?_
        iterate 7 (· simp -implicitDefEqProofs)
        simp -implicitDefEqProofs [p1, p2]
        refine onH_mk _ _ F3 ⟨?_, ?_, ?_, ?_, ?_, ?_, ?_⟩ ?_
        iterate 7 (· simp -implicitDefEqProofs)
        simp -implicitDefEqProofs
        refine postH_r ⟨?_, ?_, ?_, ?_, ?_, ?_⟩ <;> simp -implicitDefEqProofs [hi, hc]
      · have eg : getN (some (k :: r)) = (some (r.drop kk), numOf (r.take kk)) := by simp only [getN, hkk]; rw [if_pos ⟨g8, gln, gz⟩]
        rw [eg]
        obtain ⟨q, hq⟩ : ∃ q, q = r.take kk := ⟨_, rfl⟩
        have ql : q.length = kk := by rw [hq, List.length_take]; omega
        rw [← hq] at T2 ⊢
        have hz : 0 < kk → ∃ q0 qq, q = q0 :: qq ∧ ((q0.toNat : Int) == 0) = false := by
          intro h0
          cases r with
          | nil => simp at gln; omega
          | cons r0 rr =>
            obtain ⟨m, hm⟩ : ∃ m, kk = m + 1 := ⟨kk - 1, by omega⟩
            refine ⟨r0, rr.take m, by rw [hq, hm]; rfl, ?_⟩
            simp only [beq_eq_false_iff_ne, ne_eq]
            intro e
            exact gz ⟨h0, UInt8.toNat.inj (by simp only [List.headD_cons]; rw [show r0.toNat = 0 by omega]; rfl)⟩
        clear hq gz e2 F2 F3
        have loop : ∀ (K : AE → St → Prop) (e : List (Nat × AV)), lk e 0 = .ptr (.up c) 0 → lk e 8 = .int .u8 0 → lk e 10 = .sl (byteRows q) →
            (∀ e', lk e' 0 = .ptr (.up c) 0 → True) → wpA (SpH Tryd.prog gl) (AC.tl 8 c87) (postH d [.t 4, .t 5] ⟨.tup [.int .u8 0, u (numOf q)], [(c, [.sl (byteRows (r.drop kk)), .bool false])], []⟩) ⟨e, [(.up c, [.sl (byteRows (r.drop kk)), .bool false])], []⟩ := by
          intro K e l0 l8 l10 _
          have bl := byteRows_len q
          have bat := byteRows_at q
          simp only [c87, AC.tl]
          generalize byteRows (r.drop kk) = B2 at *
          generalize byteRows q = B1 at *
          simp -implicitDefEqProofs [l0, l8, l10, bl]
          refine wp_lpk (α := Nat) (fun i => ⟨[(0, .ptr (.up c) 0), (8, .int .u8 0), (11, u (numOf (q.take i))), (56, .sl B1), (57, i6 q.length), (58, i6 i)], [(.up c, [.sl B2, .bool false])], []⟩) (fun i => i ≤ q.length) (fun i => q.length - i) ?_ 0 ?_ ?_
          · rintro K i hK h1
            by_cases g : i < q.length
            · have b1 := bat i g
              have nt := numOf_take q i g
              have nl := numOf_lt (q.take i)
              rw [List.length_take, Nat.min_eq_left (by omega)] at nl
              have nl2 : numOf (q.take i) < 72057594037927936 := by
                refine Nat.lt_of_lt_of_le nl ?_
                exact Nat.le_trans (Nat.pow_le_pow_right (by omega) (show i ≤ 7 by omega)) (by decide)
              have t1 : IntKind.i64.wrap ((i : Int) + 1) = (i + 1 : Nat) := by rw [wrap_i64] <;> omega
              have fin : ∀ σ', Weak σ' ⟨[(0, .ptr (.up c) 0), (8, .int .u8 0), (11, u (numOf (q.take (i + 1)))), (56, .sl B1), (57, i6 q.length), (58, i6 (i + 1 : Nat))], [(.up c, [.sl B2, .bool false])], []⟩ → K σ' :=
                fun σ' hσ => hK (i + 1) σ' (by omega) (by omega) hσ
              obtain ⟨y, hy⟩ : ∃ y, q[i] = y := ⟨_, rfl⟩
              rw [hy] at b1 nt
              have y256 : y.toNat < 256 := y.toNat_lt
              have s8 := shl8 (numOf (q.take i)) nl2
              have o8 := or8 (numOf (q.take i)) y.toNat nl2 y256
              have w2 : IntKind.u64.wrap (y.toNat : Int) = y.toNat := by rw [wrap_u64] <;> omega
              rw [nt] at fin
              clear hK nt
              generalize numOf (q.take i) = x at *
              obtain ⟨z, hz⟩ : ∃ z : Nat, z = 256 * x + y.toNat := ⟨_, rfl⟩
              rw [← hz] at o8 fin
              obtain ⟨x8, hx8⟩ : ∃ x8 : Nat, x8 = x * 256 := ⟨_, rfl⟩
              rw [← hx8] at o8 s8
              have b1' : ∀ h, B1[i] = [.int .u8 y.toNat] := fun h => by rw [List.getElem?_eq_getElem h] at b1; exact Option.some.inj b1
              simp -implicitDefEqProofs [g, bl, b1', s8, w2, o8]
              refine fin _ (weak_mk ?_ ?_ ?_ ?_ ?_ ?_) <;> simp -implicitDefEqProofs [t1]
            · obtain rfl : i = q.length := by omega
              rw [List.take_length]
              generalize numOf q = x at *
              clear hK
              simp -implicitDefEqProofs
              refine postH_r ⟨?_, ?_, ?_, ?_, ?_, ?_⟩ <;> simp -implicitDefEqProofs [hi, hc]
          · exact Nat.zero_le _
          · refine weak_mk ?_ ?_ ?_ ?_ ?_ ?_ <;> simp -implicitDefEqProofs [numOf, l0, l8]
        have ec : c87 = AC.cutAt 8 (AC.tl 8 c87) c87 := rfl
        rw [ec]
        generalize AC.tl 8 c87 = t at loop ⊢
        have loop' := fun e l0 l8 l10 => loop (fun _ _ => True) e l0 l8 l10 (fun _ _ => trivial)
        clear loop
        simp only [c87, AC.cutAt]
        by_cases p2 : 0 < kk
        · have p1 : (0 : Int) < kk := by omega
          obtain ⟨q0, qq, rfl, hq0⟩ := hz p2
          rw [byteRows_cons] at T2 loop'
          simp only [rdv] at *
          generalize byteRows qq = B1 at *
          generalize byteRows (r.drop kk) = B2 at *
          generalize byteRows r = B3 at *
          generalize byteRows (k :: r) = B4 at *
          simp -implicitDefEqProofs
          refine onH_mk _ _ T1 ⟨?_, ?_, ?_, ?_, ?_, ?_, ?_⟩ ?_
          iterate 7 (· simp -implicitDefEqProofs)
          simp -implicitDefEqProofs [a1, a2, g8', g8n, w1]
          refine onH_mk _ _ T2 ⟨?_, ?_, ?_, ?_, ?_, ?_, ?_⟩ ?_
          iterate 7 (· simp -implicitDefEqProofs)
          simp -implicitDefEqProofs [p1, p2, hq0]
          refine loop' _ ?_ ?_ ?_ <;> simp -implicitDefEqProofs
        · have p1 : ¬ (0 : Int) < kk := by omega
          simp only [rdv] at *
          generalize byteRows q = B1 at *
          generalize byteRows (r.drop kk) = B2 at *
          generalize byteRows r = B3 at *
          generalize byteRows (k :: r) = B4 at *
          simp -implicitDefEqProofs
          refine onH_mk _ _ T1 ⟨?_, ?_, ?_, ?_, ?_, ?_, ?_⟩ ?_
          iterate 7 (· simp -implicitDefEqProofs)
          simp -implicitDefEqProofs [a1, a2, g8', g8n, w1]
          refine onH_mk _ _ T2 ⟨?_, ?_, ?_, ?_, ?_, ?_, ?_⟩ ?_
          iterate 7 (· simp -implicitDefEqProofs)
          simp -implicitDefEqProofs [p1, p2]
          refine loop' _ ?_ ?_ ?_ <;> simp -implicitDefEqProofs
    · have eg : getN (some (k :: r)) = (none, 0) := by simp only [getN, hkk]; rw [if_neg (fun h => gln h.2.1)]
      rw [eg]
      have e2 : takeN (some r) kk = (none, []) := by simp [takeN, gln]
      rw [e2] at T2
      have F3 := wfail_spec none 55 (.up c) hc rfl
      simp only [rdv, Option.isSome_none] at *
      generalize byteRows r = B3 at *
      generalize byteRows (k :: r) = B4 at *
      simp -implicitDefEqProofs [c87]
      refine onH_mk _ _ T1 ⟨?_, ?_, ?_, ?_, ?_, ?_, ?_⟩ ?_
      iterate 7 (· simp -implicitDefEqProofs)
      simp -implicitDefEqProofs [a1, a2, g8', g8n, w1]
      refine onH_mk _ _ T2 ⟨?_, ?_, ?_, ?_, ?_, ?_, ?_⟩ ?_
      iterate 7 (· simp -implicitDefEqProofs)
      simp -implicitDefEqProofs
      refine onH_mk _ _ F3 ⟨?_, ?_, ?_, ?_, ?_, ?_, ?_⟩ ?_
      iterate 7 (· simp -implicitDefEqProofs)
      simp -implicitDefEqProofs
      refine postH_r ⟨?_, ?_, ?_, ?_, ?_, ?_⟩ <;> simp -implicitDefEqProofs [hi, hc]
  · have g8' : (8 : Int) < kk := by omega
    have g8n : 8 < kk := by omega
    have eg : getN (some (k :: r)) = (none, 0) := by simp only [getN, hkk]; rw [if_neg (fun h => g8 h.1)]
    rw [eg]
    simp only [rdv] at *
    generalize byteRows r = B3 at *
    generalize byteRows (k :: r) = B4 at *
    simp -implicitDefEqProofs [c87]
    refine onH_mk _ _ T1 ⟨?_, ?_, ?_, ?_, ?_, ?_, ?_⟩ ?_
    iterate 7 (· simp -implicitDefEqProofs)
    simp -implicitDefEqProofs [a1, a2, g8', g8n]
    refine onH_mk _ _ F2 ⟨?_, ?_, ?_, ?_, ?_, ?_, ?_⟩ ?_
    iterate 7 (· simp -implicitDefEqProofs)
    simp -implicitDefEqProofs
    refine postH_r ⟨?_, ?_, ?_, ?_, ?_, ?_⟩ <;> simp -implicitDefEqProofs [hi, hc]
end Go.Ai
