/- YtcdomokjdfmnlaaDoorP3: part of the abstract interpreter library (values, rules, soundness against the model) or of what a function of the seat computes. Conditions: as each theorem says. -/
import Derived.Test.YtcdomokjdfmnlaaDoorP1
import Derived.Test.YtcdomokjdfmnlaaDoorP2
set_option linter.unusedSimpArgs false
set_option linter.unusedVariables false
namespace Go.Ai
open Go.Proofs
end Go.Ai
set_option linter.unusedSimpArgs false
set_option linter.unusedVariables false
namespace Go.Ai
open Go.Proofs
set_option maxRecDepth 10000 in
theorem digits_spec (l : List Bool) (hl : l.length ≤ 100000) : Sp Tryd.prog gl 154 [bl l] (.str (dec (val l))) := by
  refine s154 rfl rfl ?_
  have B := bits_spec 10 (by omega)
  have e10 : wide 10 = .agg [u 0, u 10] := rfl
  rw [e10] at B
  have v10 : val (bitsOf 10 128) = 10 := bitsOf_val128 10 (by omega)
  have l10 : (bitsOf 10 128).length = 128 := bitsOf_len _ _
  have hlen : (dec (val l)).length ≤ l.length + 1 := dec_len _ _ (Nat.lt_of_lt_of_le (val_lt l) (Nat.le_trans (Nat.pow_le_pow_left (by omega) _) (Nat.pow_le_pow_right (by omega) (Nat.le_succ _))))
  obtain ⟨ten, ht⟩ : ∃ ten, ten = bitsOf 10 128 := ⟨_, rfl⟩
  rw [← ht] at B v10 l10
  clear ht
  obtain ⟨R, hR⟩ : ∃ R, R = dec (val l) := ⟨_, rfl⟩
  rw [← hR] at hlen ⊢
  simp -implicitDefEqProofs [c154]
  refine onC_mk _ B ?_
  simp -implicitDefEqProofs
  refine wp_lpk (α := List Bool × List UInt8) (fun x => ⟨[(0, bl x.1), (3, bl ten), (4, .str x.2)], [], []⟩) (fun x => x.1.length = l.length ∧ R = dec (val x.1) ++ x.2) (fun x => val x.1) ?_ (l, []) ?_ ?_
  · rintro K ⟨l', s⟩ hK ⟨h1, h2⟩
    simp only at h1 h2
    have hlt := val_lt l'
    have D := divide_spec l' ten (by omega) (by omega) (by omega)
    rw [v10] at D
    have q1 : val l' / 10 ≤ val l' := Nat.div_le_self _ _
    have r1 : val l' % 10 ≤ val l' := Nat.mod_le _ _
    have r2 : val l' % 10 < 10 := Nat.mod_lt _ (by omega)
    have qv : val (bitsOf (val l' / 10) l'.length) = val l' / 10 := by rw [bitsOf_val, Nat.mod_eq_of_lt (by omega)]
    have rv : val (bitsOf (val l' % 10) l'.length) = val l' % 10 := by rw [bitsOf_val, Nat.mod_eq_of_lt (by omega)]
    have ql := bitsOf_len (val l' / 10) l'.length
    have rl := bitsOf_len (val l' % 10) l'.length
    obtain ⟨q, hq⟩ : ∃ q, q = bitsOf (val l' / 10) l'.length := ⟨_, rfl⟩
    obtain ⟨r, hr⟩ : ∃ r, r = bitsOf (val l' % 10) l'.length := ⟨_, rfl⟩
    rw [← hq] at D qv ql
    rw [← hr] at D rv rl
    have O := of_spec r (by omega)
    rw [rv, if_pos (by omega)] at O
    obtain ⟨d, hd⟩ : ∃ d, d = val l' % 10 := ⟨_, rfl⟩
    rw [← hd] at O r2
    have wd : wide d = .agg [u 0, u d] := by unfold wide; rw [Nat.div_eq_of_lt (by omega), Nat.mod_eq_of_lt (by omega)]
    rw [wd] at O
    have C := compare_spec q [] (by omega) (by simp)
    rw [show val [] = 0 from rfl] at C
    have sl : s.length ≤ 100001 := by rw [h2] at hlen; simp at hlen; omega
    have w1 : IntKind.u8.wrap (d : Int) = d := wrap_u8 (by omega) (by omega)
    have w2 : IntKind.u8.wrap (48 + (d : Int)) = (48 + d : Nat) := by rw [wrap_u8] <;> omega
    have tn : (48 + (d : Int)).toNat = 48 + d := by omega
    have hs1 : 1 + s.length ≤ 9223372036854775807 := by omega
    by_cases g : val l' < 10
    · have q0 : val q = 0 := by rw [qv]; omega
      have c0 : cmpN 0 0 = 0 := rfl
      rw [q0, c0] at C
      have eR : R = UInt8.ofNat (48 + d) :: s := by rw [h2, dec_lt g, hd, Nat.mod_eq_of_lt g]; rfl
      clear hq hr hd h2 qv rv wd q1 r1 hlt q0 hR hK hlen
      subst eR
      simp -implicitDefEqProofs [bl]
      refine onC_mk _ D ?_
      simp -implicitDefEqProofs [bl]
      refine onC_mk _ O ?_
      simp -implicitDefEqProofs [bytesA, rowBytes, w1, w2, hs1]
      refine onC_mk _ C ?_
      simp -implicitDefEqProofs [tn]
    · have q0 : val q ≠ 0 := by rw [qv]; omega
      have c0 : cmpN (val q) 0 = 1 := by unfold cmpN; rw [if_neg (by omega), if_neg q0]
      rw [c0] at C
      have eR : R = dec (val q) ++ (UInt8.ofNat (48 + d) :: s) := by rw [h2, dec_ge g, hd, qv]; simp
      have fin : ∀ σ', Weak σ' ⟨[(0, bl q), (3, bl ten), (4, .str (UInt8.ofNat (48 + d) :: s))], [], []⟩ → K σ' :=
        fun σ' hσ => hK (q, UInt8.ofNat (48 + d) :: s) σ' ⟨by simp only; omega, eR⟩ (by simp only; omega) hσ
      clear hq hr hd h2 qv rv wd q1 r1 hlt q0 hR hK hlen eR
      simp -implicitDefEqProofs [bl]
      refine onC_mk _ D ?_
      simp -implicitDefEqProofs [bl]
      refine onC_mk _ O ?_
      simp -implicitDefEqProofs [bytesA, rowBytes, w1, w2, hs1]
      refine onC_mk _ C ?_
      simp -implicitDefEqProofs
      refine fin _ ?_
      apply weak_mk <;> simp [bl, tn]
  · simp [hR]
  · apply weak_mk <;> simp [bl]
end Go.Ai
set_option linter.unusedSimpArgs false
set_option linter.unusedVariables false
namespace Go.Ai
open Go.Proofs
def byteAv (b : UInt8) : AV := .int .u8 b.toNat
def bufC (k : Nat) (s : List UInt8) : List AV := List.replicate k (.int .u8 0) ++ s.map byteAv
theorem bufC_len (k : Nat) (s : List UInt8) : (bufC k s).length = k + s.length := by simp [bufC]
theorem bufC_set (j : Nat) (b : UInt8) (s : List UInt8) : List.take j (bufC (j + 1) s) ++ byteAv b :: List.drop (j + 1) (bufC (j + 1) s) = bufC j (b :: s) := by
  have h1 : List.take j (bufC (j + 1) s) = List.replicate j (.int .u8 0) := by
    unfold bufC; rw [List.replicate_succ', List.append_assoc, List.take_left' (by simp)]
  have h2 : List.drop (j + 1) (bufC (j + 1) s) = s.map byteAv := by unfold bufC; rw [List.drop_left' (by simp)]
  rw [h1, h2]; rfl
theorem idsL_bytes (s : List UInt8) : idsL (s.map byteAv) = [] := by
  induction s with
  | nil => rfl
  | cons x r ih => simp [idsL, byteAv, AV.ids, ih]
theorem idsL_app (a b : List AV) : idsL (a ++ b) = idsL a ++ idsL b := by
  induction a with
  | nil => rfl
  | cons x r ih => simp [idsL, ih]
theorem bufC_ids (k : Nat) (s : List UInt8) : idsL (bufC k s) = [] := by
  unfold bufC; rw [idsL_app, idsL_bytes, List.append_nil]
  induction k with
  | zero => rfl
  | succ k ih => simp [List.replicate_succ, idsL, AV.ids, ih]
theorem bytes_of (s : List UInt8) : byteCells (s.map byteAv) = some s := by
  induction s with
  | nil => rfl
  | cons x r ih => simp [byteCells, byteAv, ih]
theorem buf_bytes (k n : Nat) (s : List UInt8) (h : s.length ≤ n) : byteCells (((bufC k s).drop k).take n) = some s := by
  have : (bufC k s).drop k = s.map byteAv := by unfold bufC; rw [List.drop_left' (by simp)]
  rw [this, List.take_of_length_le (by simpa using h), bytes_of]
end Go.Ai
set_option linter.unusedSimpArgs false
set_option linter.unusedVariables false
namespace Go.Ai
open Go.Proofs
/-- A print read: the number; the error. -/
def readN (s : List UInt8) : Nat × Nat := if okDec s then (if undec s < 340282366920938463463374607431768211456 then (undec s, 0) else (0, 3)) else (0, 5)
theorem undec_take (s : List UInt8) (i : Nat) (h : i < s.length) : undec (s.take (i + 1)) = 10 * undec (s.take i) + ((s[i]).toNat - 48) := by
  rw [List.take_succ_eq_append_getElem h, undec_snoc]
theorem all_take (s : List UInt8) (i : Nat) (h : i < s.length) (hd : isDig s[i] = true) (ha : (s.take i).all isDig = true) : (s.take (i + 1)).all isDig = true := by
  rw [List.take_succ_eq_append_getElem h, List.all_append, ha]; simpa using hd
theorem readN_bad {s : List UInt8} (h : okDec s = false) : readN s = (0, 5) := by unfold readN; rw [h]; rfl
theorem all_bad {s : List UInt8} {i : Nat} (h : i < s.length) (hd : isDig s[i] = false) : okDec s = false := by
  unfold okDec
  have : s.all isDig = false := by
    rw [Bool.eq_false_iff]; intro h2
    rw [List.all_eq_true] at h2
    have := h2 s[i] (List.getElem_mem h)
    rw [hd] at this; cases this
  rw [this]; simp
def b2c : AV := .sl [[.bool false], [.bool true], [.bool false], [.bool true]]
theorem b2c_eq : b2c = bl [false, true, false, true] := rfl
theorem len_step (l a : List Bool) (x : Nat) (h : l.length ≤ x) (ha : a.length ≤ 128) (hx : 128 ≤ x) : (plusL (timesL [] l [false, true, false, true]) a false).length ≤ x + 5 := by
  have h1 := timesL_len [] l [false, true, false, true] (by simp)
  have h2 := plusL_len (timesL [] l [false, true, false, true]) a false
  simp only [List.length_cons, List.length_nil] at h1
  omega
theorem val_step (l : List Bool) (d : Nat) (hd : d < 256) : val (plusL (timesL [] l [false, true, false, true]) (bitsOf d 128) false) = 10 * val l + d := by
  rw [plusL_val, timesL_val, bitsOf_val128 _ (by omega), show val [false, true, false, true] = 10 from rfl, show val [] = 0 from rfl]
  simp; omega
set_option maxRecDepth 20000 in
/-- The second loop and what comes behind it. -/
theorem rread_t2 (s : List UInt8) (hl : s.length ≤ 39) (ha : s.all isDig = true) (e : List (Nat × AV)) (pm : List (Pl × Nat)) (h0 : lk e 0 = .str s) (h2 : lk e 2 = .ptr (.n 2) 0) :
    wpA (SpH Tryd.prog gl) (AC.tl 4 c113) (postA [.ca 2 2, .t 3] (if undec s < 340282366920938463463374607431768211456 then .tup [wide (undec s), i6 0] else .tup [wide 0, i6 3])) ⟨e, [(.n 2, [u 0, u 0])], pm⟩ := by
  obtain ⟨R, hR⟩ : ∃ R, R = (if undec s < 340282366920938463463374607431768211456 then AV.tup [wide (undec s), i6 0] else .tup [wide 0, i6 3]) := ⟨_, rfl⟩
  rw [← hR]
  simp only [c113, AC.tl]
  simp -implicitDefEqProofs [h0, h2]
  refine wp_lpk (α := Nat × List Bool) (fun x => ⟨[(0, .str s), (2, .ptr (.n 2) 0), (5, bl x.2), (6, bl [false, true, false, true]), (7, i6 x.1)], [(.n 2, [u 0, u 0])], []⟩)
    (fun x => x.1 ≤ s.length ∧ x.2.length ≤ 128 + 5 * x.1 ∧ val x.2 = undec (s.take x.1)) (fun x => s.length - x.1) ?_ (0, []) ?_ ?_
  · rintro K ⟨i, l⟩ hK ⟨h1, h3, h4⟩
    simp only at h1 h3 h4
    by_cases g : i < s.length
    · have hd : isDig s[i] = true := List.all_eq_true.1 ha _ (List.getElem_mem g)
      simp only [isDig, decide_eq_true_eq] at hd
      have ut := undec_take s i g
      obtain ⟨x, hx⟩ : ∃ x, x = s[i] := ⟨_, rfl⟩
      rw [← hx] at hd ut
      obtain ⟨d, hd'⟩ : ∃ d, d = x.toNat - 48 := ⟨_, rfl⟩
      rw [← hd'] at ut
      have T := times_spec_l l [false, true, false, true] (by omega) (by simp)
      have B := bits_spec d (by omega)
      have wd : wide d = .agg [u 0, u d] := by unfold wide; rw [Nat.div_eq_of_lt (by omega), Nat.mod_eq_of_lt (by omega)]
      rw [wd] at B
      have tl := timesL_len [] l [false, true, false, true] (by simp)
      simp only [List.length_cons, List.length_nil] at tl
      have Pl := plus_spec (timesL [] l [false, true, false, true]) (bitsOf d 128) (by omega) (by rw [bitsOf_len]; omega)
      have vs := val_step l d (by omega)
      have ls := len_step l (bitsOf d 128) (128 + 5 * i) h3 (by rw [bitsOf_len]; omega) (by omega)
      have t1 : IntKind.i64.wrap ((i : Int) + 1) = i + 1 := by rw [wrap_i64] <;> omega
      have w1 : IntKind.u64.wrap (x.toNat : Int) = x.toNat := by rw [wrap_u64] <;> omega
      have w2 : IntKind.u64.wrap ((x.toNat : Int) - 48) = d := by rw [wrap_u64] <;> omega
      generalize plusL (timesL [] l [false, true, false, true]) (bitsOf d 128) false = l2 at *
      generalize timesL [] l [false, true, false, true] = l3 at *
      generalize bitsOf d 128 = l4 at *
      have fin : ∀ σ', Weak σ' ⟨[(0, .str s), (2, .ptr (.n 2) 0), (5, bl l2), (6, bl [false, true, false, true]), (7, i6 (i + 1 : Nat))], [(.n 2, [u 0, u 0])], []⟩ → K σ' :=
        fun σ' hσ => hK (i + 1, l2) σ' ⟨by simp only; omega, by simp only; omega, by simp only; rw [vs, ut, h4]⟩ (by simp only; omega) hσ
      have gx : s[i]? = some x := by rw [hx]; exact List.getElem?_eq_getElem g
      clear hx hd' vs ls tl wd ut hK h4 hR
      simp -implicitDefEqProofs [bl, g]
      refine onC_mk _ T ?_
      simp -implicitDefEqProofs [gx, w1, w2]
      refine onC_mk _ B ?_
      simp -implicitDefEqProofs [bl]
      refine onC_mk _ Pl ?_
      simp -implicitDefEqProofs [bl]
      refine fin _ ?_
      apply weak_mk <;> simp [bl, t1]
    · obtain rfl : i = s.length := by omega
      rw [List.take_length] at h4
      have O := of_spec l (by omega)
      rw [h4] at O
      have e0 : wide 0 = .agg [u 0, u 0] := rfl
      by_cases q : undec s < 340282366920938463463374607431768211456
      · rw [if_pos q] at O hR
        subst hR
        unfold wide at *
        generalize undec s / 18446744073709551616 = a1 at *
        generalize undec s % 18446744073709551616 = a2 at *
        simp -implicitDefEqProofs [bl]
        refine onC_mk _ O ?_
        simp -implicitDefEqProofs
      · rw [if_neg q] at O hR
        subst hR
        rw [e0] at O ⊢
        simp -implicitDefEqProofs [bl]
        refine onC_mk _ O ?_
        simp -implicitDefEqProofs
  · simp [undec, val]
  · apply weak_mk <;> simp [bl, h0, h2]
theorem readN_over {s : List UInt8} (hok : okDec s = true) (h : 39 < s.length) : readN s = (0, 3) := by
  unfold readN
  rw [if_pos hok, if_neg]
  have h1 := okDec_big s hok (by omega)
  have h2 : 10 ^ 39 ≤ 10 ^ (s.length - 1) := Nat.pow_le_pow_right (by omega) (by omega)
  have h3 : (340282366920938463463374607431768211456 : Nat) ≤ 10 ^ 39 := by decide
  omega
set_option maxRecDepth 20000 in
theorem rread_t1 (s : List UInt8) (hl : s.length ≤ 1000000) (hz : s.headD 0 = 48 → s.length = 1) (hne : s ≠ []) (e : List (Nat × AV)) (pm : List (Pl × Nat)) (h0 : lk e 0 = .str s) (h2 : lk e 2 = .ptr (.n 2) 0) :
    wpA (SpH Tryd.prog gl) (AC.tl 2 c113) (postA [.ca 2 2, .t 3] (.tup [wide (readN s).1, i6 (readN s).2])) ⟨e, [(.n 2, [u 0, u 0])], pm⟩ := by
  have okd : s.all isDig = true → okDec s = true := by
    intro h
    unfold okDec
    rw [h]
    cases s with
    | nil => exact absurd rfl hne
    | cons x r =>
      by_cases hx : x = 48
      · have := hz hx; simp at this; simp [this]
      · simp [hx]
  have tail : ∀ e pm, s.length ≤ 39 → s.all isDig = true → lk e 0 = .str s → lk e 2 = .ptr (.n 2) 0 → wpA (SpH Tryd.prog gl) (AC.tl 4 c113) (postA [.ca 2 2, .t 3] (.tup [wide (readN s).1, i6 (readN s).2])) ⟨e, [(.n 2, [u 0, u 0])], pm⟩ := by
    intro e pm h39 ha h0 h2
    have := rread_t2 s h39 ha e pm h0 h2
    have er : (if undec s < 340282366920938463463374607431768211456 then AV.tup [wide (undec s), i6 0] else .tup [wide 0, i6 3]) = .tup [wide (readN s).1, i6 (readN s).2] := by
      unfold readN
      rw [if_pos (okd ha)]
      split <;> rfl
    rw [er] at this
    exact this
  have ec : AC.tl 2 c113 = AC.cutAt 2 (AC.tl 4 c113) (AC.tl 2 c113) := rfl
  rw [ec]
  generalize AC.tl 4 c113 = t at tail ⊢
  have e0 : wide 0 = .agg [u 0, u 0] := rfl
  have b5 : okDec s = false → AV.tup [wide (readN s).1, i6 (readN s).2] = .tup [.agg [u 0, u 0], i6 5] := fun h => by rw [readN_bad h, e0]; rfl
  have b3 : okDec s = true → 39 < s.length → AV.tup [wide (readN s).1, i6 (readN s).2] = .tup [.agg [u 0, u 0], i6 3] := fun h h' => by rw [readN_over h h', e0]; rfl
  generalize AV.tup [wide (readN s).1, i6 (readN s).2] = R at *
  simp only [c113, AC.tl, AC.cutAt]
  simp -implicitDefEqProofs [h0, h2]
  refine wp_lpk (α := Nat) (fun i => ⟨[(0, .str s), (2, .ptr (.n 2) 0), (4, i6 i)], [(.n 2, [u 0, u 0])], []⟩)
    (fun i => i ≤ s.length ∧ (s.take i).all isDig = true) (fun i => s.length - i) ?_ 0 ?_ ?_
  · rintro K i hK ⟨h1, h3⟩
    by_cases g : i < s.length
    · have t1 : IntKind.i64.wrap ((i : Int) + 1) = (i + 1 : Nat) := by rw [wrap_i64] <;> omega
      have fin : isDig s[i] = true → ∀ σ', Weak σ' ⟨[(0, .str s), (2, .ptr (.n 2) 0), (4, i6 (i + 1 : Nat))], [(.n 2, [u 0, u 0])], []⟩ → K σ' :=
        fun hd σ' hσ => hK (i + 1) σ' ⟨by omega, all_take s i g hd h3⟩ (by omega) hσ
      have bad : isDig s[i] = false → R = .tup [.agg [u 0, u 0], i6 5] := fun h => b5 (all_bad g h)
      have gx : s[i]? = some s[i] := List.getElem?_eq_getElem g
      obtain ⟨x, hx⟩ : ∃ x, s[i] = x := ⟨_, rfl⟩
      simp only [hx] at fin bad gx
      clear hK b5 b3 h3 tail
      by_cases x1 : (x.toNat : Int) < 48
      · have := bad (by simp only [isDig, decide_eq_false_iff_not]; omega)
        subst this
        simp -implicitDefEqProofs [g, hx, x1]
      · by_cases x2 : (57 : Int) < x.toNat
        · have := bad (by simp only [isDig, decide_eq_false_iff_not]; omega)
          subst this
          simp -implicitDefEqProofs [g, hx, x1, x2]
        · have fin := fin (by simp only [isDig, decide_eq_true_eq]; omega)
          simp -implicitDefEqProofs [g, hx, x1, x2]
          refine fin _ ?_
          apply weak_mk <;> simp [t1]
    · obtain rfl : i = s.length := by omega
      rw [List.take_length] at h3
      by_cases g2 : 39 < s.length
      · have := b3 (okd h3) g2
        subst this
        have g2' : (39 : Int) < (s.length : Int) := by omega
        simp -implicitDefEqProofs [g2, g2']
      · have g2' : ¬ (39 : Int) < (s.length : Int) := by omega
        have tl := fun e pm => tail e pm (by omega) h3
        clear hK b5 b3 h3 tail
        simp -implicitDefEqProofs [g2, g2']
        refine tl _ _ ?_ ?_ <;> simp -implicitDefEqProofs
  · simp
  · apply weak_mk <;> simp [h0, h2]
set_option maxRecDepth 20000 in
theorem rread_spec (s : List UInt8) (hl : s.length ≤ 1000000) : Sp Tryd.prog gl 113 [.str s] (.tup [wide (readN s).1, i6 (readN s).2]) := by
  refine s113 rfl rfl ?_
  have e0 : wide 0 = .agg [u 0, u 0] := rfl
  cases s with
  | nil =>
    rw [readN_bad rfl]
    simp only [e0]
    simp -implicitDefEqProofs [c113]
  | cons x r =>
    by_cases h1 : x = 48 ∧ 1 ≤ r.length
    · have : okDec (x :: r) = false := by
        unfold okDec
        obtain ⟨rfl, h1⟩ := h1
        have h2 : r ≠ [] := by intro e; rw [e] at h1; simp at h1
        simp [h2]
      rw [readN_bad this]
      simp only [e0]
      obtain ⟨rfl, h1⟩ := h1
      have h2 : (1 : Int) < (r.length : Int) + 1 := by omega
      simp -implicitDefEqProofs [c113, h2]
    · have T := rread_t1 (x :: r) hl (fun h => by
        simp at h
        simp
        exact Classical.byContradiction (fun hr => h1 ⟨h, List.length_pos_iff.2 hr⟩)) (by simp)
      have ec : c113 = AC.cutAt 2 (AC.tl 2 c113) c113 := rfl
      rw [ec]
      generalize AC.tl 2 c113 = t at T ⊢
      simp only [c113, AC.cutAt]
      generalize AV.tup [wide (readN (x :: r)).1, i6 (readN (x :: r)).2] = R at *
      by_cases hx : x = 48
      · have h3 : ¬ 1 ≤ r.length := fun h => h1 ⟨hx, h⟩
        have h2 : ¬ (1 : Int) < (r.length : Int) + 1 := by omega
        subst hx
        simp -implicitDefEqProofs [h2]
        refine T _ _ ?_ ?_ <;> simp -implicitDefEqProofs
      · have hx' : ((x.toNat : Int) == 48) = false := by
          rw [beq_eq_false_iff_ne]
          intro h; apply hx
          have : x.toNat = (48 : UInt8).toNat := by simp; omega
          exact UInt8.toNat_inj.1 this
        simp -implicitDefEqProofs [hx']
        refine T _ _ ?_ ?_ <;> simp -implicitDefEqProofs
end Go.Ai
set_option linter.unusedSimpArgs false
set_option linter.unusedVariables false
namespace Go.Ai
open Go.Proofs
/-! ### Runes -/
theorem get_at (s : List UInt8) (i : Nat) (h : i < s.length) : (ByteArray.mk s.toArray).get! (i + 0) = s[i] := by
  show (ByteArray.mk s.toArray).get! i = _
  simp [ByteArray.get!, getElem!_pos, h]
theorem rune_lo {s : List UInt8} {i : Nat} (h : i < s.length) (hb : s[i].toNat < 128) : runeAt s i = ((s[i].toNat : Int), 1) := by
  unfold runeAt Utf8.decode
  simp only [get_at s i h, hb, if_true]
theorem rune_hi {s : List UInt8} {i : Nat} (h : i < s.length) (hb : ¬ s[i].toNat < 128) : 128 ≤ (runeAt s i).1 := by
  unfold runeAt Utf8.decode
  simp only [get_at s i h, hb, if_false, Utf8.runeError]
  generalize (ByteArray.mk s.toArray).get! (i + 1) = x1
  generalize (ByteArray.mk s.toArray).get! (i + 2) = x2
  generalize (ByteArray.mk s.toArray).get! (i + 3) = x3
  generalize (s[i]).toNat = b at *
  split
  · split
    · simp only []; omega
    · simp only []; omega
  · split
    · split
      · rename_i h2; simp only [Bool.and_eq_true, decide_eq_true_eq] at h2; simp only []; omega
      · simp only []; omega
    · split
      · split
        · rename_i h2; simp only [Bool.and_eq_true, decide_eq_true_eq] at h2; simp only []; omega
        · simp only []; omega
      · simp only []; omega
theorem rune_pos {s : List UInt8} {i : Nat} : 1 ≤ (runeAt s i).2 := by
  unfold runeAt Utf8.decode
  simp only [Utf8.runeError]
  repeat' split
  all_goals (simp only []; omega)
set_option maxRecDepth 20000 in
theorem xdigits_spec (s : List UInt8) (hl : s.length ≤ 1000000) : Sp Tryd.prog gl 147 [.str s] (.bool (okDec s)) := by
  refine s147 rfl rfl ?_
  have bad : ∀ i (h : i < s.length), isDig s[i] = false → okDec s = false := fun i h => all_bad h
  have bad0 : s.headD 0 = 48 → 1 < s.length → okDec s = false := by
    intro h1 h2
    unfold okDec
    rw [h1]
    have : (s.length == 1) = false := by simp; omega
    rw [this]; simp
  have good : s ≠ [] → s.all isDig = true → (s.headD 0 = 48 → s.length = 1) → okDec s = true := by
    intro h1 h2 h3
    unfold okDec
    rw [h2]
    by_cases hx : s.headD 0 = 48
    · simp [h1, h3 hx]
    · have : (s.headD 0 != 48) = true := by simp only [bne_iff_ne, ne_eq]; exact hx
      rw [this]; simp [h1]
  have hnil : s = [] → okDec s = false := by rintro rfl; rfl
  have h1000 : s.headD 0 = (s[0]?).getD 0 := by cases s <;> rfl
  generalize okDec s = R at *
  simp -implicitDefEqProofs [c147]
  refine wp_lpk (α := Nat) (fun i => ⟨[(0, .str s), (6, .itp 6)], [(.it 6, [.itr s i])], []⟩)
    (fun i => i ≤ s.length ∧ (s.take i).all isDig = true ∧ (1 ≤ i → s.headD 0 = 48 → s.length = 1)) (fun i => s.length - i) ?_ 0 ?_ ?_
  · rintro K i hK ⟨h1, h3, h4⟩
    by_cases g : i < s.length
    · have fin : isDig s[i] = true → (i = 0 → s[i] = 48 → s.length = 1) → ∀ σ', Weak σ' ⟨[(0, .str s), (6, .itp 6)], [(.it 6, [.itr s (i + 1)])], []⟩ → K σ' :=
        fun hd h5 σ' hσ => hK (i + 1) σ' ⟨by omega, all_take s i g hd h3, fun _ hh => by
          by_cases hi : i = 0
          · subst hi
            refine h5 rfl ?_ 
            rw [h1000, List.getElem?_eq_getElem g] at hh
            simpa using hh
          · exact h4 (by omega) hh⟩ (by omega) hσ
      have bad := bad i g
      have rlo := rune_lo g
      have rhi := rune_hi g
      have bad0' : i = 0 → s[i] = 48 → 1 < s.length → R = false := by
        rintro rfl h5 h6
        refine bad0 ?_ h6
        rw [h1000, List.getElem?_eq_getElem g, h5]; rfl
      obtain ⟨x, hsx⟩ : ∃ x, s[i] = x := ⟨_, rfl⟩
      simp only [hsx] at fin bad rlo rhi bad0'
      clear hK bad0 good hnil h4 h3
      by_cases hx : x.toNat < 128
      · have r := rlo hx
        by_cases x1 : (x.toNat : Int) < 48
        · have := bad (by simp only [isDig, decide_eq_false_iff_not]; omega)
          subst this
          simp -implicitDefEqProofs [g, r, x1]
        · by_cases x2 : (57 : Int) < x.toNat
          · have := bad (by simp only [isDig, decide_eq_false_iff_not]; omega)
            subst this
            simp -implicitDefEqProofs [g, r, x1, x2]
          · have fin := fin (by simp only [isDig, decide_eq_true_eq]; omega)
            by_cases i0 : i = 0
            · subst i0
              by_cases x3 : x.toNat = 48
              · have x3' : x = 48 := UInt8.toNat_inj.1 (by rw [x3]; rfl)
                by_cases l1 : 1 < s.length
                · have := bad0' rfl x3' l1
                  subst this
                  have l1' : (1 : Int) < (s.length : Int) := by omega
                  have x3i : (x.toNat : Int) = 48 := by omega
                  simp -implicitDefEqProofs [g, r, x1, x2, x3i, l1']
                · have l1' : ¬ (1 : Int) < (s.length : Int) := by omega
                  have x3i : (x.toNat : Int) = 48 := by omega
                  have fin := fin (fun _ _ => by omega)
                  clear bad bad0'
                  simp -implicitDefEqProofs [g, r, x1, x2, x3i, l1']
                  refine fin _ ?_
                  apply weak_mk <;> simp
              · have x3' : ((x.toNat : Int) == 48) = false := by rw [beq_eq_false_iff_ne]; omega
                have fin := fin (fun _ h => absurd (by rw [h]; rfl) x3)
                simp -implicitDefEqProofs [g, r, x1, x2, x3']
                refine fin _ ?_
                apply weak_mk <;> simp
            · have i0' : ((i : Int) == 0) = false := by rw [beq_eq_false_iff_ne]; omega
              have fin := fin (fun h => absurd h i0)
              simp -implicitDefEqProofs [g, r, x1, x2, i0']
              refine fin _ ?_
              apply weak_mk <;> simp
      · have h128 := rhi hx
        have := bad (by simp only [isDig, decide_eq_false_iff_not]; omega)
        subst this
        obtain ⟨rr, hrr⟩ : ∃ rr, (runeAt s i).1 = rr := ⟨_, rfl⟩
        rw [hrr] at h128
        have x1 : ¬ rr < 48 := by omega
        have x2 : (57 : Int) < rr := by omega
        simp -implicitDefEqProofs [g, hrr, x1, x2]
    · obtain rfl : i = s.length := by omega
      rw [List.take_length] at h3
      clear hK bad bad0
      by_cases hs : s = []
      · have := hnil hs
        subst this; subst hs
        simp -implicitDefEqProofs
      · have := good hs h3 (h4 (List.length_pos_iff.2 hs))
        subst this
        simp -implicitDefEqProofs [hs]
  · simp
  · apply weak_mk <;> simp
end Go.Ai
set_option linter.unusedSimpArgs false
set_option linter.unusedVariables false
namespace Go.Ai
open Go.Proofs
theorem wrap_i32 {n : Int} (h1 : -2147483648 ≤ n) (h2 : n < 2147483648) : IntKind.i32.wrap n = n := by
  have e1 : (2 : Int) ^ 32 = 4294967296 := by decide
  have e2 : (2 : Int) ^ (32 - 1) = 2147483648 := by decide
  have : IntKind.i32.wrap n = if (true && decide (n % 2 ^ 32 ≥ 2 ^ (32 - 1))) = true then n % 2 ^ 32 - 2 ^ 32 else n % 2 ^ 32 := rfl
  rw [this]
  simp only [e1, e2, Bool.true_and, decide_eq_true_eq]
  split <;> omega
theorem foldl_mono10 (r : List UInt8) (a : Nat) : a ≤ r.foldl (fun a b => 10 * a + (b.toNat - 48)) a := by
  induction r generalizing a with
  | nil => exact Nat.le_refl _
  | cons x r ih => simp only [List.foldl_cons]; exact Nat.le_trans (by omega) (ih _)
theorem undec_take_le (s : List UInt8) (i : Nat) : undec (s.take i) ≤ undec s := by
  have h := foldl_mono10 (s.drop i) (undec (s.take i))
  have : undec s = (s.drop i).foldl (fun a b => 10 * a + (b.toNat - 48)) (undec (s.take i)) := by
    unfold undec
    rw [← List.foldl_append, List.take_append_drop]
  omega
set_option maxRecDepth 20000 in
theorem xread_spec (s : List UInt8) (hl : s.length ≤ 1000000) : Sp Tryd.prog gl 111 [.str s] (.tup [wide (readN s).1, i6 (readN s).2]) := by
  refine s111 rfl rfl ?_
  have e0 : wide 0 = .agg [u 0, u 0] := rfl
  have D := xdigits_spec s hl
  cases hok : okDec s with
  | false =>
    rw [hok] at D
    rw [readN_bad hok, e0]
    simp -implicitDefEqProofs [c111]
    refine onC_mk _ D ?_
    simp -implicitDefEqProofs
  | true =>
    rw [hok] at D
    have hall : s.all isDig = true := by
      unfold okDec at hok
      simp only [Bool.and_eq_true] at hok
      exact hok.1.2
    have res : readN s = if undec s < 340282366920938463463374607431768211456 then (undec s, 0) else (0, 3) := by unfold readN; rw [if_pos hok]
    have rbad : ¬ undec s < 340282366920938463463374607431768211456 → AV.tup [wide (readN s).1, i6 (readN s).2] = .tup [.agg [u 0, u 0], i6 3] := fun h => by rw [res, if_neg h, e0]; rfl
    have rgood : undec s < 340282366920938463463374607431768211456 → AV.tup [wide (readN s).1, i6 (readN s).2] = .tup [wide (undec s), i6 0] := fun h => by rw [res, if_pos h]; rfl
    clear res
    generalize AV.tup [wide (readN s).1, i6 (readN s).2] = R at *
    simp -implicitDefEqProofs [c111]
    refine onC_mk _ D ?_
    simp -implicitDefEqProofs
    refine wp_lpk (α := Nat) (fun i => ⟨[(0, .str s), (2, .ptr (.n 2) 0), (4, .ptr (.n 4) 0), (14, .itp 14)], [(.n 2, [u 0, u 0]), (.n 4, [u (undec (s.take i) / 18446744073709551616), u (undec (s.take i) % 18446744073709551616)]), (.it 14, [.itr s i])], []⟩)
      (fun i => i ≤ s.length ∧ undec (s.take i) < 340282366920938463463374607431768211456) (fun i => s.length - i) ?_ 0 ?_ ?_
    · rintro K i hK ⟨h1, h3⟩
      by_cases g : i < s.length
      · have hd : isDig s[i] = true := List.all_eq_true.1 hall _ (List.getElem_mem g)
        simp only [isDig, decide_eq_true_eq] at hd
        have ut := undec_take s i g
        have ul := undec_take_le s (i + 1)
        have r := rune_lo g (by omega)
        have fin : undec (s.take (i + 1)) < 340282366920938463463374607431768211456 → ∀ σ', Weak σ' ⟨[(0, .str s), (2, .ptr (.n 2) 0), (4, .ptr (.n 4) 0), (14, .itp 14)], [(.n 2, [u 0, u 0]), (.n 4, [u (undec (s.take (i + 1)) / 18446744073709551616), u (undec (s.take (i + 1)) % 18446744073709551616)]), (.it 14, [.itr s (i + 1)])], []⟩ → K σ' :=
          fun h σ' hσ => hK (i + 1) σ' ⟨by omega, h⟩ (by omega) hσ
        generalize undec (s.take (i + 1)) = n2 at *
        generalize undec (s.take i) = n1 at *
        obtain ⟨x, hsx⟩ : ∃ x, s[i] = x := ⟨_, rfl⟩
        simp only [hsx] at hd ut r
        obtain ⟨dg, hdg⟩ : ∃ dg, dg = x.toNat - 48 := ⟨_, rfl⟩
        rw [← hdg] at ut
        have w1 : IntKind.i32.wrap ((x.toNat : Int) - 48) = dg := by rw [wrap_i32] <;> omega
        have w2 : IntKind.u64.wrap (dg : Int) = dg := by rw [wrap_u64] <;> omega
        have M := xmore_spec n1 10 h3 (by omega)
        clear hK rgood
        by_cases o1 : n1 * 10 < 340282366920938463463374607431768211456
        · rw [if_pos o1] at M
          have A := xadd_spec (n1 * 10) dg o1 (by omega)
          have wd : wide dg = .agg [u 0, u dg] := by unfold wide; rw [Nat.div_eq_of_lt (by omega), Nat.mod_eq_of_lt (by omega)]
          rw [wd] at A
          have en : n1 * 10 + dg = n2 := by omega
          rw [en] at A
          by_cases o2 : n2 < 340282366920938463463374607431768211456
          · rw [if_pos o2] at A
            have fin := fin o2
            unfold wide at M A
            clear ut en ul rbad h3 o1 o2 hdg
            generalize n1 * 10 / 18446744073709551616 = a1 at *
            generalize n1 * 10 % 18446744073709551616 = a2 at *
            generalize n1 / 18446744073709551616 = b1 at *
            generalize n1 % 18446744073709551616 = b2 at *
            generalize n2 / 18446744073709551616 = d1 at *
            generalize n2 % 18446744073709551616 = d2 at *
            simp -implicitDefEqProofs [g, r]
            refine onC_mk _ M ?_
            simp -implicitDefEqProofs
            rw [w1, w2]
            refine onC_mk _ A ?_
            simp -implicitDefEqProofs
            refine fin _ ?_
            apply weak_mk <;> simp
          · rw [if_neg o2] at A
            have := rbad (by omega)
            subst this
            unfold wide at M A
            clear ut en ul rbad h3 o1 o2 hdg fin
            generalize n1 * 10 / 18446744073709551616 = a1 at *
            generalize n1 * 10 % 18446744073709551616 = a2 at *
            generalize n1 / 18446744073709551616 = b1 at *
            generalize n1 % 18446744073709551616 = b2 at *
            simp -implicitDefEqProofs [g, r]
            refine onC_mk _ M ?_
            simp -implicitDefEqProofs
            rw [w1, w2]
            refine onC_mk _ A ?_
            simp -implicitDefEqProofs
        · rw [if_neg o1] at M
          have := rbad (by omega)
          subst this
          unfold wide at M
          clear ut ul rbad h3 o1 hdg fin
          generalize n1 / 18446744073709551616 = b1 at *
          generalize n1 % 18446744073709551616 = b2 at *
          simp -implicitDefEqProofs [g, r]
          refine onC_mk _ M ?_
          simp -implicitDefEqProofs
      · obtain rfl : i = s.length := by omega
        rw [List.take_length] at h3 ⊢
        have := rgood h3
        subst this
        unfold wide
        clear hK rbad rgood
        generalize undec s / 18446744073709551616 = a1 at *
        generalize undec s % 18446744073709551616 = a2 at *
        simp -implicitDefEqProofs
    · simp [undec]
    · apply weak_mk <;> simp [undec]
end Go.Ai
