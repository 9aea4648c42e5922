/- YtbepaingfmlpeaaOutlook2: part of the abstract interpreter library (values, rules, soundness against the model) or of what a function of the seat computes. Conditions: as each theorem says. -/
import Derived.Test.YtbepaingfmlpeaaOutlook
set_option linter.unusedSimpArgs false
set_option linter.unusedVariables false
namespace Go.Ai
open Go.Proofs
def hasL (s w : Nat) : List Bool := timesL [] (bitsOf s 128) (bitsOf w 128)
theorem hasL_len (s w : Nat) : (hasL s w).length ≤ 256 := by
  have := timesL_len [] (bitsOf s 128) (bitsOf w 128) (by simp)
  simp only [bitsOf_len] at this
  exact this
theorem hasL_val (s w : Nat) (hs : s < 340282366920938463463374607431768211456) (hw : w < 18446744073709551616) : val (hasL s w) = s * w := by
  unfold hasL
  rw [timesL_val, bitsOf_val128 _ hs, bitsOf_val128 _ (by omega)]
  simp [val]
theorem has_spec (s : Nat) (w : Int) (hs : s < 340282366920938463463374607431768211456) (h0 : 0 ≤ w) (hw : w < 9223372036854775808) : Sp Try.prog gl 35 [wide s, i6 w] (bl (hasL s w.toNat)) := by
  refine s35 rfl rfl ?_
  have B := bits_spec s hs
  have B2 := rbits23_spec w.toNat (by omega)
  have T := times_spec_l (bitsOf s 128) (bitsOf w.toNat 128) (by rw [bitsOf_len]; omega) (by rw [bitsOf_len]; omega)
  have w1 : IntKind.u64.wrap w = (w.toNat : Int) := by rw [wrap_u64] <;> omega
  unfold hasL
  generalize timesL [] (bitsOf s 128) (bitsOf w.toNat 128) = l1 at *
  generalize bitsOf s 128 = l2 at *
  generalize bitsOf w.toNat 128 = l3 at *
  unfold wide at *
  simp -implicitDefEqProofs [c35]
  refine onC_mk _ B ?_
  simp -implicitDefEqProofs
  rw [w1]
  refine onC_mk _ B2 ?_
  simp -implicitDefEqProofs [bl]
  refine onC_mk _ T ?_
  simp -implicitDefEqProofs [bl]
def usedL (n bad : Nat) : List Bool := timesL [] (timesL [] (bitsOf n 128) (bitsOf bad 128)) (bitsOf 1000000 128)
theorem usedL_len (n bad : Nat) : (usedL n bad).length ≤ 384 := by
  have := timesL_len [] (bitsOf n 128) (bitsOf bad 128) (by simp)
  have h2 := timesL_len [] (timesL [] (bitsOf n 128) (bitsOf bad 128)) (bitsOf 1000000 128) (by simp)
  simp only [bitsOf_len] at this h2
  unfold usedL
  omega
theorem usedL_val (n bad : Nat) (hs : n < 340282366920938463463374607431768211456) (hw : bad < 18446744073709551616) : val (usedL n bad) = n * bad * 1000000 := by
  unfold usedL
  rw [timesL_val, timesL_val, bitsOf_val128 _ hs, bitsOf_val128 _ (by omega), bitsOf_val128 _ (by omega)]
  simp [val]
theorem used_spec (n bad : Nat) (hs : n < 340282366920938463463374607431768211456) (hw : bad < 18446744073709551616) : Sp Try.prog gl 37 [wide n, u bad] (bl (usedL n bad)) := by
  refine s37 rfl rfl ?_
  have B := bits_spec n hs
  have B2 := rbits23_spec bad hw
  have B3 := rbits23_spec 1000000 (by omega)
  have l1 := timesL_len [] (bitsOf n 128) (bitsOf bad 128) (by simp)
  simp only [bitsOf_len] at l1
  have T := times_spec_l (bitsOf n 128) (bitsOf bad 128) (by rw [bitsOf_len]; omega) (by rw [bitsOf_len]; omega)
  have T2 := times_spec_l (timesL [] (bitsOf n 128) (bitsOf bad 128)) (bitsOf 1000000 128) (by omega) (by rw [bitsOf_len]; omega)
  clear l1
  unfold usedL
  generalize timesL [] (timesL [] (bitsOf n 128) (bitsOf bad 128)) (bitsOf 1000000 128) = l0 at *
  generalize timesL [] (bitsOf n 128) (bitsOf bad 128) = l1 at *
  generalize bitsOf n 128 = l2 at *
  generalize bitsOf bad 128 = l3 at *
  generalize bitsOf 1000000 128 = l4 at *
  unfold wide at *
  simp -implicitDefEqProofs [c37]
  refine onC_mk _ B ?_
  simp -implicitDefEqProofs
  refine onC_mk _ B2 ?_
  simp -implicitDefEqProofs [bl]
  refine onC_mk _ T ?_
  simp -implicitDefEqProofs
  refine onC_mk _ B3 ?_
  simp -implicitDefEqProofs [bl]
  refine onC_mk _ T2 ?_
  simp -implicitDefEqProofs [bl]
theorem ceil_parts (x d : Nat) (hd : 0 < d) : (x + d - 1) / d = if x % d = 0 then x / d else x / d + 1 := by
  have e := Nat.div_add_mod x d
  have hr := Nat.mod_lt x hd
  split
  · apply Nat.div_eq_of_lt_le
    · rw [Nat.mul_comm]; omega
    · rw [Nat.add_mul, Nat.mul_comm]; omega
  · apply Nat.div_eq_of_lt_le
    · rw [Nat.add_mul, Nat.mul_comm]; omega
    · rw [Nat.add_mul, Nat.add_mul, Nat.mul_comm]; omega
set_option maxRecDepth 10000 in
theorem rforecast_spec (b : Bool) (s bad : Nat) (w : Int) (hs : s < 340282366920938463463374607431768211456) (hb : bad < 18446744073709551616) (hw1 : -9223372036854775808 ≤ w) (hw2 : w < 9223372036854775808) :
    Sp Try.prog gl 33 [sgn b s, u bad, i6 w] (.tup [outw (outN b s bad w).1.1 (outN b s bad w).1.2, i6 (outN b s bad w).2]) := by
  refine s33 rfl rfl ?_
  by_cases c1 : w < 1
  · have e : outN b s bad w = ((0, 0), 8) := by unfold outN; rw [if_pos (.inl c1)]
    rw [e]
    unfold sgn
    simp -implicitDefEqProofs [c33, c1, outw]
  by_cases c2 : 34560000 < w
  · have e : outN b s bad w = ((0, 0), 8) := by unfold outN; rw [if_pos (.inr c2)]
    rw [e]
    unfold sgn
    simp -implicitDefEqProofs [c33, c1, c2, outw]
  have e0 : ¬ (w < 1 ∨ 34560000 < w) := by omega
  by_cases c3 : b = true ∨ s = 0
  · have e : outN b s bad w = ((0, 0), 0) := by unfold outN; rw [if_neg e0, if_pos c3]
    rw [e]
    unfold sgn at *
    rcases c3 with rfl | rfl
    · simp -implicitDefEqProofs [c33, c1, c2, outw]
    · cases b
      · simp -implicitDefEqProofs [c33, c1, c2, outw]
      · simp -implicitDefEqProofs [c33, c1, c2, outw]
  have hbf : b = false := by cases b; rfl; exact absurd (.inl rfl) c3
  have hsz : s ≠ 0 := fun h => c3 (.inr h)
  have bz : (((s / 18446744073709551616 : Nat) : Int) == 0 && ((s % 18446744073709551616 : Nat) : Int) == 0) = false := by
    have h := nz_iff s
    have : ¬ (s / 18446744073709551616 = 0 ∧ s % 18446744073709551616 = 0) := fun q => hsz (h.1 q)
    rw [Bool.and_eq_false_iff]
    simp only [beq_eq_false_iff_ne, ne_eq, Int.natCast_eq_zero]
    omega
  by_cases c4 : bad = 0
  · have e : outN b s bad w = ((1, 0), 0) := by unfold outN; rw [if_neg e0, if_neg c3, if_pos c4]
    rw [e]
    subst c4 hbf
    clear c3 e
    unfold sgn at *
    generalize s / 18446744073709551616 = s1 at *
    generalize s % 18446744073709551616 = s2 at *
    simp -implicitDefEqProofs [c33, c1, c2, outw, bz]
  have b4 : ((bad : Int) == 0) = false := by simp [c4]
  have H := has_spec s w hs (by omega) hw2
  have hl := hasL_len s w.toNat
  have hv := hasL_val s w.toNat hs (by omega)
  obtain ⟨h, hh⟩ : ∃ h, h = hasL s w.toNat := ⟨_, rfl⟩
  rw [← hh] at H hl hv
  clear hh
  have O := of_spec h (by omega)
  rw [hv] at O
  by_cases c5 : s * w.toNat < 340282366920938463463374607431768211456
  · have e : outN b s bad w = ((2, (s * w.toNat + bad * 1000000 - 1) / (bad * 1000000)), 0) := by unfold outN; rw [if_neg e0, if_neg c3, if_neg c4, if_pos c5]
    rw [e]
    rw [if_pos c5] at O
    have d0 : 0 < bad * 1000000 := Nat.mul_pos (by omega) (by omega)
    have B1 := rbits23_spec bad hb
    have B2 := rbits23_spec 1000000 (by omega)
    have T := times_spec_l (bitsOf bad 128) (bitsOf 1000000 128) (by rw [bitsOf_len]; omega) (by rw [bitsOf_len]; omega)
    have pl := prL_len bad 1000000
    have pv := prL_val bad 1000000 hb (by omega)
    unfold prL at pl pv
    obtain ⟨p, hp⟩ : ∃ p, p = timesL [] (bitsOf bad 128) (bitsOf 1000000 128) := ⟨_, rfl⟩
    rw [← hp] at T pl pv
    clear hp
    have D := divide_spec h p (by omega) (by omega) (by omega)
    rw [hv, pv] at D
    have cp := ceil_parts (s * w.toNat) (bad * 1000000) d0
    obtain ⟨Z, hZ⟩ : ∃ Z, Z = (s * w.toNat + bad * 1000000 - 1) / (bad * 1000000) := ⟨_, rfl⟩
    rw [← hZ] at cp ⊢
    have q1 : s * w.toNat / (bad * 1000000) ≤ s * w.toNat := Nat.div_le_self _ _
    have r1 : s * w.toNat % (bad * 1000000) ≤ s * w.toNat := Nat.mod_le _ _
    have hlt := val_lt h
    rw [hv] at hlt
    obtain ⟨q, hq⟩ : ∃ q, q = bitsOf (s * w.toNat / (bad * 1000000)) h.length := ⟨_, rfl⟩
    obtain ⟨r, hr⟩ : ∃ r, r = bitsOf (s * w.toNat % (bad * 1000000)) h.length := ⟨_, rfl⟩
    have qv : val q = s * w.toNat / (bad * 1000000) := by rw [hq, bitsOf_val, Nat.mod_eq_of_lt (by omega)]
    have rv : val r = s * w.toNat % (bad * 1000000) := by rw [hr, bitsOf_val, Nat.mod_eq_of_lt (by omega)]
    have ql : q.length ≤ 256 := by rw [hq, bitsOf_len]; omega
    have rl : r.length ≤ 256 := by rw [hr, bitsOf_len]; omega
    rw [← hq, ← hr] at D
    have C := compare_spec r [] (by omega) (by simp)
    rw [val_nil] at C
    have Oq := of_spec q (by omega)
    have Pl := plus_spec q [true] (by omega) (by simp)
    have plv := plusL_val q [true] false
    have pll := plusL_len q [true] false
    have Op := of_spec (plusL q [true] false) (by simp only [List.length_singleton] at pll; omega)
    rw [plv] at Op
    obtain ⟨q2, hq2⟩ : ∃ q2, q2 = plusL q [true] false := ⟨_, rfl⟩
    rw [← hq2] at Pl Op
    have v1 : val [true] = 1 := rfl
    rw [v1] at Op
    have hvw : wide (s * w.toNat) = .agg [u (s * w.toNat / 18446744073709551616), u (s * w.toNat % 18446744073709551616)] := rfl
    rw [hvw] at O
    by_cases c6 : val r = 0
    · rw [c6] at C
      have c0 : cmpN 0 0 = 0 := rfl
      rw [c0] at C
      have : val q = Z := by rw [cp, if_pos (by omega), qv]
      rw [this, if_pos (by omega)] at Oq
      clear hq hr hq2 hZ cp q1 r1 hlt qv rv plv pll Pl Op hv hvw c5 e this pv c6
      subst hbf
      unfold sgn outw wide at *
      generalize s * w.toNat / 18446744073709551616 = x1 at *
      generalize s * w.toNat % 18446744073709551616 = x2 at *
      generalize s / 18446744073709551616 = s1 at *
      generalize s % 18446744073709551616 = s2 at *
      generalize Z / 18446744073709551616 = z1 at *
      generalize Z % 18446744073709551616 = z2 at *
      generalize bitsOf bad 128 = l3 at *
      generalize bitsOf 1000000 128 = l4 at *
      simp -implicitDefEqProofs [c33, c1, c2, bz, b4]
      refine onC_mk _ H ?_
      simp -implicitDefEqProofs [bl]
      refine onC_mk _ O ?_
      simp -implicitDefEqProofs
      refine onC_mk _ B1 ?_
      simp -implicitDefEqProofs
      refine onC_mk _ B2 ?_
      simp -implicitDefEqProofs [bl]
      refine onC_mk _ T ?_
      simp -implicitDefEqProofs [bl]
      refine onC_mk _ D ?_
      simp -implicitDefEqProofs [bl]
      refine onC_mk _ C ?_
      simp -implicitDefEqProofs
      refine onC_mk _ Oq ?_
      simp -implicitDefEqProofs
    · have c0 : cmpN (val r) 0 = 1 := by unfold cmpN; rw [if_neg (by omega), if_neg c6]
      rw [c0] at C
      have : val q + 1 + false.toNat = Z := by rw [cp, if_neg (by omega), qv]; rfl
      have hZ2 : Z < 340282366920938463463374607431768211456 := by
        rw [cp, if_neg (by omega)]
        have := Nat.div_add_mod (s * w.toNat) (bad * 1000000)
        have h3 : s * w.toNat / (bad * 1000000) * 1 ≤ bad * 1000000 * (s * w.toNat / (bad * 1000000)) := by rw [Nat.mul_comm (bad * 1000000)]; exact Nat.mul_le_mul (Nat.le_refl _) d0
        omega
      rw [this, if_pos hZ2] at Op
      clear hq hr hq2 hZ hZ2 cp q1 r1 hlt qv rv plv pll Oq hv hvw c5 e this pv c6 c0
      subst hbf
      unfold sgn outw wide at *
      generalize s * w.toNat / 18446744073709551616 = x1 at *
      generalize s * w.toNat % 18446744073709551616 = x2 at *
      generalize s / 18446744073709551616 = s1 at *
      generalize s % 18446744073709551616 = s2 at *
      generalize Z / 18446744073709551616 = z1 at *
      generalize Z % 18446744073709551616 = z2 at *
      generalize bitsOf bad 128 = l3 at *
      generalize bitsOf 1000000 128 = l4 at *
      simp -implicitDefEqProofs [c33, c1, c2, bz, b4]
      refine onC_mk _ H ?_
      simp -implicitDefEqProofs [bl]
      refine onC_mk _ O ?_
      simp -implicitDefEqProofs
      refine onC_mk _ B1 ?_
      simp -implicitDefEqProofs
      refine onC_mk _ B2 ?_
      simp -implicitDefEqProofs [bl]
      refine onC_mk _ T ?_
      simp -implicitDefEqProofs [bl]
      refine onC_mk _ D ?_
      simp -implicitDefEqProofs [bl]
      refine onC_mk _ C ?_
      simp -implicitDefEqProofs
      refine onC_mk _ Pl ?_
      simp -implicitDefEqProofs [bl]
      refine onC_mk _ Op ?_
      simp -implicitDefEqProofs
  · have e : outN b s bad w = ((0, 0), 3) := by unfold outN; rw [if_neg e0, if_neg c3, if_neg c4, if_neg c5]
    rw [e]
    rw [if_neg c5] at O
    clear e c5 e0 hs hv
    have e4 : wide 0 = .agg [u 0, u 0] := rfl
    rw [e4] at O
    subst hbf
    clear c3
    unfold sgn wide at *
    generalize s / 18446744073709551616 = s1 at *
    generalize s % 18446744073709551616 = s2 at *
    simp -implicitDefEqProofs [c33, c1, c2, outw, bz, b4]
    refine onC_mk _ H ?_
    simp -implicitDefEqProofs [bl]
    refine onC_mk _ O ?_
    simp -implicitDefEqProofs
end Go.Ai
