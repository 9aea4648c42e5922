/- YtbepaingfmlpeaaOutlook3: part of the abstract interpreter library (values, rules, soundness against the model) or of what a function of the seat computes. Conditions: as each theorem says. -/
import Derived.Test.YtbepaingfmlpeaaOutlook2
set_option linter.unusedSimpArgs false
set_option linter.unusedVariables false
namespace Go.Ai
open Go.Proofs
theorem lv_out : outN false 600000000 2 100 = ((2, 30000), 0) := by kernel_rfl
set_option maxRecDepth 20000 in
theorem awake24_spec : Sp Try.prog gl 31 [] (.bool true) := by
  refine s31 rfl rfl ?_
  have F := forecast_spec false 600000000 2 100 (by omega) (by omega) (by omega) (by omega)
  rw [lv_out] at F
  have e1 : sgn false 600000000 = sg2 false 0 600000000 := rfl
  have e2 : outw (2, 30000).1 (2, 30000).2 = outl 2 0 30000 := rfl
  rw [e1] at F
  simp only at F
  have e2 : outw 2 30000 = outl 2 0 30000 := rfl
  rw [e2] at F
  simp -implicitDefEqProofs [c31]
  refine onC_mk _ F ?_
  simp -implicitDefEqProofs
theorem least_law (x d : Nat) (hd : 0 < d) (hx : 0 < x) : 0 < (x + d - 1) / d ∧ x ≤ (x + d - 1) / d * d ∧ ((x + d - 1) / d - 1) * d < x := by
  have e := Nat.div_add_mod (x + d - 1) d
  have hr := Nat.mod_lt (x + d - 1) hd
  obtain ⟨q, hq⟩ : ∃ q, q = (x + d - 1) / d := ⟨_, rfl⟩
  obtain ⟨r, hr'⟩ : ∃ r, r = (x + d - 1) % d := ⟨_, rfl⟩
  rw [← hq, ← hr'] at e
  rw [← hr'] at hr
  rw [← hq]
  have q0 : 0 < q := by rw [hq]; exact Nat.div_pos (by omega) hd
  refine ⟨q0, ?_, ?_⟩
  · rw [Nat.mul_comm]; omega
  · rw [Nat.sub_mul, Nat.one_mul, Nat.mul_comm]; omega
theorem out_cases (b : Bool) (s bad : Nat) (w : Int) :
    (∃ c, c ≠ 0 ∧ outN b s bad w = ((0, 0), c)) ∨ (outN b s bad w = ((0, 0), 0)) ∨ (outN b s bad w = ((1, 0), 0)) ∨
    (1 ≤ w ∧ w ≤ 34560000 ∧ 0 < s ∧ 0 < bad ∧ s * w.toNat < 340282366920938463463374607431768211456 ∧ outN b s bad w = ((2, (s * w.toNat + bad * 1000000 - 1) / (bad * 1000000)), 0)) := by
  unfold outN
  split
  · exact .inl ⟨8, by omega, rfl⟩
  · split
    · exact .inr (.inl rfl)
    · split
      · exact .inr (.inr (.inl rfl))
      · split
        · rename_i h1 h2 h3 h4
          refine .inr (.inr (.inr ⟨by omega, by omega, ?_, by omega, h4, rfl⟩))
          have : ¬ s = 0 := fun h => h2 (.inr h)
          omega
        · exact .inl ⟨3, by omega, rfl⟩
set_option maxRecDepth 10000 in
theorem outlookLeast_spec (b : Bool) (hi lo bad : Nat) (w : Int) (h1 : hi < 18446744073709551616) (h2 : lo < 18446744073709551616) (hb : bad < 18446744073709551616) (hw1 : -9223372036854775808 ≤ w) (hw2 : w < 9223372036854775808) :
    Sp Try.prog gl 10 [sg2 b hi lo, u bad, i6 w] (.bool true) := by
  obtain ⟨s, hs'⟩ : ∃ s, s = hi * 18446744073709551616 + lo := ⟨_, rfl⟩
  have hs : s < 340282366920938463463374607431768211456 := by omega
  have ehi : hi = s / 18446744073709551616 := by omega
  have elo : lo = s % 18446744073709551616 := by omega
  have F := forecast_spec b s bad w hs hb hw1 hw2
  have G := rforecast_spec b s bad w hs hb hw1 hw2
  refine s10 rfl rfl ?_
  have esg : sgn b s = sg2 b hi lo := by unfold sgn; rw [← ehi, ← elo]
  rw [esg] at F G
  rcases out_cases b s bad w with ⟨c, c0, e⟩ | e | e | ⟨k1, k2, k3, k4, k5, e⟩
  · rw [e] at F G
    have e0 : outw 0 0 = outl 0 0 0 := rfl
    simp only [e0] at F G
    have R := oright_spec 0 0 0
    have cz : ((c : Int) != 0) = true := by simp [c0]
    clear hs' ehi elo esg e
    simp -implicitDefEqProofs [c10]
    refine onC_mk _ awake24_spec ?_
    simp -implicitDefEqProofs
    refine onC_mk _ F ?_
    simp -implicitDefEqProofs
    refine onC_mk _ G ?_
    simp -implicitDefEqProofs
    refine onC_mk _ R ?_
    simp -implicitDefEqProofs [cz]
  · rw [e] at F G
    have e0 : outw 0 0 = outl 0 0 0 := rfl
    simp only [e0] at F G
    have R := oright_spec 0 0 0
    clear hs' ehi elo esg e
    simp -implicitDefEqProofs [c10]
    refine onC_mk _ awake24_spec ?_
    simp -implicitDefEqProofs
    refine onC_mk _ F ?_
    simp -implicitDefEqProofs
    refine onC_mk _ G ?_
    simp -implicitDefEqProofs
    refine onC_mk _ R ?_
    simp -implicitDefEqProofs
  · rw [e] at F G
    have e0 : outw 1 0 = outl 1 0 0 := rfl
    simp only [e0] at F G
    have R := oright_spec 1 0 0
    clear hs' ehi elo esg e
    simp -implicitDefEqProofs [c10]
    refine onC_mk _ awake24_spec ?_
    simp -implicitDefEqProofs
    refine onC_mk _ F ?_
    simp -implicitDefEqProofs
    refine onC_mk _ G ?_
    simp -implicitDefEqProofs
    refine onC_mk _ R ?_
    simp -implicitDefEqProofs
  · rw [e] at F G
    simp only at F G
    have d0 : 0 < bad * 1000000 := Nat.mul_pos k4 (by omega)
    have x0 : 0 < s * w.toNat := Nat.mul_pos k3 (by omega)
    obtain ⟨n0, n1, n2⟩ := least_law (s * w.toNat) (bad * 1000000) d0 x0
    have cp := ceil_parts (s * w.toNat) (bad * 1000000) d0
    obtain ⟨n, hn⟩ : ∃ n, n = (s * w.toNat + bad * 1000000 - 1) / (bad * 1000000) := ⟨_, rfl⟩
    rw [← hn] at F G n0 n1 n2
    have hnl : n < 340282366920938463463374607431768211456 := by
      have : (n - 1) * 1 ≤ (n - 1) * (bad * 1000000) := Nat.mul_le_mul (Nat.le_refl _) d0
      omega
    clear cp hn
    have H := has_spec s w hs (by omega) hw2
    have hv := hasL_val s w.toNat hs (by omega)
    have hl := hasL_len s w.toNat
    have U1 := used_spec n bad hnl hb
    have U2 := used_spec (n - 1) bad (by omega) hb
    have u1v := usedL_val n bad hnl hb
    have u2v := usedL_val (n - 1) bad (by omega) hb
    have u1l := usedL_len n bad
    have u2l := usedL_len (n - 1) bad
    have C1 := compare_spec (usedL n bad) (hasL s w.toNat) (by omega) (by omega)
    have C2 := compare_spec (usedL (n - 1) bad) (hasL s w.toNat) (by omega) (by omega)
    rw [hv, u1v, Nat.mul_assoc] at C1
    rw [hv, u2v, Nat.mul_assoc] at C2
    have q1 : 0 ≤ cmpN (n * (bad * 1000000)) (s * w.toNat) := (cmpN_ge _ _).2 n1
    have q2 : cmpN ((n - 1) * (bad * 1000000)) (s * w.toNat) < 0 := by unfold cmpN; rw [if_pos n2]; omega
    obtain ⟨m, hm⟩ : ∃ m, m = n / 18446744073709551616 := ⟨_, rfl⟩
    obtain ⟨l, hl'⟩ : ∃ l, l = n % 18446744073709551616 := ⟨_, rfl⟩
    have eow : outw 2 n = outl 2 m l := by unfold outw; rw [hm, hl']
    have ewn : wide n = .agg [u m, u l] := by unfold wide; rw [hm, hl']
    have ews : wide s = .agg [u hi, u lo] := by unfold wide; rw [ehi, elo]
    have ml : m < 18446744073709551616 := by omega
    have ll : l < 18446744073709551616 := by omega
    rw [eow] at F G
    rw [ewn] at U1
    rw [ews] at H
    have R := oright_spec 2 m l
    have nz : ¬ (m = 0 ∧ l = 0) := by omega
    rw [if_neg (by omega), decide_eq_true ⟨rfl, nz⟩] at R
    have less : (l = 0 ∧ wide (n - 1) = .agg [u (m - 1), u 18446744073709551615] ∧ 0 < m) ∨ (0 < l ∧ wide (n - 1) = .agg [u m, u (l - 1)]) := by
      unfold wide
      rcases Nat.eq_zero_or_pos l with h | h
      · refine .inl ⟨h, ?_, by omega⟩
        rw [show (n - 1) / 18446744073709551616 = m - 1 by omega, show (n - 1) % 18446744073709551616 = 18446744073709551615 by omega]
      · refine .inr ⟨h, ?_⟩
        rw [show (n - 1) / 18446744073709551616 = m by omega, show (n - 1) % 18446744073709551616 = l - 1 by omega]
    obtain ⟨cc1, hc1⟩ : ∃ cc1, cc1 = cmpN (n * (bad * 1000000)) (s * w.toNat) := ⟨_, rfl⟩
    obtain ⟨cc2, hc2⟩ : ∃ cc2, cc2 = cmpN ((n - 1) * (bad * 1000000)) (s * w.toNat) := ⟨_, rfl⟩
    rw [← hc1] at C1 q1
    rw [← hc2] at C2 q2
    generalize usedL n bad = p1 at *
    generalize usedL (n - 1) bad = p2 at *
    generalize hasL s w.toNat = p3 at *
    clear hc1 hc2 hs' ehi elo esg e u1v u2v hv n1 n2 k5 x0 d0 eow ewn ews hm hl'
    rcases less with ⟨l0, le, m0⟩ | ⟨l0, le⟩
    · rw [le] at U2
      subst l0
      clear le
      have w1 : IntKind.u64.wrap ((m : Int) - 1) = (m - 1 : Nat) := by rw [wrap_u64] <;> omega
      have w2 : IntKind.u64.wrap (-1) = 18446744073709551615 := by decide
      simp -implicitDefEqProofs [c10]
      refine onC_mk _ awake24_spec ?_
      simp -implicitDefEqProofs
      refine onC_mk _ F ?_
      simp -implicitDefEqProofs
      refine onC_mk _ G ?_
      simp -implicitDefEqProofs
      refine onC_mk _ R ?_
      simp -implicitDefEqProofs
      refine onC_mk _ H ?_
      simp -implicitDefEqProofs [bl]
      refine onC_mk _ U1 ?_
      simp -implicitDefEqProofs [bl]
      refine onC_mk _ C1 ?_
      simp -implicitDefEqProofs [q1]
      rw [w1, w2]
      refine onC_mk _ U2 ?_
      simp -implicitDefEqProofs [bl]
      refine onC_mk _ C2 ?_
      simp -implicitDefEqProofs [q2]
    · rw [le] at U2
      clear le
      have w1 : IntKind.u64.wrap ((l : Int) - 1) = (l - 1 : Nat) := by rw [wrap_u64] <;> omega
      have lz : ((l : Int) == 0) = false := by simp; omega
      simp -implicitDefEqProofs [c10]
      refine onC_mk _ awake24_spec ?_
      simp -implicitDefEqProofs
      refine onC_mk _ F ?_
      simp -implicitDefEqProofs
      refine onC_mk _ G ?_
      simp -implicitDefEqProofs
      refine onC_mk _ R ?_
      simp -implicitDefEqProofs [lz]
      refine onC_mk _ H ?_
      simp -implicitDefEqProofs [bl, lz]
      refine onC_mk _ U1 ?_
      simp -implicitDefEqProofs [bl]
      refine onC_mk _ C1 ?_
      simp -implicitDefEqProofs [q1]
      rw [w1]
      refine onC_mk _ U2 ?_
      simp -implicitDefEqProofs [bl]
      refine onC_mk _ C2 ?_
      simp -implicitDefEqProofs [q2]
end Go.Ai
