/- YtbepaingfmlpeaaRef02: part of the abstract interpreter library (values, rules, soundness against the model) or of what a function of the seat computes. Conditions: as each theorem says. -/
import Derived.Test.YtbepaingfmlpeaaRef01c
import Derived.Test.YtbepaingfmlpeaaLedger
set_option linter.unusedSimpArgs false
set_option linter.unusedVariables false
namespace Go.Ai
open Go.Proofs
/-- Two lists of bits as a number. -/
theorem to_spec (a b : List Bool) (ha : a.length ≤ 1000) (hb : b.length ≤ 1000) (h : ((val a : Int) - val b).natAbs < 340282366920938463463374607431768211456) :
    Sp Try.prog gl 62 [.agg [bl a, bl b]] (.tup [sgi ((val a : Int) - val b), .bool true]) := by
  refine s62 rfl rfl ?_
  have C := compare_spec a b (by omega) (by omega)
  have hcc : cmpN (val a) (val b) < 0 ↔ val a < val b := by
    unfold cmpN; split
    · omega
    · split <;> omega
  obtain ⟨cc, hc⟩ : ∃ cc, cc = cmpN (val a) (val b) := ⟨_, rfl⟩
  rw [← hc] at C hcc
  by_cases g : val a < val b
  · have P := pad_spec b a.length (by omega) (by omega)
    obtain ⟨p, hp⟩ : ∃ p, p = bitsOf (val b) (max b.length a.length) := ⟨_, rfl⟩
    have pl : p.length ≤ 1000 := by rw [hp, bitsOf_len]; omega
    have pv : val p = val b := by rw [hp, bitsOf_val, Nat.mod_eq_of_lt (Nat.lt_of_lt_of_le (val_lt b) (Nat.pow_le_pow_right (by omega) (by omega)))]
    rw [← hp] at P
    have M := minus_le p a (by omega) (by omega) (by omega)
    rw [pv] at M
    obtain ⟨q, hq⟩ : ∃ q, q = bitsOf (val b - val a) p.length := ⟨_, rfl⟩
    have ql : q.length ≤ 1000 := by rw [hq, bitsOf_len]; omega
    have qv : val q = val b - val a := by rw [hq, bitsOf_val, Nat.mod_eq_of_lt]; have := val_lt p; omega
    rw [← hq] at M
    have O := of_spec q (by omega)
    rw [qv, if_pos (by omega)] at O
    have e : sgi ((val a : Int) - val b) = sgn true (val b - val a) := by
      unfold sgi; rw [decide_eq_true (by omega), show ((val a : Int) - val b).natAbs = val b - val a by omega]
    rw [e]
    have gc := hcc.2 g
    unfold sgn wide at *
    generalize (val b - val a) / 18446744073709551616 = d1 at *
    generalize (val b - val a) % 18446744073709551616 = d2 at *
    clear e hq hp hc hcc pv qv h
    simp -implicitDefEqProofs [c62, bl]
    refine onC_mk _ C ?_
    simp -implicitDefEqProofs [gc]
    refine onC_mk _ P ?_
    simp -implicitDefEqProofs [bl]
    refine onC_mk _ M ?_
    simp -implicitDefEqProofs [bl]
    refine onC_mk _ O ?_
    simp -implicitDefEqProofs [gc]
  · have P := pad_spec a b.length (by omega) (by omega)
    obtain ⟨p, hp⟩ : ∃ p, p = bitsOf (val a) (max a.length b.length) := ⟨_, rfl⟩
    have pl : p.length ≤ 1000 := by rw [hp, bitsOf_len]; omega
    have pv : val p = val a := by rw [hp, bitsOf_val, Nat.mod_eq_of_lt (Nat.lt_of_lt_of_le (val_lt a) (Nat.pow_le_pow_right (by omega) (by omega)))]
    rw [← hp] at P
    have M := minus_le p b (by omega) (by omega) (by omega)
    rw [pv] at M
    obtain ⟨q, hq⟩ : ∃ q, q = bitsOf (val a - val b) p.length := ⟨_, rfl⟩
    have ql : q.length ≤ 1000 := by rw [hq, bitsOf_len]; omega
    have qv : val q = val a - val b := by rw [hq, bitsOf_val, Nat.mod_eq_of_lt]; have := val_lt p; omega
    rw [← hq] at M
    have O := of_spec q (by omega)
    rw [qv, if_pos (by omega)] at O
    have e : sgi ((val a : Int) - val b) = sgn false (val a - val b) := by
      unfold sgi; rw [decide_eq_false (by omega), show ((val a : Int) - val b).natAbs = val a - val b by omega]
    rw [e]
    have gc : ¬ cc < 0 := fun h => g (hcc.1 h)
    unfold sgn wide at *
    generalize (val a - val b) / 18446744073709551616 = d1 at *
    generalize (val a - val b) % 18446744073709551616 = d2 at *
    clear e hq hp hc hcc pv qv h
    simp -implicitDefEqProofs [c62, bl]
    refine onC_mk _ C ?_
    simp -implicitDefEqProofs [gc]
    refine onC_mk _ P ?_
    simp -implicitDefEqProofs [bl]
    refine onC_mk _ M ?_
    simp -implicitDefEqProofs [bl]
    refine onC_mk _ O ?_
    simp -implicitDefEqProofs [gc]
end Go.Ai
