/- YtbepaingfmlpeaaXRead: part of the abstract interpreter library (values, rules, soundness against the model) or of what a function of the seat computes. Conditions: as each theorem says. -/
import Derived.Test.YtbepaingfmlpeaaRune
set_option linter.unusedSimpArgs false
set_option linter.unusedVariables false
namespace Go.Ai
open Go.Proofs
theorem wrap_i32 {n : Int} (h1 : -2147483648 ≤ n) (h2 : n < 2147483648) : IntKind.i32.wrap n = n := by
  have e1 : (2 : Int) ^ 32 = 4294967296 := by decide
  have e2 : (2 : Int) ^ (32 - 1) = 2147483648 := by decide
  have : IntKind.i32.wrap n = if (true && decide (n % 2 ^ 32 ≥ 2 ^ (32 - 1))) = true then n % 2 ^ 32 - 2 ^ 32 else n % 2 ^ 32 := rfl
  rw [this]
  simp only [e1, e2, Bool.true_and, decide_eq_true_eq]
  split <;> omega
theorem foldl_mono10 (r : List UInt8) (a : Nat) : a ≤ r.foldl (fun a b => 10 * a + (b.toNat - 48)) a := by
  induction r generalizing a with
  | nil => exact Nat.le_refl _
  | cons x r ih => simp only [List.foldl_cons]; exact Nat.le_trans (by omega) (ih _)
theorem undec_take_le (s : List UInt8) (i : Nat) : undec (s.take i) ≤ undec s := by
  have h := foldl_mono10 (s.drop i) (undec (s.take i))
  have : undec s = (s.drop i).foldl (fun a b => 10 * a + (b.toNat - 48)) (undec (s.take i)) := by
    unfold undec
    rw [← List.foldl_append, List.take_append_drop]
  omega
set_option maxRecDepth 20000 in
theorem xread_spec (s : List UInt8) (hl : s.length ≤ 1000000) : Sp Try.prog gl 78 [.str s] (.tup [wide (readN s).1, i6 (readN s).2]) := by
  refine s78 rfl rfl ?_
  have e0 : wide 0 = .agg [u 0, u 0] := rfl
  have D := xdigits_spec s hl
  cases hok : okDec s with
  | false =>
    rw [hok] at D
    rw [readN_bad hok, e0]
    simp -implicitDefEqProofs [c78]
    refine onC_mk _ D ?_
    simp -implicitDefEqProofs
  | true =>
    rw [hok] at D
    have hall : s.all isDig = true := by
      unfold okDec at hok
      simp only [Bool.and_eq_true] at hok
      exact hok.1.2
    have res : readN s = if undec s < 340282366920938463463374607431768211456 then (undec s, 0) else (0, 3) := by unfold readN; rw [if_pos hok]
    have rbad : ¬ undec s < 340282366920938463463374607431768211456 → AV.tup [wide (readN s).1, i6 (readN s).2] = .tup [.agg [u 0, u 0], i6 3] := fun h => by rw [res, if_neg h, e0]; rfl
    have rgood : undec s < 340282366920938463463374607431768211456 → AV.tup [wide (readN s).1, i6 (readN s).2] = .tup [wide (undec s), i6 0] := fun h => by rw [res, if_pos h]; rfl
    clear res
    generalize AV.tup [wide (readN s).1, i6 (readN s).2] = R at *
    simp -implicitDefEqProofs [c78]
    refine onC_mk _ D ?_
    simp -implicitDefEqProofs
    refine wp_lpk (α := Nat) (fun i => ⟨[(0, .str s), (2, .ptr (.n 2) 0), (4, .ptr (.n 4) 0), (14, .itp 14)], [(.n 2, [u 0, u 0]), (.n 4, [u (undec (s.take i) / 18446744073709551616), u (undec (s.take i) % 18446744073709551616)]), (.it 14, [.itr s i])], []⟩)
      (fun i => i ≤ s.length ∧ undec (s.take i) < 340282366920938463463374607431768211456) (fun i => s.length - i) ?_ 0 ?_ ?_
    · rintro K i hK ⟨h1, h3⟩
      by_cases g : i < s.length
      · have hd : isDig s[i] = true := List.all_eq_true.1 hall _ (List.getElem_mem g)
        simp only [isDig, decide_eq_true_eq] at hd
        have ut := undec_take s i g
        have ul := undec_take_le s (i + 1)
        have r := rune_lo g (by omega)
        have fin : undec (s.take (i + 1)) < 340282366920938463463374607431768211456 → ∀ σ', Weak σ' ⟨[(0, .str s), (2, .ptr (.n 2) 0), (4, .ptr (.n 4) 0), (14, .itp 14)], [(.n 2, [u 0, u 0]), (.n 4, [u (undec (s.take (i + 1)) / 18446744073709551616), u (undec (s.take (i + 1)) % 18446744073709551616)]), (.it 14, [.itr s (i + 1)])], []⟩ → K σ' :=
          fun h σ' hσ => hK (i + 1) σ' ⟨by omega, h⟩ (by omega) hσ
        generalize undec (s.take (i + 1)) = n2 at *
        generalize undec (s.take i) = n1 at *
        obtain ⟨x, hsx⟩ : ∃ x, s[i] = x := ⟨_, rfl⟩
        simp only [hsx] at hd ut r
        obtain ⟨dg, hdg⟩ : ∃ dg, dg = x.toNat - 48 := ⟨_, rfl⟩
        rw [← hdg] at ut
        have w1 : IntKind.i32.wrap ((x.toNat : Int) - 48) = dg := by rw [wrap_i32] <;> omega
        have w2 : IntKind.u64.wrap (dg : Int) = dg := by rw [wrap_u64] <;> omega
        have M := xmore_spec n1 10 h3 (by omega)
        clear hK rgood
        by_cases o1 : n1 * 10 < 340282366920938463463374607431768211456
        · rw [if_pos o1] at M
          have A := xadd_spec (n1 * 10) dg o1 (by omega)
          have wd : wide dg = .agg [u 0, u dg] := by unfold wide; rw [Nat.div_eq_of_lt (by omega), Nat.mod_eq_of_lt (by omega)]
          rw [wd] at A
          have en : n1 * 10 + dg = n2 := by omega
          rw [en] at A
          by_cases o2 : n2 < 340282366920938463463374607431768211456
          · rw [if_pos o2] at A
            have fin := fin o2
            unfold wide at M A
            clear ut en ul rbad h3 o1 o2 hdg
            generalize n1 * 10 / 18446744073709551616 = a1 at *
            generalize n1 * 10 % 18446744073709551616 = a2 at *
            generalize n1 / 18446744073709551616 = b1 at *
            generalize n1 % 18446744073709551616 = b2 at *
            generalize n2 / 18446744073709551616 = d1 at *
            generalize n2 % 18446744073709551616 = d2 at *
            simp -implicitDefEqProofs [g, r]
            refine onC_mk _ M ?_
            simp -implicitDefEqProofs
            rw [w1, w2]
            refine onC_mk _ A ?_
            simp -implicitDefEqProofs
            refine fin _ ?_
            apply weak_mk <;> simp
          · rw [if_neg o2] at A
            have := rbad (by omega)
            subst this
            unfold wide at M A
            clear ut en ul rbad h3 o1 o2 hdg fin
            generalize n1 * 10 / 18446744073709551616 = a1 at *
            generalize n1 * 10 % 18446744073709551616 = a2 at *
            generalize n1 / 18446744073709551616 = b1 at *
            generalize n1 % 18446744073709551616 = b2 at *
            simp -implicitDefEqProofs [g, r]
            refine onC_mk _ M ?_
            simp -implicitDefEqProofs
            rw [w1, w2]
            refine onC_mk _ A ?_
            simp -implicitDefEqProofs
        · rw [if_neg o1] at M
          have := rbad (by omega)
          subst this
          unfold wide at M
          clear ut ul rbad h3 o1 hdg fin
          generalize n1 / 18446744073709551616 = b1 at *
          generalize n1 % 18446744073709551616 = b2 at *
          simp -implicitDefEqProofs [g, r]
          refine onC_mk _ M ?_
          simp -implicitDefEqProofs
      · obtain rfl : i = s.length := by omega
        rw [List.take_length] at h3 ⊢
        have := rgood h3
        subst this
        unfold wide
        clear hK rbad rgood
        generalize undec s / 18446744073709551616 = a1 at *
        generalize undec s % 18446744073709551616 = a2 at *
        simp -implicitDefEqProofs
    · simp [undec]
    · apply weak_mk <;> simp [undec]
end Go.Ai
