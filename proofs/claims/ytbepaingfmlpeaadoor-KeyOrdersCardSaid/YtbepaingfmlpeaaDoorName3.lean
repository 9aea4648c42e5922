/- YtbepaingfmlpeaaDoorName3: part of the abstract interpreter library (values, rules, soundness against the model) or of what a function of the seat computes. Conditions: as each theorem says. -/
import Derived.Test.YtbepaingfmlpeaaDoorName2
set_option linter.unusedSimpArgs false
set_option linter.unusedVariables false
namespace Go.Ai
open Go.Proofs
theorem runesL_len (s : List UInt8) : ∀ (n i : Nat), s.length - i ≤ n → (runesL s i).length ≤ n
  | 0, i, h => by rw [runesL_out (by omega)]; simp
  | n + 1, i, h => by
    by_cases hi : i < s.length
    · rw [runesL_in hi]
      have := stepR_pos s i
      have := runesL_len s n (i + (stepR s i).2) (by omega)
      simp only [List.length_cons]; omega
    · rw [runesL_out hi]; simp
theorem stepR_lt {s : List UInt8} {i : Nat} (h : i < s.length) : i + (stepR s i).2 ≤ s.length + 3 := by
  have hF : ∀ n r0 least, n ≤ 3 → (stepF s i n r0 least).2 ≤ 4 := by
    intro n r0 least hn
    unfold stepF; split
    · simp only; omega
    · simp
  have h1 := hF 1 (byt s i - 192) 128 (by omega)
  have h2 := hF 2 (byt s i - 224) 2048 (by omega)
  have h3 := hF 3 (byt s i - 240) 65536 (by omega)
  unfold stepR
  simp only
  split
  · simp only; omega
  · split
    · omega
    · split
      · omega
      · split
        · omega
        · simp only; omega
set_option maxRecDepth 20000 in
theorem runes_spec (s : List UInt8) (hl : s.length ≤ 900000) : Sp Tryd.prog gl 50 [.str s] (.sl (runeRows (runesL s 0))) := by
  refine s50 rfl rfl ?_
  have hlim : lim = 140737488355328 := rfl
  have ec : c50 = AC.cutIn [1, 1, 1, 0, 2, 2, 1, 2, 1, 1, 1, 1] rsT c50 := rfl
  rw [ec]
  have T := fun i n r0 least out => rsT_spec s i n r0 least out
  generalize rsT = t at T ⊢
  simp only [c50, AC.cutIn]
  obtain ⟨R, hR⟩ : ∃ R, runesL s 0 = R := ⟨_, rfl⟩
  rw [hR]
  simp -implicitDefEqProofs
  refine wp_lpk (α := Nat × List Int) (fun x => ⟨[(0, .str s), (3, .sl (runeRows x.2)), (4, i6 x.1)], [], [(.s 3, 1)]⟩)
    (fun x => x.1 ≤ s.length + 3 ∧ x.2.length ≤ x.1 ∧ x.2 ++ runesL s x.1 = R) (fun x => s.length + 4 - x.1) ?_ (0, []) ?_ ?_
  · rintro K ⟨i, out⟩ hK ⟨h1, h2, h3⟩
    simp only at h1 h2 h3
    by_cases g : i < s.length
    · have st := runes_step g h3
      have sl := stepR_lt g
      have sp := stepR_pos s i
      have fin : ∀ σ', Weak σ' ⟨[(0, .str s), (3, .sl (runeRows (out ++ [(stepR s i).1]))), (4, i6 (i + (stepR s i).2 : Nat))], [], [(.s 3, 1)]⟩ → K σ' :=
        fun σ' hσ => hK (i + (stepR s i).2, out ++ [(stepR s i).1]) σ' ⟨by simp only; omega, by simp only [List.length_append, List.length_cons, List.length_nil]; omega, st⟩ (by simp only; omega) hσ
      have hb := byt_at g
      have hx255 := byt_lt s i
      have er : stepR s i = (if byt s i < 128 then ((byt s i : Int), 1) else if 192 ≤ byt s i ∧ byt s i < 224 then stepF s i 1 (byt s i - 192) 128 else if 224 ≤ byt s i ∧ byt s i < 240 then stepF s i 2 (byt s i - 224) 2048 else if 240 ≤ byt s i ∧ byt s i < 248 then stepF s i 3 (byt s i - 240) 65536 else (-1, 1)) := rfl
      rw [hb] at er hx255
      obtain ⟨y, hy⟩ : ∃ y, s[i] = y := ⟨_, rfl⟩
      rw [hy] at er hx255
      have w0 : IntKind.i32.wrap (y.toNat : Int) = y.toNat := by rw [wrap_i32'] <;> omega
      have T' := fun n r0 least hn h32 Q => T i n r0 least out (by omega) hn h32 (by omega) (by omega) Q
      have one := runeRows_one out
      have rl := runeRows_len out
      have hw : (out.length + 1) * 4 ≤ 140737488355328 := by omega
      clear hK st hb T h3 sl sp
      by_cases x1 : (y.toNat : Int) < 128
      · have x1n : y.toNat < 128 := by omega
        rw [if_pos x1n] at er
        rw [er] at fin
        have t1 : IntKind.i64.wrap ((i : Int) + 1) = (i + 1 : Nat) := by rw [wrap_i64] <;> omega
        simp only [runeRows_snoc] at fin
        clear er
        generalize runeRows out = L at *
        simp -implicitDefEqProofs [g, hy, w0, x1, hlim, rl]
        refine ⟨hw, one, fin _ (weak_mk ?_ ?_ ?_ ?_ ?_ ?_)⟩ <;> simp -implicitDefEqProofs [t1]
      · have x1n : ¬ y.toNat < 128 := by omega
        rw [if_neg x1n] at er
        by_cases c1 : (192 : Int) ≤ y.toNat ∧ (y.toNat : Int) < 224
        · have c1n : 192 ≤ y.toNat ∧ y.toNat < 224 := by omega
          rw [if_pos c1n] at er
          have eg : stepG s i 1 (y.toNat - 192) 128 = stepR s i := by rw [er]; rfl
          have T' := T' 1 (y.toNat - 192) 128 (by omega) (.inr (by omega))
          rw [eg] at T'
          have w1 : IntKind.i32.wrap ((y.toNat : Int) - 192) = (y.toNat - 192 : Nat) := by rw [wrap_i32'] <;> omega
          clear er eg
          generalize (stepR s i).1 = s1 at *
          generalize (stepR s i).2 = s2 at *
          simp -implicitDefEqProofs [g, hy, w0, x1, c1.1, c1.2]
          refine T' _ ?_ _ ?_ ?_ ?_ ?_ ?_ ?_
          · rintro e (rfl | rfl) σ' hσ
            · simp -implicitDefEqProofs; exact fin _ hσ
            · simp -implicitDefEqProofs; exact fin _ hσ
          all_goals simp -implicitDefEqProofs [w1]
        · have c1n : ¬ (192 ≤ y.toNat ∧ y.toNat < 224) := by omega
          rw [if_neg c1n] at er
          by_cases c2 : (224 : Int) ≤ y.toNat ∧ (y.toNat : Int) < 240
          · have c2n : 224 ≤ y.toNat ∧ y.toNat < 240 := by omega
            rw [if_pos c2n] at er
            have eg : stepG s i 2 (y.toNat - 224) 2048 = stepR s i := by rw [er]; rfl
            have T' := T' 2 (y.toNat - 224) 2048 (by omega) (.inr (by omega))
            rw [eg] at T'
            have w1 : IntKind.i32.wrap ((y.toNat : Int) - 224) = (y.toNat - 224 : Nat) := by rw [wrap_i32'] <;> omega
            have c3 : (192 : Int) ≤ y.toNat := by omega
            have c4 : ¬ (y.toNat : Int) < 224 := by omega
            clear er eg
            generalize (stepR s i).1 = s1 at *
            generalize (stepR s i).2 = s2 at *
            simp -implicitDefEqProofs [g, hy, w0, x1, c2.1, c2.2, c3, c4]
            refine T' _ ?_ _ ?_ ?_ ?_ ?_ ?_ ?_
            · rintro e (rfl | rfl) σ' hσ
              · simp -implicitDefEqProofs; exact fin _ hσ
              · simp -implicitDefEqProofs; exact fin _ hσ
            all_goals simp -implicitDefEqProofs [w1]
          · have c2n : ¬ (224 ≤ y.toNat ∧ y.toNat < 240) := by omega
            rw [if_neg c2n] at er
            by_cases c5 : (240 : Int) ≤ y.toNat ∧ (y.toNat : Int) < 248
            · have c5n : 240 ≤ y.toNat ∧ y.toNat < 248 := by omega
              rw [if_pos c5n] at er
              have eg : stepG s i 3 (y.toNat - 240) 65536 = stepR s i := by rw [er]; rfl
              have T' := T' 3 (y.toNat - 240) 65536 (by omega) (.inr (by omega))
              rw [eg] at T'
              have w1 : IntKind.i32.wrap ((y.toNat : Int) - 240) = (y.toNat - 240 : Nat) := by rw [wrap_i32'] <;> omega
              have c3 : (192 : Int) ≤ y.toNat := by omega
              have c4 : ¬ (y.toNat : Int) < 224 := by omega
              have c6 : (224 : Int) ≤ y.toNat := by omega
              have c7 : ¬ (y.toNat : Int) < 240 := by omega
              clear er eg
              generalize (stepR s i).1 = s1 at *
              generalize (stepR s i).2 = s2 at *
              simp -implicitDefEqProofs [g, hy, w0, x1, c5.1, c5.2, c3, c4, c6, c7]
              refine T' _ ?_ _ ?_ ?_ ?_ ?_ ?_ ?_
              · rintro e (rfl | rfl) σ' hσ
                · simp -implicitDefEqProofs; exact fin _ hσ
                · simp -implicitDefEqProofs; exact fin _ hσ
              all_goals simp -implicitDefEqProofs [w1]
            · have c5n : ¬ (240 ≤ y.toNat ∧ y.toNat < 248) := by omega
              rw [if_neg c5n] at er
              have T' := T' 0 y.toNat 0 (by omega) (.inl rfl)
              have eg : stepG s i 0 y.toNat 0 = stepR s i := by rw [er]; rfl
              rw [eg] at T'
              have hx : y.toNat < 192 ∨ 248 ≤ y.toNat := by omega
              clear er eg
              generalize (stepR s i).1 = s1 at *
              generalize (stepR s i).2 = s2 at *
              rcases hx with hx | hx
              · have c3 : ¬ (192 : Int) ≤ y.toNat := by omega
                have c4 : ¬ (224 : Int) ≤ y.toNat := by omega
                have c6 : ¬ (240 : Int) ≤ y.toNat := by omega
                simp -implicitDefEqProofs [g, hy, w0, x1, c3, c4, c6]
                refine T' _ ?_ _ ?_ ?_ ?_ ?_ ?_ ?_
                · rintro e (rfl | rfl) σ' hσ
                  · simp -implicitDefEqProofs; exact fin _ hσ
                  · simp -implicitDefEqProofs; exact fin _ hσ
                all_goals simp -implicitDefEqProofs
              · have c3 : (192 : Int) ≤ y.toNat := by omega
                have c4 : ¬ (y.toNat : Int) < 224 := by omega
                have c6 : (224 : Int) ≤ y.toNat := by omega
                have c7 : ¬ (y.toNat : Int) < 240 := by omega
                have c8 : (240 : Int) ≤ y.toNat := by omega
                have c9 : ¬ (y.toNat : Int) < 248 := by omega
                simp -implicitDefEqProofs [g, hy, w0, x1, c3, c4, c6, c7, c8, c9]
                refine T' _ ?_ _ ?_ ?_ ?_ ?_ ?_ ?_
                · rintro e (rfl | rfl) σ' hσ
                  · simp -implicitDefEqProofs; exact fin _ hσ
                  · simp -implicitDefEqProofs; exact fin _ hσ
                all_goals simp -implicitDefEqProofs
    · have ro := runesL_out g
      rw [ro, List.append_nil] at h3
      subst h3
      clear hK T ro
      simp -implicitDefEqProofs [g]
  · exact ⟨Nat.zero_le _, Nat.le_refl _, by simpa using hR⟩
  · refine weak_mk ?_ ?_ ?_ ?_ ?_ ?_ <;> simp -implicitDefEqProofs [runeRows]
end Go.Ai
