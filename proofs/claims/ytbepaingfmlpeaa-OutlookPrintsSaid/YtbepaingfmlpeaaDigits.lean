/- YtbepaingfmlpeaaDigits: part of the abstract interpreter library (values, rules, soundness against the model) or of what a function of the seat computes. Conditions: as each theorem says. -/
import Derived.Test.YtbepaingfmlpeaaDec
import Derived.Test.YtbepaingfmlpeaaRef02
set_option linter.unusedSimpArgs false
set_option linter.unusedVariables false
namespace Go.Ai
open Go.Proofs
set_option maxRecDepth 10000 in
theorem digits_spec (l : List Bool) (hl : l.length ≤ 100000) : Sp Try.prog gl 80 [bl l] (.str (dec (val l))) := by
  refine s80 rfl rfl ?_
  have B := bits_spec 10 (by omega)
  have e10 : wide 10 = .agg [u 0, u 10] := rfl
  rw [e10] at B
  have v10 : val (bitsOf 10 128) = 10 := bitsOf_val128 10 (by omega)
  have l10 : (bitsOf 10 128).length = 128 := bitsOf_len _ _
  have hlen : (dec (val l)).length ≤ l.length + 1 := dec_len _ _ (Nat.lt_of_lt_of_le (val_lt l) (Nat.le_trans (Nat.pow_le_pow_left (by omega) _) (Nat.pow_le_pow_right (by omega) (Nat.le_succ _))))
  obtain ⟨ten, ht⟩ : ∃ ten, ten = bitsOf 10 128 := ⟨_, rfl⟩
  rw [← ht] at B v10 l10
  clear ht
  obtain ⟨R, hR⟩ : ∃ R, R = dec (val l) := ⟨_, rfl⟩
  rw [← hR] at hlen ⊢
  simp -implicitDefEqProofs [c80]
  refine onC_mk _ B ?_
  simp -implicitDefEqProofs
  refine wp_lpk (α := List Bool × List UInt8) (fun x => ⟨[(0, bl x.1), (3, bl ten), (4, .str x.2)], [], []⟩) (fun x => x.1.length = l.length ∧ R = dec (val x.1) ++ x.2) (fun x => val x.1) ?_ (l, []) ?_ ?_
  · rintro K ⟨l', s⟩ hK ⟨h1, h2⟩
    simp only at h1 h2
    have hlt := val_lt l'
    have D := divide_spec l' ten (by omega) (by omega) (by omega)
    rw [v10] at D
    have q1 : val l' / 10 ≤ val l' := Nat.div_le_self _ _
    have r1 : val l' % 10 ≤ val l' := Nat.mod_le _ _
    have r2 : val l' % 10 < 10 := Nat.mod_lt _ (by omega)
    have qv : val (bitsOf (val l' / 10) l'.length) = val l' / 10 := by rw [bitsOf_val, Nat.mod_eq_of_lt (by omega)]
    have rv : val (bitsOf (val l' % 10) l'.length) = val l' % 10 := by rw [bitsOf_val, Nat.mod_eq_of_lt (by omega)]
    have ql := bitsOf_len (val l' / 10) l'.length
    have rl := bitsOf_len (val l' % 10) l'.length
    obtain ⟨q, hq⟩ : ∃ q, q = bitsOf (val l' / 10) l'.length := ⟨_, rfl⟩
    obtain ⟨r, hr⟩ : ∃ r, r = bitsOf (val l' % 10) l'.length := ⟨_, rfl⟩
    rw [← hq] at D qv ql
    rw [← hr] at D rv rl
    have O := of_spec r (by omega)
    rw [rv, if_pos (by omega)] at O
    obtain ⟨d, hd⟩ : ∃ d, d = val l' % 10 := ⟨_, rfl⟩
    rw [← hd] at O r2
    have wd : wide d = .agg [u 0, u d] := by unfold wide; rw [Nat.div_eq_of_lt (by omega), Nat.mod_eq_of_lt (by omega)]
    rw [wd] at O
    have C := compare_spec q [] (by omega) (by simp)
    rw [show val [] = 0 from rfl] at C
    have sl : s.length ≤ 100001 := by rw [h2] at hlen; simp at hlen; omega
    have w1 : IntKind.u8.wrap (d : Int) = d := wrap_u8 (by omega) (by omega)
    have w2 : IntKind.u8.wrap (48 + (d : Int)) = (48 + d : Nat) := by rw [wrap_u8] <;> omega
    have tn : (48 + (d : Int)).toNat = 48 + d := by omega
    have hs1 : 1 + s.length ≤ 9223372036854775807 := by omega
    by_cases g : val l' < 10
    · have q0 : val q = 0 := by rw [qv]; omega
      have c0 : cmpN 0 0 = 0 := rfl
      rw [q0, c0] at C
      have eR : R = UInt8.ofNat (48 + d) :: s := by rw [h2, dec_lt g, hd, Nat.mod_eq_of_lt g]; rfl
      clear hq hr hd h2 qv rv wd q1 r1 hlt q0 hR hK hlen
      subst eR
      simp -implicitDefEqProofs [bl]
      refine onC_mk _ D ?_
      simp -implicitDefEqProofs [bl]
      refine onC_mk _ O ?_
      simp -implicitDefEqProofs [bytesA, rowBytes, w1, w2, hs1]
      refine onC_mk _ C ?_
      simp -implicitDefEqProofs [tn]
    · have q0 : val q ≠ 0 := by rw [qv]; omega
      have c0 : cmpN (val q) 0 = 1 := by unfold cmpN; rw [if_neg (by omega), if_neg q0]
      rw [c0] at C
      have eR : R = dec (val q) ++ (UInt8.ofNat (48 + d) :: s) := by rw [h2, dec_ge g, hd, qv]; simp
      have fin : ∀ σ', Weak σ' ⟨[(0, bl q), (3, bl ten), (4, .str (UInt8.ofNat (48 + d) :: s))], [], []⟩ → K σ' :=
        fun σ' hσ => hK (q, UInt8.ofNat (48 + d) :: s) σ' ⟨by simp only; omega, eR⟩ (by simp only; omega) hσ
      clear hq hr hd h2 qv rv wd q1 r1 hlt q0 hR hK hlen eR
      simp -implicitDefEqProofs [bl]
      refine onC_mk _ D ?_
      simp -implicitDefEqProofs [bl]
      refine onC_mk _ O ?_
      simp -implicitDefEqProofs [bytesA, rowBytes, w1, w2, hs1]
      refine onC_mk _ C ?_
      simp -implicitDefEqProofs
      refine fin _ ?_
      apply weak_mk <;> simp [bl, tn]
  · simp [hR]
  · apply weak_mk <;> simp [bl]
end Go.Ai
