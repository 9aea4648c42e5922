/- YtbepaingfmlpeaaDoorName2: part of the abstract interpreter library (values, rules, soundness against the model) or of what a function of the seat computes. Conditions: as each theorem says. -/
import Derived.Test.YtbepaingfmlpeaaDoorName1
set_option linter.unusedSimpArgs false
set_option linter.unusedVariables false
namespace Go.Ai
open Go.Proofs
abbrev i3 (n : Int) : AV := .int .i32 n
def runeRows (l : List Int) : List (List AV) := l.map fun r => [i3 r]
theorem runeRows_snoc (l : List Int) (r : Int) : runeRows (l ++ [r]) = runeRows l ++ [[i3 r]] := by simp [runeRows]
theorem runeRows_len (l : List Int) : (runeRows l).length = l.length := by simp [runeRows]
theorem runeRows_one (l : List Int) : ∀ r ∈ runeRows l, r.length = 1 := by
  intro r hr
  obtain ⟨m, _, rfl⟩ := List.mem_map.1 hr
  rfl
theorem wrap_i32' {n : Int} (h1 : -2147483648 ≤ n) (h2 : n < 2147483648) : IntKind.i32.wrap n = n := by
  have e1 : (2 : Int) ^ 32 = 4294967296 := by decide
  have e2 : (2 : Int) ^ (32 - 1) = 2147483648 := by decide
  have : IntKind.i32.wrap n = if (true && decide (n % 2 ^ 32 ≥ 2 ^ (32 - 1))) = true then n % 2 ^ 32 - 2 ^ 32 else n % 2 ^ 32 := rfl
  rw [this]
  simp only [e1, e2, Bool.true_and, decide_eq_true_eq]
  split <;> omega
/-- All of the first 'n' go on; or the one behind 'k' is the first that does not. -/
theorem conts_cases (s : List UInt8) (i : Nat) : ∀ n, conts s i n = true ∨ ∃ k, k < n ∧ conts s i k = true ∧ cont s (i + (k + 1)) = false
  | 0 => .inl rfl
  | n + 1 => by
    rcases conts_cases s i n with h | ⟨k, h1, h2⟩
    · cases hc : cont s (i + (n + 1)) with
      | true => left; simp only [conts, h, hc, Bool.and_self]
      | false => exact .inr ⟨n, by omega, h, hc⟩
    · exact .inr ⟨k, by omega, h2⟩
theorem conts_le {s : List UInt8} {i : Nat} : ∀ {n k : Nat}, k ≤ n → conts s i n = true → conts s i k = true
  | 0, k, h, hc => by rw [show k = 0 by omega]; rfl
  | n + 1, k, h, hc => by
    simp only [conts, Bool.and_eq_true] at hc
    by_cases e : k = n + 1
    · rw [e]; simp only [conts, hc, Bool.and_self]
    · exact conts_le (by omega) hc.1
theorem rv_bound (s : List UInt8) (i r0 : Nat) (h0 : r0 < 32) : rv s i r0 0 < 32 ∧ rv s i r0 1 < 2048 + 128 ∧ rv s i r0 2 < 139264 + 128 ∧ rv s i r0 3 < 8921088 + 128 := by
  have b1 := byt_lt s (i + 1)
  have b2 := byt_lt s (i + 2)
  have b3 := byt_lt s (i + 3)
  have e1 : rv s i r0 1 = 64 * r0 + (byt s (i + 1) - 128) := rfl
  have e2 : rv s i r0 2 = 64 * rv s i r0 1 + (byt s (i + 2) - 128) := rfl
  have e3 : rv s i r0 3 = 64 * rv s i r0 2 + (byt s (i + 3) - 128) := rfl
  have e0 : rv s i r0 0 = r0 := rfl
  omega
/-- Where a list of runes goes on. -/
theorem runes_step {s : List UInt8} {i : Nat} {out : List Int} {R : List Int} (h : i < s.length) (hR : out ++ runesL s i = R) : (out ++ [(stepR s i).1]) ++ runesL s (i + (stepR s i).2) = R := by
  rw [← hR, runesL_in h]; simp
/-- A part of a code: 0 the first of two, 1 the second, 2 what a block or a loop holds. -/
def AC.part : List Nat → AC → AC
  | [], c => c
  | 0 :: p, .sq a _ => a.part p
  | 1 :: p, .sq _ b => b.part p
  | 2 :: p, .bl _ a => a.part p
  | 2 :: p, .lp a => a.part p
  | _, c => c
/-- A code with another part. -/
def AC.cutIn : List Nat → AC → AC → AC
  | [], T, _ => T
  | 0 :: p, T, .sq a b => .sq (AC.cutIn p T a) b
  | 1 :: p, T, .sq a b => .sq a (AC.cutIn p T b)
  | 2 :: p, T, .bl i a => .bl i (AC.cutIn p T a)
  | 2 :: p, T, .lp a => .lp (AC.cutIn p T a)
  | _, _, c => c
def rsT : AC := AC.part [1, 1, 1, 0, 2, 2, 1, 2, 1, 1, 1, 1] c50
def rsU : AC := AC.part [1, 1] rsT
def resU (ok : Bool) (n r least : Nat) : Int × Nat := if ok && isRune least r then ((r : Int), n + 1) else (-1, 1)
set_option maxRecDepth 20000 in
theorem rsU_spec (s : List UInt8) (i n r least : Nat) (ok : Bool) (out : List Int) (hi : i ≤ 1000000) (hn : n ≤ 3) (ho : out.length ≤ 1000000) (Q : AE → St → Prop)
    (hQ : ∀ e, e = .n ∨ e = .x 1 → ∀ σ', Weak σ' ⟨[(0, .str s), (3, .sl (runeRows (out ++ [(resU ok n r least).1]))), (4, i6 (i + (resU ok n r least).2 : Nat))], [], [(.s 3, 1)]⟩ → Q e σ')
    (e : List (Nat × AV)) (h0 : lk e 0 = .str s) (h3 : lk e 3 = .sl (runeRows out)) (h4 : lk e 4 = i6 i) (h5 : lk e 5 = i3 r) (h6 : lk e 6 = i6 n) (h7 : lk e 7 = i3 least) (h8 : lk e 8 = .bool ok) :
    wpA (SpH Tryd.prog gl) rsU Q ⟨e, [], [(.s 3, 1)]⟩ := by
  have hlim : lim = 140737488355328 := rfl
  have ec : rsU = AC.part [1, 1] (AC.part [1, 1, 1, 0, 2, 2, 1, 2, 1, 1, 1, 1] c50) := rfl
  rw [ec]
  simp only [c50, AC.part]
  have one := runeRows_one out
  have rl := runeRows_len out
  have t1 : IntKind.i64.wrap ((i : Int) + 1) = (i + 1 : Nat) := by rw [wrap_i64] <;> omega
  have t3 : IntKind.i64.wrap ((i : Int) + 1 + n) = (i : Int) + (n + 1) := by rw [wrap_i64] <;> omega
  have hw : (out.length + 1) * 4 ≤ 140737488355328 := by omega
  rw [runeRows_snoc] at hQ
  generalize runeRows out = L at *
  have bad : isRune least r = false ∨ ok = false → resU ok n r least = (-1, 1) := by
    intro h; unfold resU; rcases h with h | h <;> simp [h]
  have good : isRune least r = true → ok = true → resU ok n r least = ((r : Int), n + 1) := by
    intro h h'; unfold resU; simp [h, h']
  generalize resU ok n r least = res at *
  have hb : isRune least r = false ∨ ok = false → ∀ e, e = .n ∨ e = .x 1 → ∀ σ', Weak σ' ⟨[(0, .str s), (3, .sl (L ++ [[i3 (-1)]])), (4, i6 (i + 1 : Nat))], [], [(.s 3, 1)]⟩ → Q e σ' := by
    intro h
    have := bad h
    subst this
    exact hQ
  cases ok with
  | false =>
    have hb := hb (.inr rfl)
    clear hQ bad good
    simp -implicitDefEqProofs [h8, h3, hlim, rl, h4]
    refine ⟨hw, one, hb _ (.inr rfl) _ (weak_mk ?_ ?_ ?_ ?_ ?_ ?_)⟩ <;> simp -implicitDefEqProofs [h0, t1]
  | true =>
    by_cases z : isRune least r = true
    · have := good z rfl
      subst this
      clear hb bad good
      unfold isRune at z
      rw [decide_eq_true_eq] at z
      have z1 : ¬ r < least := by omega
      have z1' : ¬ (r : Int) < least := by omega
      have z2 : ¬ (1114111 : Int) < r := by omega
      by_cases z3 : (55296 : Int) ≤ r
      · have z4 : ¬ (r : Int) < 57344 := by omega
        simp -implicitDefEqProofs [h8, h5, h7, z1, z1', z2, z3, z4, h3, hlim, rl, h4, h6]
        refine ⟨hw, one, hQ _ (.inl rfl) _ (weak_mk ?_ ?_ ?_ ?_ ?_ ?_)⟩ <;> simp -implicitDefEqProofs [h0, t1, t3]
      · simp -implicitDefEqProofs [h8, h5, h7, z1, z1', z2, z3, h3, hlim, rl, h4, h6]
        refine ⟨hw, one, hQ _ (.inl rfl) _ (weak_mk ?_ ?_ ?_ ?_ ?_ ?_)⟩ <;> simp -implicitDefEqProofs [h0, t1, t3]
    · have hb := hb (.inl (by simpa using z))
      clear hQ bad good
      unfold isRune at z
      rw [decide_eq_true_eq] at z
      by_cases z1 : r < least
      · have z1' : (r : Int) < least := by omega
        simp -implicitDefEqProofs [h8, h5, h7, z1, z1', h3, hlim, rl, h4, h6]
        refine ⟨hw, one, hb _ (.inr rfl) _ (weak_mk ?_ ?_ ?_ ?_ ?_ ?_)⟩ <;> simp -implicitDefEqProofs [h0, t1]
      · have z1' : ¬ (r : Int) < least := by omega
        by_cases z2 : (1114111 : Int) < r
        · simp -implicitDefEqProofs [h8, h5, h7, z1, z1', z2, h3, hlim, rl, h4, h6]
          refine ⟨hw, one, hb _ (.inr rfl) _ (weak_mk ?_ ?_ ?_ ?_ ?_ ?_)⟩ <;> simp -implicitDefEqProofs [h0, t1]
        · have z3 : (55296 : Int) ≤ r := by omega
          have z4 : (r : Int) < 57344 := by omega
          simp -implicitDefEqProofs [h8, h5, h7, z1, z1', z2, z3, z4, h3, hlim, rl, h4, h6]
          refine ⟨hw, one, hb _ (.inr rfl) _ (weak_mk ?_ ?_ ?_ ?_ ?_ ?_)⟩ <;> simp -implicitDefEqProofs [h0, t1]
def stepG (s : List UInt8) (i n r0 least : Nat) : Int × Nat := if n = 0 then (-1, 1) else stepF s i n r0 least
set_option maxRecDepth 20000 in
theorem rsT_spec (s : List UInt8) (i n r0 least : Nat) (out : List Int) (hi : i ≤ 1000000) (hn : n ≤ 3) (h32 : n = 0 ∨ r0 < 32) (ho : out.length ≤ 1000000) (hsl : s.length ≤ 1000000) (Q : AE → St → Prop)
    (hQ : ∀ e, e = .n ∨ e = .x 1 → ∀ σ', Weak σ' ⟨[(0, .str s), (3, .sl (runeRows (out ++ [(stepG s i n r0 least).1]))), (4, i6 (i + (stepG s i n r0 least).2 : Nat))], [], [(.s 3, 1)]⟩ → Q e σ')
    (e : List (Nat × AV)) (h0 : lk e 0 = .str s) (h3 : lk e 3 = .sl (runeRows out)) (h4 : lk e 4 = i6 i) (h5 : lk e 5 = i3 r0) (h6 : lk e 6 = i6 n) (h7 : lk e 7 = i3 least) :
    wpA (SpH Tryd.prog gl) rsT Q ⟨e, [], [(.s 3, 1)]⟩ := by
  have ec : rsT = AC.cutIn [1, 1] rsU rsT := rfl
  rw [ec]
  have U := rsU_spec s i n
  generalize rsU = t at U ⊢
  have eT : rsT = AC.part [1, 1, 1, 0, 2, 2, 1, 2, 1, 1, 1, 1] c50 := rfl
  rw [eT]
  simp only [c50, AC.part, AC.cutIn]
  -- what is handed on
  have good : n ≠ 0 → conts s i n = true → ∀ e, lk e 0 = .str s → lk e 3 = .sl (runeRows out) → lk e 4 = i6 i → lk e 5 = i3 (rv s i r0 n) → lk e 6 = i6 n → lk e 7 = i3 least → lk e 8 = .bool true → wpA (SpH Tryd.prog gl) t Q ⟨e, [], [(.s 3, 1)]⟩ := by
    intro hn0 hc e g0 g3 g4 g5 g6 g7 g8
    refine U (rv s i r0 n) least true out hi hn ho Q ?_ e g0 g3 g4 g5 g6 g7 g8
    have er : resU true n (rv s i r0 n) least = stepG s i n r0 least := by
      unfold resU stepG stepF
      rw [if_neg hn0, hc]
    rw [er]; exact hQ
  have bad : ∀ r, (n = 0 ∨ conts s i n = false) → ∀ e, lk e 0 = .str s → lk e 3 = .sl (runeRows out) → lk e 4 = i6 i → lk e 5 = i3 (r : Nat) → lk e 6 = i6 n → lk e 7 = i3 least → lk e 8 = .bool false → wpA (SpH Tryd.prog gl) t Q ⟨e, [], [(.s 3, 1)]⟩ := by
    intro r hc e g0 g3 g4 g5 g6 g7 g8
    refine U r least false out hi hn ho Q ?_ e g0 g3 g4 g5 g6 g7 g8
    have er : resU false n r least = stepG s i n r0 least := by
      unfold resU stepG stepF
      rcases hc with rfl | hc
      · rw [if_pos rfl]; rfl
      · by_cases h : n = 0
        · rw [if_pos h]; rfl
        · rw [if_neg h, hc]; rfl
    rw [er]; exact hQ
  clear U hQ
  generalize runeRows out = L at *
  have hn0 : (0 : Int) < n ↔ n ≠ 0 := by omega
  have hok : decide ((0 : Int) < n) = decide (n ≠ 0) := by rw [Bool.eq_iff_iff]; simp; omega
  simp -implicitDefEqProofs [h6]
  refine wp_lpk (α := Nat) (fun k => ⟨[(0, .str s), (3, .sl L), (4, i6 i), (5, i3 (rv s i r0 k)), (6, i6 n), (7, i3 least), (8, .bool (decide (0 < n))), (9, i6 (k + 1 : Nat))], [], [(.s 3, 1)]⟩)
    (fun k => k ≤ n ∧ conts s i k = true) (fun k => n - k) ?_ 0 ?_ ?_
  · rintro K k hK ⟨h1, h2⟩
    by_cases g : k < n
    · have gI : (k : Int) + 1 ≤ n := by omega
      have t1 : IntKind.i64.wrap ((i : Int) + ((k : Int) + 1)) = (i + (k + 1) : Nat) := by rw [wrap_i64] <;> omega
      have t2 : IntKind.i64.wrap ((k : Int) + 1 + 1) = (k + 1 + 1 : Nat) := by rw [wrap_i64] <;> omega
      have fin : cont s (i + (k + 1)) = true → ∀ σ', Weak σ' ⟨[(0, .str s), (3, .sl L), (4, i6 i), (5, i3 (rv s i r0 (k + 1))), (6, i6 n), (7, i3 least), (8, .bool (decide (0 < n))), (9, i6 (k + 1 + 1 : Nat))], [], [(.s 3, 1)]⟩ → K σ' :=
        fun hc σ' hσ => hK (k + 1) σ' ⟨by omega, by simp only [conts, h2, hc, Bool.and_self]⟩ (by omega) hσ
      have badk : cont s (i + (k + 1)) = false → conts s i n = false := fun hc => by
        rw [Bool.eq_false_iff]; intro h
        have := conts_le (show k + 1 ≤ n by omega) h
        simp only [conts, hc, Bool.and_false] at this; cases this
      by_cases l1 : i + (k + 1) < s.length
      · have l1' : ¬ ((s.length : Int) ≤ (i : Int) + ((k : Int) + 1)) := by omega
        have tn : ((i : Int) + ((k : Int) + 1)).toNat = i + (k + 1) := by omega
        have tp : (0 : Int) ≤ (i : Int) + ((k : Int) + 1) := by omega
        have hb := byt_at l1
        have rvs : rv s i r0 (k + 1) = 64 * rv s i r0 k + (byt s (i + (k + 1)) - 128) := rfl
        have hcd : cont s (i + (k + 1)) = decide (128 ≤ byt s (i + (k + 1)) ∧ byt s (i + (k + 1)) ≤ 191) := rfl
        have rk : rv s i r0 k < 139264 + 128 := by
          obtain ⟨b0, b1, b2, b3⟩ := rv_bound s i r0 (h32.resolve_left (by omega))
          rcases (by omega : k = 0 ∨ k = 1 ∨ k = 2) with rfl | rfl | rfl <;> omega
        rw [rvs] at fin
        obtain ⟨x, hx⟩ : ∃ x, s[i + (k + 1)] = x := ⟨_, rfl⟩
        rw [hx] at hb
        rw [hb] at hcd fin
        clear hb rvs hK
        generalize rv s i r0 k = r at *
        by_cases x1 : (x.toNat : Int) < 128
        · have bb := bad r (.inr (badk (by rw [hcd, decide_eq_false_iff_not]; omega)))
          clear fin bad good badk
          simp -implicitDefEqProofs [gI, t1, l1, l1', tn, tp, hx, x1]
          refine bb _ ?_ ?_ ?_ ?_ ?_ ?_ ?_ <;> simp -implicitDefEqProofs
        · by_cases x2 : (191 : Int) < x.toNat
          · have bb := bad r (.inr (badk (by rw [hcd, decide_eq_false_iff_not]; omega)))
            clear fin bad good badk
            simp -implicitDefEqProofs [gI, t1, l1, l1', tn, tp, hx, x1, x2]
            refine bb _ ?_ ?_ ?_ ?_ ?_ ?_ ?_ <;> simp -implicitDefEqProofs
          · have fin := fin (by rw [hcd, decide_eq_true_eq]; omega)
            have w1 : IntKind.i32.wrap (64 * (r : Int)) = (64 * r : Nat) := by rw [wrap_i32'] <;> omega
            have w2 : IntKind.i32.wrap (x.toNat : Int) = x.toNat := by rw [wrap_i32'] <;> omega
            have w3 : IntKind.i32.wrap (((64 * r : Nat) : Int) + x.toNat) = (64 * r + x.toNat : Nat) := by rw [wrap_i32'] <;> omega
            have w4 : IntKind.i32.wrap (((64 * r + x.toNat : Nat) : Int) - 128) = (64 * r + (x.toNat - 128) : Nat) := by rw [wrap_i32'] <;> omega
            clear bad good badk hcd
            generalize 64 * r + (x.toNat - 128) = r' at *
            generalize 64 * r + x.toNat = r2 at *
            generalize 64 * r = r1 at *
            simp -implicitDefEqProofs [gI, t1, l1, l1', tn, tp, hx, x1, x2]
            refine fin _ (weak_mk ?_ ?_ ?_ ?_ ?_ ?_) <;> simp -implicitDefEqProofs [w1, w2, w3, w4, t2]
      · have l1' : ((s.length : Int) ≤ ((i + (k + 1) : Nat) : Int)) := by omega
        have hb := byt_out l1
        have hcd : cont s (i + (k + 1)) = decide (128 ≤ byt s (i + (k + 1)) ∧ byt s (i + (k + 1)) ≤ 191) := rfl
        have bb := bad (rv s i r0 k) (.inr (badk (by rw [hcd, hb]; rfl)))
        clear fin bad good badk hK
        generalize rv s i r0 k = r at *
        have l1n : (s.length : Int) ≤ (i : Int) + ((k : Int) + 1) := by omega
        simp -implicitDefEqProofs [gI, t1, l1, l1', l1n]
        refine bb _ ?_ ?_ ?_ ?_ ?_ ?_ ?_ <;> simp -implicitDefEqProofs
    · obtain rfl : k = n := by omega
      have gI : ¬ (k : Int) + 1 ≤ k := by omega
      clear hK
      by_cases hz : k = 0
      · have bb := bad (rv s i r0 k) (.inl hz)
        clear bad good
        generalize rv s i r0 k = r at *
        simp -implicitDefEqProofs [gI]
        refine bb _ ?_ ?_ ?_ ?_ ?_ ?_ ?_ <;> simp -implicitDefEqProofs [hz]
      · have gg := good hz h2
        clear bad good
        have hz' : 0 < k := by omega
        generalize rv s i r0 k = r at *
        simp -implicitDefEqProofs [gI]
        refine gg _ ?_ ?_ ?_ ?_ ?_ ?_ ?_ <;> simp -implicitDefEqProofs [hz']
  · exact ⟨Nat.zero_le _, rfl⟩
  · refine weak_mk ?_ ?_ ?_ ?_ ?_ ?_ <;> simp -implicitDefEqProofs [h0, h3, h4, h5, h6, h7, show rv s i r0 0 = r0 from rfl]
end Go.Ai
