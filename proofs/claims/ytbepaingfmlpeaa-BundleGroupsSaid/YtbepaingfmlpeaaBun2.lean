/- YtbepaingfmlpeaaBun2: part of the abstract interpreter library (values, rules, soundness against the model) or of what a function of the seat computes. Conditions: as each theorem says. -/
import Derived.Test.YtbepaingfmlpeaaBun1
set_option linter.unusedSimpArgs false
set_option linter.unusedVariables false
namespace Go.Ai
open Go.Proofs
theorem goes_spec (m : Ms) (k : Ky) : Sp Try.prog gl 83 [.agg m.row, .agg k.row] (.bool (goes m k)) := by
  refine s83 rfl rfl ?_
  obtain ⟨g, p, ks⟩ := m
  obtain ⟨g', r', p', e', f'⟩ := k
  unfold goes Ms.row Ky.row
  simp only
  cases h1 : (g == g')
  · simp -implicitDefEqProofs [c83, h1]
  · cases h2 : (p == p')
    · simp -implicitDefEqProofs [c83, h1, h2]
    · simp -implicitDefEqProofs [c83, h1, h2]
      omega
theorem goesC_spec (m : Ms) (k : Ky) (d : Nat) (c : Id) (hc : c.isIt = false) (hd : c.isNw d = false) : SpH Try.prog gl 82 d ⟨[.agg m.row, .ptr c 0], [(c, k.row)], []⟩ ⟨.bool (goes m k), [(c, k.row)], []⟩ := by
  refine h82 rfl ?_
  have G := goes_spec m k
  have hi := inn_notNw hd
  generalize goes m k = R at *
  unfold Ms.row Ky.row at *
  simp -implicitDefEqProofs [c82]
  refine onC_mk _ G ?_
  simp -implicitDefEqProofs
  refine postH_r ⟨?_, ?_, ?_, ?_, ?_, ?_⟩ <;> simp -implicitDefEqProofs [hi, hc]
set_option maxRecDepth 20000 in
theorem idx_spec (ms : List Ms) (k : Ky) (hn : ms.length ≤ 1000000) (d : Nat) (b c : Id) (hb : b.isIt = false) (hbd : b.isNw d = false) (hc : c.isIt = false) (hcd : c.isNw d = false) (hbc : b ≠ c) :
    SpH Try.prog gl 81 d ⟨[.ms b 0 ms.length 3, .fn 82 [.ptr c 0]], [(b, cellsM ms), (c, k.row)], kPm b ms.length⟩ ⟨i6 (goIx ms k 0), [(b, cellsM ms), (c, k.row)], kPm b ms.length⟩ := by
  refine h81 rfl ?_
  have hib := inn_notNw hbd
  have hic := inn_notNw hcd
  have hcb : c ≠ b := fun e => hbc e.symm
  obtain ⟨R, hR⟩ : ∃ R, R = goIx ms k 0 := ⟨_, rfl⟩
  rw [← hR]
  have ids1 := cellsM_ids ms
  have ids2 := row_ids k
  have m1 : mpL Id.up (cellsM ms) = cellsM ms := mpL_noids ids1
  have m2 : mpL Id.up k.row = k.row := mpL_noids ids2
  have m3 : ∀ f, mpL f (cellsM ms) = cellsM ms := fun f => mpL_noids ids1
  have m4 : ∀ f, mpL f k.row = k.row := fun f => mpL_noids ids2
  have hlen := cellsM_len ms
  have hrow := fun j h => cellsM_row ms j h
  have C := fun m => goesC_spec m k 16 (.up c) hc rfl
  generalize cellsM ms = cs at *
  generalize k.row = kr at *
  simp only [inSt, mpB, mpL, AV.mp, mpP_kPm, m1, m2]
  simp -implicitDefEqProofs [c81, dlS_kPm]
  refine wp_lpk (α := Nat) (fun i => ⟨[(0, .ms (.up b) 0 ms.length 3), (1, .fn 82 [.ptr (.up c) 0]), (6, .ms (.up b) 0 ms.length 3), (7, i6 ms.length), (8, i6 i)], [(.up b, cs), (.up c, kr)], kPm (.up b) ms.length⟩)
    (fun i => i ≤ ms.length ∧ goIx (ms.drop i) k i = R) (fun i => ms.length - i) ?_ 0 ?_ ?_
  · rintro K i hK ⟨h1, h2⟩
    by_cases g : i < ms.length
    · have t1 : IntKind.i64.wrap ((i : Int) + 1) = (i + 1 : Nat) := by rw [wrap_i64] <;> omega
      have hr := hrow i g
      have C := C ms[i]
      rw [List.drop_eq_getElem_cons g] at h2
      simp only [goIx] at h2
      have fin : goes ms[i] k = false → ∀ σ', Weak σ' ⟨[(0, .ms (.up b) 0 ms.length 3), (1, .fn 82 [.ptr (.up c) 0]), (6, .ms (.up b) 0 ms.length 3), (7, i6 ms.length), (8, i6 (i + 1 : Nat))], [(.up b, cs), (.up c, kr)], kPm (.up b) ms.length⟩ → K σ' :=
        fun hg σ' hσ => hK (i + 1) σ' ⟨by omega, by rw [hg] at h2; simpa using h2⟩ (by omega) hσ
      have hl3 : i * 3 + 3 ≤ cs.length := by omega
      generalize ms[i] = m at *
      clear hK hR hrow m1 m2
      have hms := mrow_ids m
      generalize m.row = mr at *
      simp -implicitDefEqProofs [g, hr, hl3]
      refine onH_mk _ _ C ⟨?_, ?_, ?_, ?_, ?_, ?_, ?_⟩ ?_
      · simp -implicitDefEqProofs
      · simp -implicitDefEqProofs [hcb, hbc]
      · simp -implicitDefEqProofs
      · simp -implicitDefEqProofs
      · simp -implicitDefEqProofs
      · simp -implicitDefEqProofs
      · simp -implicitDefEqProofs
      · cases hg : goes m k
        · have fin := fin hg
          simp -implicitDefEqProofs [hcb, hbc, dlB_kPm, dlS_kPm, t1]
          refine fin _ (weak_mk ?_ ?_ ?_ ?_ ?_ ?_)
          · simp -implicitDefEqProofs
          · simp -implicitDefEqProofs [hbc, hcb]
          · intro p hp; exact .inl (kPm_self p hp)
          · simp -implicitDefEqProofs
          · simp -implicitDefEqProofs [ids1, ids2]
          · intro p hp e he
            rw [kPm_ids hp he]; simp -implicitDefEqProofs
        · rw [hg] at h2
          simp only [if_true] at h2
          subst h2
          simp -implicitDefEqProofs [hcb, hbc, dlB_kPm, dlS_kPm]
          refine postH_r ⟨?_, ?_, ?_, ?_, ?_, ?_⟩
          · simp -implicitDefEqProofs
          · simp -implicitDefEqProofs
          · simp -implicitDefEqProofs [hib, hic, hb, hc, hbc, hcb, m3, m4]
          · simp -implicitDefEqProofs [ids1, ids2]
          · intro p hp
            obtain ⟨j, hj, rfl⟩ := kPm_mem hp
            simp only [pmOut, hib]
            exact ⟨by simp, .inl (kPm_lk _ _ _ hj)⟩
          · simp -implicitDefEqProofs
    · obtain rfl : i = ms.length := by omega
      rw [List.drop_length] at h2
      simp only [goIx] at h2
      subst h2
      clear hK
      simp -implicitDefEqProofs [dlS_kPm]
      refine postH_r ⟨?_, ?_, ?_, ?_, ?_, ?_⟩
      · simp -implicitDefEqProofs
      · simp -implicitDefEqProofs
      · simp -implicitDefEqProofs [hib, hic, hb, hc, hbc, hcb, m3, m4]
      · simp -implicitDefEqProofs [ids1, ids2]
      · intro p hp
        obtain ⟨j, hj, rfl⟩ := kPm_mem hp
        simp only [pmOut, hib]
        exact ⟨by simp, .inl (kPm_lk _ _ _ hj)⟩
      · simp -implicitDefEqProofs
  · exact ⟨Nat.zero_le _, hR.symm⟩
  · refine weak_mk ?_ ?_ ?_ ?_ ?_ ?_
    · simp -implicitDefEqProofs
    · simp -implicitDefEqProofs [hbc, hcb]
    · intro p hp; exact .inl (kPm_self p hp)
    · simp -implicitDefEqProofs
    · simp -implicitDefEqProofs [ids1, ids2]
    · intro p hp e he
      rw [kPm_ids hp he]; simp -implicitDefEqProofs
end Go.Ai
