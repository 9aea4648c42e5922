/- YtbepaingfmlpeaaBun4: part of the abstract interpreter library (values, rules, soundness against the model) or of what a function of the seat computes. Conditions: as each theorem says. -/
import Derived.Test.YtbepaingfmlpeaaBun3
set_option linter.unusedSimpArgs false
set_option linter.unusedVariables false
namespace Go.Ai
open Go.Proofs
set_option maxRecDepth 20000 in
theorem group_spec (l : List Ky) (pg : Bool) (hn : l.length ≤ 100000) (d : Nat) : SpH Try.prog gl 44 d ⟨[.sl (l.map Ky.row), .bool pg], [], []⟩ ⟨.sl ((grp l pg).map Ms.row), [], [(.s 0, 3)]⟩ := by
  refine h44 rfl ?_
  have hlim : lim = 140737488355328 := rfl
  have rows := rows_at l
  have hL : (l.map Ky.row).length = l.length := List.length_map ..
  generalize l.map Ky.row = L at *
  simp -implicitDefEqProofs [c44]
  refine wp_lpk (α := Nat × List Ms) (fun x => stG l.length L pg x) (fun x => x.1 ≤ l.length ∧ x.2 = grp (l.take x.1) pg ∧ x.2.length ≤ x.1) (fun x => l.length - x.1) ?_ (0, []) ?_ ?_
  · rintro K ⟨i, ms⟩ hK ⟨h1, h2, h3⟩
    simp only at h1 h2 h3
    by_cases g : i < l.length
    · have t1 : IntKind.i64.wrap ((i : Int) + 1) = (i + 1 : Nat) := by rw [wrap_i64] <;> omega
      have hr := rows i g
      have sn := grp_snoc l i g pg
      rw [← h2] at sn
      have fin : l[i].p ≠ pg → ∀ σ', Weak σ' (stG l.length L pg (i + 1, ms)) → K σ' := fun hp σ' hσ => hK (i + 1, ms) σ' ⟨by simp only; omega, by simp only; rw [sn, if_neg hp], by simp only; omega⟩ (by simp only; omega) hσ
      have fin2 : l[i].p = pg → ∀ σ', Weak σ' (stG l.length L pg (i + 1, addK ms l[i])) → K σ' := fun hp σ' hσ => hK (i + 1, addK ms l[i]) σ' ⟨by simp only; omega, by simp only; rw [sn, if_pos hp], by simp only; have := addK_length ms l[i]; omega⟩ (by simp only; omega) hσ
      have hrl : (l[i].row).length = 5 := rfl
      generalize l[i] = k at *
      clear hK sn rows h2
      generalize l.length = n at *
      have kids := row_ids k
      have keq : k.row = [.str k.g, .str k.r, .bool k.p, u k.e, .bool k.f] := rfl
      by_cases hms : ms = []
      · subst hms
        have N0 := idxNil_spec k 21 (.n 7) rfl rfl
        by_cases hp : k.p = pg
        · replace fin2 := fin2 hp
          rw [stG_ne (addK_ne _ _)] at fin2
          have ec : cellsM (addK [] k) = [.str k.g, .bool k.p, .sl [k.row]] := rfl
          have el : (addK [] k).length = 1 := rfl
          rw [ec, el] at fin2
          clear fin
          have hbb : (k.p != pg) = false := by rw [hp]; simp
          rw [keq] at hr hrl kids N0 fin2
          obtain ⟨kg, kr, kp, ke, kf⟩ := k
          simp only at *
          simp only [stG]
          simp -implicitDefEqProofs [g, hr, hbb]
          refine onH_mk _ _ N0 ⟨?_, ?_, ?_, ?_, ?_, ?_, ?_⟩ ?_
          · simp -implicitDefEqProofs
          · simp -implicitDefEqProofs
          · simp -implicitDefEqProofs
          · simp -implicitDefEqProofs
          · simp -implicitDefEqProofs
          · simp -implicitDefEqProofs
          · simp -implicitDefEqProofs
          · simp -implicitDefEqProofs [hlim, t1]
            refine fin2 _ (weak_mk ?_ ?_ ?_ ?_ ?_ ?_)
            · simp -implicitDefEqProofs
            · simp -implicitDefEqProofs
            · simp -implicitDefEqProofs [kPm]
            · simp -implicitDefEqProofs
            · simp -implicitDefEqProofs
            · simp -implicitDefEqProofs [kPm]
        · replace fin := fin hp
          have hbb : (k.p != pg) = true := by simpa using hp
          clear fin2
          rw [keq] at hr hrl kids N0
          obtain ⟨kg, kr, kp, ke, kf⟩ := k
          simp only at *
          simp only [stG] at fin ⊢
          simp -implicitDefEqProofs [g, hr, hbb, t1]
          refine fin _ (weak_mk ?_ ?_ ?_ ?_ ?_ ?_) <;> simp -implicitDefEqProofs
      · rw [stG_ne hms]
        have N0 := idx_spec ms k (by omega) 21 (.n 33) (.n 7) rfl rfl rfl rfl (by decide)
        by_cases hp : k.p = pg
        · replace fin2 := fin2 hp
          rw [stG_ne (addK_ne _ _)] at fin2
          have hbb : (k.p != pg) = false := by rw [hp]; simp
          clear fin
          have cids := cellsM_ids ms
          have clen := cellsM_len ms
          rcases goIx_some (l := ms) (i := 0) (k := k) with hno | ⟨j, m, j1, j2, j3, j4⟩
          · rw [goIx_none.2 hno] at N0
            rw [addK_none hno] at fin2
            have cnew : cellsM (ms ++ [⟨k.g, k.p, [k]⟩]) = cellsM ms ++ [.str k.g, .bool k.p, .sl [k.row]] := cellsM_app _ _
            rw [cnew] at fin2
            rw [List.length_append] at fin2
            simp only [List.length_cons, List.length_nil, Nat.zero_add] at fin2
            clear cnew
            have hks : (cellsM ms ++ [AV.str k.g, AV.bool k.p, AV.nils])[ms.length * 3 + 2]? = some .nils := by
              rw [List.getElem?_append_right (by omega), clen, show ms.length * 3 + 2 - ms.length * 3 = 2 by omega]; rfl
            have hpn := kPm_none (.n 33) ms.length
            have hlt := kPm_lt (b := .n 33) (n := ms.length) (m := (cellsM ms).length) (by omega)
            have hw : ((ms.length : Int) + 1) * 48 ≤ 140737488355328 := by omega
            generalize cellsM ms = cs at *
            rw [keq] at hr hrl kids N0 fin2
            obtain ⟨kg, kr, kp, ke, kf⟩ := k
            simp only at *
            simp -implicitDefEqProofs [g, hr, hbb]
            refine onH_mk _ _ N0 ⟨?_, ?_, ?_, ?_, ?_, ?_, ?_⟩ ?_
            · simp -implicitDefEqProofs
            · simp -implicitDefEqProofs
            · intro p hp
              obtain ⟨j, hj, rfl⟩ := kPm_mem hp
              simp only [pmIn]
              refine ⟨by simp -implicitDefEqProofs, .inl ?_⟩
              simp -implicitDefEqProofs [dlS_kPm, kPm_lk _ _ _ hj]
            · exact pmOne_kPm _ _ _
            · simp -implicitDefEqProofs
            · simp -implicitDefEqProofs
            · simp -implicitDefEqProofs
            · have hlt1 : (ms.length : Int) < ms.length + 1 := by omega
              have hcl2 : ms.length * 3 + 2 < ms.length * 3 + 3 := by omega
              simp -implicitDefEqProofs [hpn, hks, hlim, clen, cids, hw, t1, hlt]
              refine ⟨fun a q ha => by have := hlt _ ha; rw [clen] at this; exact this, by omega, ?_⟩
              simp -implicitDefEqProofs [hlt1, hks, hpn, clen, hcl2, t1, hlim]
              refine fin2 _ (weak_mk ?_ ?_ ?_ ?_ ?_ ?_)
              · simp -implicitDefEqProofs
              · simp -implicitDefEqProofs
              · intro p hp
                refine .inl (kPm_after (j := ms.length) ?_ p hp)
                intro i hi hne
                simp -implicitDefEqProofs [lkP_dl, lkP_dlS, Pl.at]
                exact ⟨by omega, kPm_lk _ _ _ (by omega)⟩
              · simp -implicitDefEqProofs
              · simp -implicitDefEqProofs [cids, idsL_appB]
              · intro p hp e he
                rw [kPm_ids hp he]; simp -implicitDefEqProofs
          · rw [j3] at N0
            rw [j4] at fin2
            have hj : j < ms.length := by
              rcases Nat.lt_or_ge j ms.length with h | h
              · exact h
              · rw [List.getElem?_eq_none h] at j1; cases j1
            have hmj : ms[j] = m := by rw [List.getElem?_eq_getElem hj] at j1; simpa using j1
            have hks := cellsM_ks ms j hj
            have cset := cellsM_set (m.ks ++ [k]) ms j hj
            rw [hmj] at hks cset
            rw [← cset, List.length_set] at fin2
            have h8 : m.ks.length < 8 := by
              simp only [goes, Bool.and_eq_true, decide_eq_true_eq] at j2
              exact j2.2
            have hpj := kPm_lk (.n 33) ms.length j hj
            have hjI : (j : Int) < ms.length := by omega
            have hj0 : ¬ (j : Int) < 0 := by omega
            have hcl : j * 3 + 2 < ms.length * 3 := by omega
            have hw : (m.ks.length + 1) * 56 ≤ 140737488355328 := by omega
            simp only [List.map_append, List.map_cons, List.map_nil, Nat.zero_add] at fin2 N0
            have hrows : ∀ x ∈ m.ks.map Ky.row, x.length = 5 := by
              intro r hr
              obtain ⟨m, _, rfl⟩ := List.mem_map.1 hr
              rfl
            have hrl2 : (m.ks.map Ky.row).length = m.ks.length := List.length_map ..
            clear j1 j2 j3 j4 hmj cset
            generalize cellsM ms = cs at *
            generalize m.ks.map Ky.row = R at *
            generalize m.ks.length = rn at *
            rw [keq] at hr hrl kids N0 fin2
            obtain ⟨kg, kr, kp, ke, kf⟩ := k
            simp only at *
            simp -implicitDefEqProofs [g, hr, hbb]
            refine onH_mk _ _ N0 ⟨?_, ?_, ?_, ?_, ?_, ?_, ?_⟩ ?_
            · simp -implicitDefEqProofs
            · simp -implicitDefEqProofs
            · intro p hp
              obtain ⟨j, hj, rfl⟩ := kPm_mem hp
              simp only [pmIn]
              refine ⟨by simp -implicitDefEqProofs, .inl ?_⟩
              simp -implicitDefEqProofs [dlS_kPm, kPm_lk _ _ _ hj]
            · exact pmOne_kPm _ _ _
            · simp -implicitDefEqProofs
            · simp -implicitDefEqProofs
            · simp -implicitDefEqProofs
            · have hks2 : ∀ h : j * 3 + 2 < cs.length, cs[j * 3 + 2] = .sl R := fun h => by
                rw [List.getElem?_eq_getElem h] at hks; simpa using hks
              clear hks
              simp -implicitDefEqProofs [hks2, hlim, clen, cids, hw, t1, hj, hjI, hj0, hpj, hcl, hrl2]
              refine ⟨hrows, fin2 _ (weak_mk ?_ ?_ ?_ ?_ ?_ ?_)⟩
              · simp -implicitDefEqProofs
              · simp -implicitDefEqProofs
              · intro p hp
                refine .inl (kPm_after (j := j) ?_ p hp)
                intro i hi hne
                simp -implicitDefEqProofs [lkP_dl, lkP_dlS, Pl.at]
                exact ⟨by omega, kPm_lk _ _ _ (by omega)⟩
              · simp -implicitDefEqProofs
              · have hset : idsL (cs.set (j * 3 + 2) (.sl (R ++ [[AV.str kg, AV.str kr, AV.bool kp, u ke, AV.bool kf]]))) = [] := idsL_set rfl cids
                simp -implicitDefEqProofs [hset]
              · intro p hp e he
                rw [kPm_ids hp he]; simp -implicitDefEqProofs
        · replace fin := fin hp
          rw [stG_ne hms] at fin
          have hbb : (k.p != pg) = true := by simpa using hp
          clear fin2
          have cids := cellsM_ids ms
          generalize cellsM ms = cs at *
          rw [keq] at hr hrl kids N0
          obtain ⟨kg, kr, kp, ke, kf⟩ := k
          simp only at *
          simp -implicitDefEqProofs [g, hr, hbb, t1, dlS_kPm]
          refine fin _ (weak_mk ?_ ?_ ?_ ?_ ?_ ?_)
          · simp -implicitDefEqProofs
          · simp -implicitDefEqProofs
          · intro p hp; exact .inl (kPm_self p hp)
          · simp -implicitDefEqProofs
          · simp -implicitDefEqProofs [cids]
          · intro p hp e he
            rw [kPm_ids hp he]; simp -implicitDefEqProofs
    · obtain rfl : i = l.length := by omega
      rw [List.take_length] at h2
      clear hK
      by_cases hms : ms = []
      · subst hms
        rw [← h2]
        simp only [stG]
        simp -implicitDefEqProofs
        refine postH_r ⟨?_, ?_, ?_, ?_, ?_, ?_⟩ <;> simp -implicitDefEqProofs
      · rw [stG_ne hms, ← h2]
        have cids := cellsM_ids ms
        have clen := cellsM_len ms
        have cfl : cellsM ms = (ms.map Ms.row).flatten := rfl
        simp -implicitDefEqProofs [dlS_kPm]
        refine postH_fr 4 (.n 33) ms.length 3 (ms.map Ms.row) ⟨?_, ?_, ?_, ?_, ?_, ?_, ?_⟩ ?_
        · simp -implicitDefEqProofs
        · simp -implicitDefEqProofs [cfl]
        · simp -implicitDefEqProofs
        · simp -implicitDefEqProofs
        · intro r hr
          obtain ⟨m, _, rfl⟩ := List.mem_map.1 hr
          rfl
        · rw [← cfl]; exact cids
        · simp -implicitDefEqProofs
        · refine ⟨?_, ?_, ?_, ?_, ?_, ?_⟩ <;> simp -implicitDefEqProofs
  · exact ⟨Nat.zero_le _, rfl, Nat.le_refl _⟩
  · simp only [stG]
    refine weak_mk ?_ ?_ ?_ ?_ ?_ ?_ <;> simp -implicitDefEqProofs [hL]
end Go.Ai
