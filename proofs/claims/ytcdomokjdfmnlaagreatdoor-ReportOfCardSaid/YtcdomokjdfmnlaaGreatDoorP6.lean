/- YtcdomokjdfmnlaaGreatDoorP6: part of the abstract interpreter library (values, rules, soundness against the model) or of what a function of the seat computes. Conditions: as each theorem says. -/
import Derived.Test.YtcdomokjdfmnlaaGreatDoorP5
import Derived.Test.YtcdomokjdfmnlaaGreatDoorP2
import Derived.Test.YtcdomokjdfmnlaaGreatDoorP1
set_option linter.unusedSimpArgs false
set_option linter.unusedVariables false
namespace Go.Ai
open Go.Proofs
set_option maxRecDepth 20000 in
theorem rof_tail (x : Vw) (ok : Vwok x) (M : List AV) (hM : M = x.row) (e : List (Nat × AV)) (e1 : lk e 1 = .ptr (.n 1) 0) (e2 : lk e 2 = .ptr (.n 2) 0) (e3 : lk e 3 = .ptr (.n 3) 0) :
    wpA (SpH Tryz.prog gl) (AC.tl 3 c14) (postA [.ca 2 4] (.agg (repOf x))) ⟨e, [(.n 1, M), (.n 2, [i6 0, i6 0, u 0, .nils]), (.n 3, [i6 x.now, i6 (waitOf x.es), u x.dr, .nils])], []⟩ := by
  simp only [c14, AC.tl]
  unfold repOf
  have GS := fun (g : GV) (h : g ∈ x.gs) => rgoal_spec g (ok.gs g h)
  obtain ⟨R, hR⟩ : ∃ R, R = (x.gs.map goalOf).map GRp.row := ⟨_, rfl⟩
  rw [← hR]
  have hlim : lim = 140737488355328 := rfl
  have ng := ok.ng
  have rl : (x.gs.map GV.row).length = x.gs.length := by simp
  have hM2 : ∀ h : 2 < M.length, M[2] = (.sl (x.gs.map GV.row)) := by intro h; subst hM; rfl
  have hMl : M.length = 11 := by subst hM; rfl
  have hM0 : idsL M = [] := by subst hM; rfl
  clear hM
  simp -implicitDefEqProofs
  refine wp_lpk (α := Nat) (fun i => ⟨[(1, .ptr (.n 1) 0), (2, .ptr (.n 2) 0), (3, .ptr (.n 3) 0), (5, i6 i)], [(.n 1, M), (.n 2, [i6 0, i6 0, u 0, .nils]), (.n 3, [i6 x.now, i6 (waitOf x.es), u x.dr, .sl (repTo x.gs i)])], [(.b (.n 3) 3, 12)]⟩)
    (fun i => i ≤ x.gs.length) (fun i => x.gs.length - i) ?_ 0 ?_ ?_
  · rintro K i hK h1
    by_cases gi : i < x.gs.length
    · have t1 : IntKind.i64.wrap ((i : Int) + 1) = (i + 1 : Nat) := by rw [wrap_i64] <;> omega
      have gR : i < (x.gs.map GV.row).length := by simpa using gi
      have ra := gv_at x.gs i gi gR
      have G1 := GS _ (List.getElem_mem gi)
      have r12 := repTo_12 x.gs i
      have rln := repTo_len x.gs i h1
      have q3 : (i + 1) * 120 ≤ 140737488355328 := by omega
      have fin : ∀ σ', Weak σ' ⟨[(1, .ptr (.n 1) 0), (2, .ptr (.n 2) 0), (3, .ptr (.n 3) 0), (5, i6 (i + 1 : Nat))], [(.n 1, M), (.n 2, [i6 0, i6 0, u 0, .nils]), (.n 3, [i6 x.now, i6 (waitOf x.es), u x.dr, .sl (repTo x.gs (i + 1))])], [(.b (.n 3) 3, 12)]⟩ → K σ' :=
        fun σ' hσ => hK (i + 1) σ' (by omega) (by omega) hσ
      rw [repTo_next x.gs i gi] at fin
      have hgl : (goalOf x.gs[i]).row.length = 12 := rfl
      have hgs : shutL (goalOf x.gs[i]).row = some (goalOf x.gs[i]).row := rfl
      have hml : (x.gs[i].row).length = 15 := rfl
      have hms : shutL x.gs[i].row = some x.gs[i].row := rfl
      have hm0 : idsL x.gs[i].row = [] := rfl
      clear hK hR GS
      generalize (goalOf x.gs[i]).row = GR at *
      generalize x.gs[i].row = N at *
      generalize repTo x.gs i = AC0 at *
      generalize x.gs.map GV.row = RW at *
      generalize waitOf x.es = W at *
      have hMt : N.take 15 = N := List.take_of_length_le (by omega)
      simp -implicitDefEqProofs [gi, gR, ra, hml, hMt, hms, hM2, hMl, rl]
      refine onC_mk _ G1 ?_
      simp -implicitDefEqProofs [hgs, hgl, hlim, rln, q3]
      refine ⟨r12, fin _ (weak_mk ?_ ?_ ?_ ?_ ?_ ?_)⟩ <;> simp -implicitDefEqProofs [t1, hM0]
    · obtain rfl : i = x.gs.length := by omega
      rw [repTo_all, ← hR]
      clear hK GS
      simp -implicitDefEqProofs [hM2, hMl, rl]
  · exact Nat.zero_le _
  · refine weak_mk ?_ ?_ ?_ ?_ ?_ ?_ <;> simp -implicitDefEqProofs [repTo, e1, e2, e3, hM0]
set_option maxRecDepth 20000 in
theorem rof_spec (x : Vw) (ok : Vwok x) : Sp Tryz.prog gl 14 [.agg x.row] (.agg (repOf x)) := by
  refine s14 rfl rfl ?_
  have T := fun e e1 e2 e3 => rof_tail x ok x.row rfl e e1 e2 e3
  have ne := ok.ne
  obtain ⟨M, hM⟩ : ∃ M, M = x.row := ⟨_, rfl⟩
  rw [← hM] at T ⊢
  obtain ⟨R, hR⟩ : ∃ R, R = repOf x := ⟨_, rfl⟩
  rw [← hR] at T ⊢
  clear hR
  have hM0' : ∀ h : 0 < M.length, M[0] = (i6 x.now) := by intro h; subst hM; rfl
  have hM8 : ∀ h : 8 < M.length, M[8] = (.sl (x.es.map En.row)) := by intro h; subst hM; rfl
  have hM9 : ∀ h : 9 < M.length, M[9] = (u x.dr) := by intro h; subst hM; rfl
  have hMl : M.length = 11 := by subst hM; rfl
  have hM0 : idsL M = [] := by subst hM; rfl
  clear hM
  have rl : (x.es.map En.row).length = x.es.length := by simp
  have ec : c14 = AC.cutAt 3 (AC.tl 3 c14) c14 := rfl
  rw [ec]
  generalize AC.tl 3 c14 = t at T ⊢
  simp only [c14, AC.cutAt]
  simp -implicitDefEqProofs [hM0', hM9, hMl]
  refine wp_lpk (α := Nat) (fun i => ⟨[(1, .ptr (.n 1) 0), (2, .ptr (.n 2) 0), (3, .ptr (.n 3) 0), (4, i6 i)], [(.n 1, M), (.n 2, [i6 0, i6 0, u 0, .nils]), (.n 3, [i6 x.now, i6 (waitOf (x.es.take i)), u x.dr, .nils])], []⟩)
    (fun i => i ≤ x.es.length) (fun i => x.es.length - i) ?_ 0 ?_ ?_
  · rintro K i hK h1
    by_cases gi : i < x.es.length
    · have t1 : IntKind.i64.wrap ((i : Int) + 1) = (i + 1 : Nat) := by rw [wrap_i64] <;> omega
      have gR : i < (x.es.map En.row).length := by simpa using gi
      have ra := en_at x.es i gi gR
      have wl : waitOf (x.es.take i) ≤ i := Nat.le_trans (waitOf_le _) (by simp; omega)
      have t2 : IntKind.i64.wrap ((waitOf (x.es.take i) : Int) + 1) = (waitOf (x.es.take i) : Int) + 1 := by rw [wrap_i64] <;> omega
      have fin : ∀ v : Int, v = ((waitOf (x.es.take (i + 1)) : Nat) : Int) → ∀ σ', Weak σ' ⟨[(1, .ptr (.n 1) 0), (2, .ptr (.n 2) 0), (3, .ptr (.n 3) 0), (4, i6 (i + 1 : Nat))], [(.n 1, M), (.n 2, [i6 0, i6 0, u 0, .nils]), (.n 3, [i6 x.now, i6 v, u x.dr, .nils])], []⟩ → K σ' :=
        fun v hv σ' hσ => hK (i + 1) σ' (by omega) (by omega) (by rw [← hv]; exact hσ)
      rw [waitOf_take x.es i gi, Int.natCast_add] at fin
      clear hK wl T
      generalize ((waitOf (x.es.take i) : Nat) : Int) = W at *
      generalize x.es[i] = a at *
      generalize x.es.map En.row = RW at *
      generalize ht3 : (AC.cd (.s 27) (AC.rg [AOp.fa 28 (.s 3) 1, .lds 29 (.s 28), .bi 30 .add (.s 29) (.c (.int .i64 1)), .fa 31 (.s 3) 1, .st 1 (.s 31) (.s 30)]) AC.sk) = t3
      simp -implicitDefEqProofs [gi, gR, ra, hM8, hMl, rl]
      subst ht3
      rcases Bool.eq_false_or_eq_true a.ak with hak | hak
      · have hn : (!a.ak) = false := by simp [hak]
        have fin2 := fin W (by rw [hak]; simp)
        clear fin
        generalize (!a.ak) = nb at *
        subst hn
        clear hak
        generalize a.ak = ab at *
        simp -implicitDefEqProofs
        refine fin2 _ (weak_mk ?_ ?_ ?_ ?_ ?_ ?_) <;> simp -implicitDefEqProofs [t1, hM0]
      · have hn : (!a.ak) = true := by simp [hak]
        have fin2 := fin (W + 1) (by rw [hak]; simp)
        clear fin
        generalize (!a.ak) = nb at *
        subst hn
        clear hak
        generalize a.ak = ab at *
        simp -implicitDefEqProofs
        refine fin2 _ (weak_mk ?_ ?_ ?_ ?_ ?_ ?_) <;> simp -implicitDefEqProofs [t1, t2, hM0]
    · obtain rfl : i = x.es.length := by omega
      rw [List.take_length]
      clear hK
      generalize waitOf x.es = W at *
      simp -implicitDefEqProofs [hM8, hMl, rl]
      refine T _ ?_ ?_ ?_ <;> simp -implicitDefEqProofs
  · exact Nat.zero_le _
  · refine weak_mk ?_ ?_ ?_ ?_ ?_ ?_ <;> simp -implicitDefEqProofs [waitOf, hM0]
end Go.Ai
set_option linter.unusedSimpArgs false
set_option linter.unusedVariables false
namespace Go.Ai
open Go.Proofs
theorem grp_at (l : List GRp) (i : Nat) (h : i < l.length) (h2 : i < (l.map GRp.row).length) : (l.map GRp.row)[i] = [.str l[i].n, .bool l[i].st, .bool (decide (l[i].ro < 0)), u (l[i].ro.natAbs / 18446744073709551616), u (l[i].ro.natAbs % 18446744073709551616), .bool (decide (l[i].ca < 0)), u (l[i].ca.natAbs / 18446744073709551616), u (l[i].ca.natAbs % 18446744073709551616),
  i6 l[i].ok, u (l[i].ot / 18446744073709551616), u (l[i].ot % 18446744073709551616), .sl (l[i].rs.map RRp.row)] := by simp [GRp.row]
theorem rrp_at (l : List RRp) (i : Nat) (h : i < l.length) (h2 : i < (l.map RRp.row).length) : (l.map RRp.row)[i] = [.str l[i].n, .bool l[i].p, i6 l[i].ph, u l[i].l, u l[i].s] := by simp [RRp.row]
set_option maxRecDepth 40000 in
theorem same33_spec (a b : Int) (c : Nat) (gs : List GRp) (hn : gs.length ≤ 1000000) (hr : ∀ g ∈ gs, g.rs.length ≤ 1000000) :
    Sp Tryz.prog gl 12 [.agg [i6 a, i6 b, u c, .sl (gs.map GRp.row)], .agg [i6 a, i6 b, u c, .sl (gs.map GRp.row)]] (.bool true) := by
  refine s12 rfl rfl ?_
  have rl : (gs.map GRp.row).length = gs.length := by simp
  have rat := grp_at gs
  generalize gs.map GRp.row = RW at *
  simp -implicitDefEqProofs [c12]
  refine wp_lpk (α := Nat) (fun i => ⟨[(2, .ptr (.n 2) 0), (3, .ptr (.n 3) 0), (5, i6 i)], [(.n 2, [i6 a, i6 b, u c, .sl RW]), (.n 3, [i6 a, i6 b, u c, .sl RW])], []⟩)
    (fun i => i ≤ gs.length) (fun i => gs.length - i) ?_ 0 ?_ ?_
  · rintro K i hK h1
    by_cases gi : i < gs.length
    · have t1 : IntKind.i64.wrap ((i : Int) + 1) = (i + 1 : Nat) := by rw [wrap_i64] <;> omega
      have gR : i < RW.length := by omega
      have ra := rat i gi gR
      have hrs := hr _ (List.getElem_mem gi)
      have fin : ∀ σ', Weak σ' ⟨[(2, .ptr (.n 2) 0), (3, .ptr (.n 3) 0), (5, i6 (i + 1 : Nat))], [(.n 2, [i6 a, i6 b, u c, .sl RW]), (.n 3, [i6 a, i6 b, u c, .sl RW])], []⟩ → K σ' :=
        fun σ' hσ => hK (i + 1) σ' (by omega) (by omega) hσ
      clear hK rat hr
      have jl : (gs[i].rs.map RRp.row).length = gs[i].rs.length := by simp
      have jat := rrp_at gs[i].rs
      generalize gs[i].rs.map RRp.row = JW at *
      generalize gs[i].rs = rs at *
      generalize decide (gs[i].ro < 0) = b1 at *
      generalize gs[i].ro.natAbs / 18446744073709551616 = h11 at *
      generalize gs[i].ro.natAbs % 18446744073709551616 = l11 at *
      generalize decide (gs[i].ca < 0) = b2 at *
      generalize gs[i].ca.natAbs / 18446744073709551616 = h22 at *
      generalize gs[i].ca.natAbs % 18446744073709551616 = l22 at *
      generalize gs[i].ot / 18446744073709551616 = oh at *
      generalize gs[i].ot % 18446744073709551616 = ol at *
      generalize gs[i] = g at *
      simp -implicitDefEqProofs [gi, gR, ra, rl]
      refine wp_lpk (α := Nat) (fun j => ⟨[(2, .ptr (.n 2) 0), (3, .ptr (.n 3) 0), (5, i6 i), (6, .ptr (.n 6) 0), (7, .ptr (.n 7) 0), (8, i6 j)], [(.n 2, [i6 a, i6 b, u c, .sl RW]), (.n 3, [i6 a, i6 b, u c, .sl RW]),
          (.n 6, [.str g.n, .bool g.st, .bool b1, u h11, u l11, .bool b2, u h22, u l22, i6 g.ok, u oh, u ol, .sl JW]), (.n 7, [.str g.n, .bool g.st, .bool b1, u h11, u l11, .bool b2, u h22, u l22, i6 g.ok, u oh, u ol, .sl JW])], []⟩)
        (fun j => j ≤ rs.length) (fun j => rs.length - j) ?_ 0 ?_ ?_
      · rintro K2 j hK2 j1
        by_cases gj : j < rs.length
        · have t2 : IntKind.i64.wrap ((j : Int) + 1) = (j + 1 : Nat) := by rw [wrap_i64] <;> omega
          have gJ : j < JW.length := by omega
          have ja := jat j gj gJ
          have fin2 : ∀ σ', Weak σ' ⟨[(2, .ptr (.n 2) 0), (3, .ptr (.n 3) 0), (5, i6 i), (6, .ptr (.n 6) 0), (7, .ptr (.n 7) 0), (8, i6 (j + 1 : Nat))], [(.n 2, [i6 a, i6 b, u c, .sl RW]), (.n 3, [i6 a, i6 b, u c, .sl RW]),
              (.n 6, [.str g.n, .bool g.st, .bool b1, u h11, u l11, .bool b2, u h22, u l22, i6 g.ok, u oh, u ol, .sl JW]), (.n 7, [.str g.n, .bool g.st, .bool b1, u h11, u l11, .bool b2, u h22, u l22, i6 g.ok, u oh, u ol, .sl JW])], []⟩ → K2 σ' :=
            fun σ' hσ => hK2 (j + 1) σ' (by omega) (by omega) hσ
          clear hK2 fin jat
          simp -implicitDefEqProofs [gj, gJ, ja, jl]
          refine fin2 _ (weak_mk ?_ ?_ ?_ ?_ ?_ ?_) <;> simp -implicitDefEqProofs [t2]
        · obtain rfl : j = rs.length := by omega
          clear hK2 jat
          simp -implicitDefEqProofs [jl]
          refine fin _ (weak_mk ?_ ?_ ?_ ?_ ?_ ?_) <;> simp -implicitDefEqProofs [t1]
      · exact Nat.zero_le _
      · refine weak_mk ?_ ?_ ?_ ?_ ?_ ?_ <;> simp -implicitDefEqProofs
    · obtain rfl : i = gs.length := by omega
      clear hK rat
      simp -implicitDefEqProofs [rl]
  · exact Nat.zero_le _
  · refine weak_mk ?_ ?_ ?_ ?_ ?_ ?_ <;> simp -implicitDefEqProofs
end Go.Ai
set_option linter.unusedSimpArgs false
set_option linter.unusedVariables false
namespace Go.Ai
open Go.Proofs
def heavyLb (y : Lb) : Bool := decide ((2000 : Int) < y.n.length) || decide ((2000 : Int) < y.t.length)
def heavyRu (y : Ru) : Bool := decide ((2000 : Int) < y.n.length)
def heavyG (x : Gl) : Bool := (decide ((2000 : Int) < x.n.length) || (decide ((10 : Int) < x.lb.length) || decide ((10 : Int) < x.ru.length))) || (x.lb.any heavyLb || x.ru.any heavyRu)
theorem any_at {α : Type} (p : α → Bool) (l : List α) (i : Nat) (h : i < l.length) : (l.drop i).any p = (p l[i] || (l.drop (i + 1)).any p) := by
  rw [List.drop_eq_getElem_cons h, List.any_cons]
set_option maxRecDepth 20000 in
theorem heavyG_rules (n : List UInt8) (t : Nat) (g a o c : Int) (LB : List (List AV)) (ru : List Ru) (hl : ru.length ≤ 10) (e : List (Nat × AV)) (l1 : lk e 1 = .ptr (.n 1) 0) :
    wpA (SpH Tryz.prog gl) (AC.tl 3 c16) (postA [.t 2] (.bool (ru.any heavyRu))) ⟨e, [(.n 1, [.str n, .int .u32 t, i6 g, i6 a, i6 o, i6 c, .sl LB, .sl (ru.map Ru.row)])], []⟩ := by
  obtain ⟨R, hR⟩ : ∃ R, R = ru.any heavyRu := ⟨_, rfl⟩
  rw [← hR]
  have rat : ∀ i (h : i < ru.length), ∀ h2, (ru.map Ru.row)[i]'h2 = [.str ru[i].n, .bool ru[i].p, i6 ru[i].l, i6 ru[i].s, u ru[i].f, i6 ru[i].w, i6 ru[i].k] := fun i h h2 => by simp [Ru.row]
  have rl : (ru.map Ru.row).length = ru.length := by simp
  generalize ru.map Ru.row = RU at *
  simp only [c16, AC.tl]
  simp -implicitDefEqProofs
  refine wp_lpk (α := Nat) (fun i => ⟨[(1, .ptr (.n 1) 0), (4, i6 i)], [(.n 1, [.str n, .int .u32 t, i6 g, i6 a, i6 o, i6 c, .sl LB, .sl RU])], []⟩)
    (fun i => i ≤ ru.length ∧ (ru.drop i).any heavyRu = R) (fun i => ru.length - i) ?_ 0 ?_ ?_
  · rintro K i hK ⟨h1, h2⟩
    by_cases gi : i < ru.length
    · have t1 : IntKind.i64.wrap ((i : Int) + 1) = (i + 1 : Nat) := by rw [wrap_i64] <;> omega
      have ra := rat i gi
      have gR : i < RU.length := by omega
      rw [any_at _ _ _ gi] at h2
      have fin : heavyRu ru[i] = false → ∀ σ', Weak σ' ⟨[(1, .ptr (.n 1) 0), (4, i6 (i + 1 : Nat))], [(.n 1, [.str n, .int .u32 t, i6 g, i6 a, i6 o, i6 c, .sl LB, .sl RU])], []⟩ → K σ' :=
        fun hb σ' hσ => hK (i + 1) σ' ⟨by omega, by rw [hb, Bool.false_or] at h2; exact h2⟩ (by omega) hσ
      have hno : heavyRu ru[i] = true → R = true := fun hb => by rw [hb, Bool.true_or] at h2; exact h2.symm
      unfold heavyRu at fin hno
      clear hK h2 hR rat
      generalize ru[i].n = yn at *
      by_cases q : (2000 : Int) < yn.length
      · have q2 : 2000 < yn.length := by omega
        rw [hno (by simpa using q)]
        simp -implicitDefEqProofs [gi, gR, ra, rl, q, q2]
      · have q2 : ¬ 2000 < yn.length := by omega
        have fin := fin (by simpa using q)
        simp -implicitDefEqProofs [gi, gR, ra, rl, q, q2]
        refine fin _ ?_
        refine weak_mk ?_ ?_ ?_ ?_ ?_ ?_ <;> simp -implicitDefEqProofs [t1]
    · obtain rfl : i = ru.length := by omega
      rw [List.drop_length] at h2
      have : R = false := by rw [← h2]; rfl
      subst this
      clear hK
      simp -implicitDefEqProofs [rl]
  · exact ⟨Nat.zero_le _, by rw [hR]; rfl⟩
  · refine weak_mk ?_ ?_ ?_ ?_ ?_ ?_ <;> simp -implicitDefEqProofs [l1]
set_option maxRecDepth 20000 in
theorem heavyG_labels (n : List UInt8) (t : Nat) (g a o c : Int) (lb : List Lb) (ru : List Ru) (hll : lb.length ≤ 10) (hl : ru.length ≤ 10) (e : List (Nat × AV)) (l1 : lk e 1 = .ptr (.n 1) 0) :
    wpA (SpH Tryz.prog gl) (AC.tl 2 c16) (postA [.t 2] (.bool (lb.any heavyLb || ru.any heavyRu))) ⟨e, [(.n 1, [.str n, .int .u32 t, i6 g, i6 a, i6 o, i6 c, .sl (lb.map Lb.row), .sl (ru.map Ru.row)])], []⟩ := by
  have ec : AC.tl 2 c16 = AC.cutAt 1 (AC.tl 3 c16) (AC.tl 2 c16) := rfl
  rw [ec]
  have tail := heavyG_rules n t g a o c (lb.map Lb.row) ru hl
  generalize AC.tl 3 c16 = TT at tail ⊢
  obtain ⟨R, hR⟩ : ∃ R, R = lb.any heavyLb := ⟨_, rfl⟩
  rw [← hR]
  generalize ru.any heavyRu = R2 at *
  have rat : ∀ i (h : i < lb.length), ∀ h2, (lb.map Lb.row)[i]'h2 = [.str lb[i].n, .str lb[i].t] := fun i h h2 => by simp [Lb.row]
  have rl : (lb.map Lb.row).length = lb.length := by simp
  generalize lb.map Lb.row = RU at *
  generalize ru.map Ru.row = RR at *
  simp only [c16, AC.tl, AC.cutAt]
  simp -implicitDefEqProofs
  refine wp_lpk (α := Nat) (fun i => ⟨[(1, .ptr (.n 1) 0), (3, i6 i)], [(.n 1, [.str n, .int .u32 t, i6 g, i6 a, i6 o, i6 c, .sl RU, .sl RR])], []⟩)
    (fun i => i ≤ lb.length ∧ (lb.drop i).any heavyLb = R) (fun i => lb.length - i) ?_ 0 ?_ ?_
  · rintro K i hK ⟨h1, h2⟩
    by_cases gi : i < lb.length
    · have t1 : IntKind.i64.wrap ((i : Int) + 1) = (i + 1 : Nat) := by rw [wrap_i64] <;> omega
      have ra := rat i gi
      have gR : i < RU.length := by omega
      rw [any_at _ _ _ gi] at h2
      have fin : heavyLb lb[i] = false → ∀ σ', Weak σ' ⟨[(1, .ptr (.n 1) 0), (3, i6 (i + 1 : Nat))], [(.n 1, [.str n, .int .u32 t, i6 g, i6 a, i6 o, i6 c, .sl RU, .sl RR])], []⟩ → K σ' :=
        fun hb σ' hσ => hK (i + 1) σ' ⟨by omega, by rw [hb, Bool.false_or] at h2; exact h2⟩ (by omega) hσ
      have hno : heavyLb lb[i] = true → R = true := fun hb => by rw [hb, Bool.true_or] at h2; exact h2.symm
      unfold heavyLb at fin hno
      clear hK h2 hR rat tail
      generalize lb[i].n = yn at *
      generalize lb[i].t = yt at *
      by_cases q : (2000 : Int) < yn.length
      · have q2 : 2000 < yn.length := by omega
        rw [hno (by rw [decide_eq_true q, Bool.true_or])]
        simp -implicitDefEqProofs [gi, gR, ra, rl, q, q2]
      · have q2 : ¬ 2000 < yn.length := by omega
        by_cases q3 : (2000 : Int) < yt.length
        · have q4 : 2000 < yt.length := by omega
          rw [hno (by rw [decide_eq_true q3, Bool.or_true])]
          simp -implicitDefEqProofs [gi, gR, ra, rl, q, q2, q3, q4]
        · have q4 : ¬ 2000 < yt.length := by omega
          have fin := fin (by rw [decide_eq_false q, decide_eq_false q3]; rfl)
          simp -implicitDefEqProofs [gi, gR, ra, rl, q, q2, q3, q4]
          refine fin _ ?_
          refine weak_mk ?_ ?_ ?_ ?_ ?_ ?_ <;> simp -implicitDefEqProofs [t1]
    · obtain rfl : i = lb.length := by omega
      rw [List.drop_length] at h2
      have : R = false := by rw [← h2]; rfl
      subst this
      clear hK
      simp -implicitDefEqProofs [rl]
      refine tail _ ?_
      simp -implicitDefEqProofs
  · exact ⟨Nat.zero_le _, by rw [hR]; rfl⟩
  · refine weak_mk ?_ ?_ ?_ ?_ ?_ ?_ <;> simp -implicitDefEqProofs [l1]
set_option maxRecDepth 20000 in
theorem heavyG_spec (x : Gl) : Sp Tryz.prog gl 16 [.agg x.row] (.bool (heavyG x)) := by
  refine s16 rfl rfl ?_
  have ec : c16 = AC.cutAt 2 (AC.tl 2 c16) c16 := rfl
  rw [ec]
  obtain ⟨nm, t, g, a, o, c, lb, ru⟩ := x
  have tail := fun h1 h2 => heavyG_labels nm t g a o c lb ru h1 h2
  generalize AC.tl 2 c16 = TT at tail ⊢
  have hR : heavyG ⟨nm, t, g, a, o, c, lb, ru⟩ = ((decide ((2000 : Int) < nm.length) || (decide ((10 : Int) < lb.length) || decide ((10 : Int) < ru.length))) || (lb.any heavyLb || ru.any heavyRu)) := rfl
  have rl1 : (lb.map Lb.row).length = lb.length := by simp
  have rl2 : (ru.map Ru.row).length = ru.length := by simp
  simp only [Gl.row]
  generalize heavyG ⟨nm, t, g, a, o, c, lb, ru⟩ = R at *
  generalize (lb.any heavyLb || ru.any heavyRu) = E at *
  generalize lb.map Lb.row = LB at *
  generalize ru.map Ru.row = RU at *
  generalize lb.length = n1 at *
  generalize ru.length = n2 at *
  simp only [c16, AC.cutAt]
  by_cases q1 : (2000 : Int) < nm.length
  · have q1' : 2000 < nm.length := by omega
    rw [decide_eq_true q1] at hR
    simp -implicitDefEqProofs [q1, q1', hR]
  · have q1' : ¬ 2000 < nm.length := by omega
    by_cases q2 : (10 : Int) < n1
    · have q2' : 10 < n1 := by omega
      rw [decide_eq_true q2] at hR
      simp -implicitDefEqProofs [q1, q1', rl1, q2, q2', hR]
    · have q2' : ¬ 10 < n1 := by omega
      by_cases q3 : (10 : Int) < n2
      · have q3' : 10 < n2 := by omega
        rw [decide_eq_true q3] at hR
        simp -implicitDefEqProofs [q1, q1', rl1, rl2, q2, q2', q3, q3', hR]
      · have q3' : ¬ 10 < n2 := by omega
        rw [decide_eq_false q1, decide_eq_false q2, decide_eq_false q3] at hR
        have tail := tail (by omega) (by omega)
        have : R = E := by rw [hR]; rfl
        subst this
        simp -implicitDefEqProofs [q1, q1', rl1, rl2, q2, q2', q3, q3']
        refine tail _ ?_
        simp -implicitDefEqProofs
end Go.Ai
set_option linter.unusedSimpArgs false
set_option linter.unusedVariables false
namespace Go.Ai
open Go.Proofs
theorem krow (k : Ky) : k.row = [.str k.g, .str k.r, .bool k.p, u k.e, .bool k.f] := rfl
theorem xheavy_spec (k : Ky) : Sp Tryz.prog gl 101 [.agg k.row] (.bool (decide (500 < k.g.length ∨ 500 < k.r.length))) := by
  refine s101 rfl rfl ?_
  obtain ⟨kg, kr, kp, ke, kf⟩ := k
  unfold Ky.row
  simp only
  by_cases h : 500 < kg.length
  · have h' : (500 : Int) < kg.length := by omega
    simp -implicitDefEqProofs [c101, h, h']
  · have h' : ¬ (500 : Int) < kg.length := by omega
    simp -implicitDefEqProofs [c101, h, h']
    omega
def heavyK (k : Ky) : Bool := decide (500 < k.g.length ∨ 500 < k.r.length)
theorem int_beq_nat (a b : Nat) : ((a : Int) == (b : Int)) = (a == b) := by
  rw [Bool.eq_iff_iff]; simp; omega
theorem ky_beq (a b : Ky) : (a.g == b.g && (a.r == b.r && (a.p == b.p && (((a.e : Int) == (b.e : Int)) && a.f == b.f)))) = decide (a = b) := by
  obtain ⟨g, r, p, e, f⟩ := a
  obtain ⟨g', r', p', e', f'⟩ := b
  rw [Bool.eq_iff_iff, int_beq_nat]
  simp
def rightK (k : Ky) : Bool := nameT k.g && nameT k.r && decide (1 ≤ k.e ∧ k.e ≤ 4611686018427387904)
end Go.Ai
set_option linter.unusedSimpArgs false
set_option linter.unusedVariables false
namespace Go.Ai
open Go.Proofs
def heavyEn (es : List En) : Bool := decide (80 < es.length) || es.any fun e => heavyK e.k
def heavySi (ss : List Si) : Bool := decide (30 < ss.length) || ss.any fun s => decide (500 < s.n.length) || decide (500 < s.g.length)
def heavyGv (g : GV) : Bool := heavyG g.g || (decide (20 < g.ws.length) || decide (10 < g.al.length))
def heavyVw (x : Vw) : Bool := decide (8 < x.gs.length) || (heavyEn x.es || (heavySi x.ss || x.gs.any heavyGv))
theorem anyD {α : Type} (p : α → Bool) (l : List α) (i : Nat) (h : i < l.length) : (l.drop i).any p = (p l[i] || (l.drop (i + 1)).any p) := by
  rw [List.drop_eq_getElem_cons h, List.any_cons]
set_option maxRecDepth 20000 in
theorem heavyEn_spec (es : List En) (dr : Nat) : Sp Tryz.prog gl 44 [.agg [.sl (es.map En.row), u dr]] (.bool (heavyEn es)) := by
  refine s44 rfl rfl ?_
  unfold heavyEn
  have rl : (es.map En.row).length = es.length := by simp
  by_cases h : 80 < es.length
  · have h' : (80 : Int) < es.length := by omega
    simp -implicitDefEqProofs [c44, h, h']
  · have h' : ¬ (80 : Int) < es.length := by omega
    rw [decide_eq_false h, Bool.false_or]
    obtain ⟨R, hR⟩ : ∃ R, R = es.any fun e => heavyK e.k := ⟨_, rfl⟩
    rw [← hR]
    have rat := en_at es
    simp -implicitDefEqProofs [c44, h, h']
    refine wp_lpk (α := Nat) (fun i => ⟨[(1, .ptr (.n 1) 0), (3, i6 i)], [(.n 1, [.sl (es.map En.row), u dr])], []⟩)
      (fun i => i ≤ es.length ∧ ((es.drop i).any fun e => heavyK e.k) = R) (fun i => es.length - i) ?_ 0 ?_ ?_
    · rintro K i hK ⟨h1, h2⟩
      by_cases gi : i < es.length
      · have t1 : IntKind.i64.wrap ((i : Int) + 1) = (i + 1 : Nat) := by rw [wrap_i64] <;> omega
        have gR : i < (es.map En.row).length := by omega
        have ra := rat i gi gR
        rw [anyD _ es i gi] at h2
        have HX := xheavy_spec es[i].k
        change Sp _ _ _ _ (.bool (heavyK es[i].k)) at HX
        have kr : es[i].k.row = [.str es[i].k.g, .str es[i].k.r, .bool es[i].k.p, u es[i].k.e, .bool es[i].k.f] := rfl
        rw [kr] at HX
        have fin : ((es.drop (i + 1)).any fun e => heavyK e.k) = R → ∀ σ', Weak σ' ⟨[(1, .ptr (.n 1) 0), (3, i6 (i + 1 : Nat))], [(.n 1, [.sl (es.map En.row), u dr])], []⟩ → K σ' :=
          fun hh σ' hσ => hK (i + 1) σ' ⟨by omega, hh⟩ (by omega) hσ
        clear hK hR rat kr
        generalize heavyK es[i].k = hk at *
        generalize es[i] = a at *
        generalize es.map En.row = RW at *
        simp -implicitDefEqProofs [gi, gR, ra, rl]
        refine onC_mk _ HX ?_
        cases hk
        · rw [Bool.false_or] at h2
          have fin := fin h2
          simp -implicitDefEqProofs
          refine fin _ (weak_mk ?_ ?_ ?_ ?_ ?_ ?_) <;> simp -implicitDefEqProofs [t1]
        · rw [Bool.true_or] at h2
          subst h2
          simp -implicitDefEqProofs
      · obtain rfl : i = es.length := by omega
        rw [List.drop_length] at h2
        simp only [List.any_nil] at h2
        subst h2
        clear hK rat
        simp -implicitDefEqProofs [rl]
    · exact ⟨Nat.zero_le _, by rw [List.drop_zero]; exact hR.symm⟩
    · refine weak_mk ?_ ?_ ?_ ?_ ?_ ?_ <;> simp -implicitDefEqProofs
theorem si_at (l : List Si) (i : Nat) (h : i < l.length) (h2 : i < (l.map Si.row).length) : (l.map Si.row)[i] = [.str l[i].n, .str l[i].g, i6 l[i].wh, i6 l[i].fr, i6 l[i].to] := by simp [Si.row]
set_option maxRecDepth 20000 in
theorem heavySi_spec (ss : List Si) : Sp Tryz.prog gl 45 [.sl (ss.map Si.row)] (.bool (heavySi ss)) := by
  refine s45 rfl rfl ?_
  unfold heavySi
  have rl : (ss.map Si.row).length = ss.length := by simp
  by_cases h : 30 < ss.length
  · have h' : (30 : Int) < ss.length := by omega
    simp -implicitDefEqProofs [c45, h, h']
  · have h' : ¬ (30 : Int) < ss.length := by omega
    rw [decide_eq_false h, Bool.false_or]
    obtain ⟨R, hR⟩ : ∃ R, R = ss.any fun s => decide (500 < s.n.length) || decide (500 < s.g.length) := ⟨_, rfl⟩
    rw [← hR]
    have rat := si_at ss
    simp -implicitDefEqProofs [c45, h, h']
    refine wp_lpk (α := Nat) (fun i => ⟨[(0, .sl (ss.map Si.row)), (3, i6 i)], [], []⟩)
      (fun i => i ≤ ss.length ∧ ((ss.drop i).any fun s => decide (500 < s.n.length) || decide (500 < s.g.length)) = R) (fun i => ss.length - i) ?_ 0 ?_ ?_
    · rintro K i hK ⟨h1, h2⟩
      by_cases gi : i < ss.length
      · have t1 : IntKind.i64.wrap ((i : Int) + 1) = (i + 1 : Nat) := by rw [wrap_i64] <;> omega
        have gR : i < (ss.map Si.row).length := by omega
        have ra := rat i gi gR
        rw [anyD _ ss i gi] at h2
        have fin : ((ss.drop (i + 1)).any fun s => decide (500 < s.n.length) || decide (500 < s.g.length)) = R → ∀ σ', Weak σ' ⟨[(0, .sl (ss.map Si.row)), (3, i6 (i + 1 : Nat))], [], []⟩ → K σ' :=
          fun hh σ' hσ => hK (i + 1) σ' ⟨by omega, hh⟩ (by omega) hσ
        clear hK hR rat
        generalize ss[i] = a at *
        generalize ss.map Si.row = RW at *
        by_cases c1 : 500 < a.n.length
        · rw [decide_eq_true c1, Bool.true_or, Bool.true_or] at h2
          subst h2
          have c1' : (500 : Int) < a.n.length := by omega
          simp -implicitDefEqProofs [gi, gR, ra, rl, c1']
        · have c1' : ¬ (500 : Int) < a.n.length := by omega
          by_cases c2 : 500 < a.g.length
          · rw [decide_eq_true c2, Bool.or_true, Bool.true_or] at h2
            subst h2
            have c2' : (500 : Int) < a.g.length := by omega
            simp -implicitDefEqProofs [gi, gR, ra, rl, c1', c2']
          · rw [decide_eq_false c1, decide_eq_false c2, Bool.false_or, Bool.false_or] at h2
            have fin := fin h2
            have c2' : ¬ (500 : Int) < a.g.length := by omega
            simp -implicitDefEqProofs [gi, gR, ra, rl, c1', c2']
            refine fin _ (weak_mk ?_ ?_ ?_ ?_ ?_ ?_) <;> simp -implicitDefEqProofs [t1]
      · obtain rfl : i = ss.length := by omega
        rw [List.drop_length] at h2
        simp only [List.any_nil] at h2
        subst h2
        clear hK rat
        simp -implicitDefEqProofs [rl]
    · exact ⟨Nat.zero_le _, by rw [List.drop_zero]; exact hR.symm⟩
    · refine weak_mk ?_ ?_ ?_ ?_ ?_ ?_ <;> simp -implicitDefEqProofs
end Go.Ai
set_option linter.unusedSimpArgs false
set_option linter.unusedVariables false
namespace Go.Ai
open Go.Proofs
set_option maxRecDepth 40000 in
theorem heavyVw_spec (x : Vw) : Sp Tryz.prog gl 11 [.agg x.row] (.bool (heavyVw x)) := by
  refine s11 rfl rfl ?_
  unfold heavyVw
  have EN := heavyEn_spec x.es x.dr
  have SI := heavySi_spec x.ss
  have rl : (x.gs.map GV.row).length = x.gs.length := by simp
  have rat := gv_at x.gs
  have hM2 : ∀ h : 2 < x.row.length, x.row[2] = (.sl (x.gs.map GV.row)) := by intro h; rfl
  have hM10 : ∀ h : 10 < x.row.length, x.row[10] = (.sl (x.ss.map Si.row)) := by intro h; rfl
  have hMb : List.take 2 (List.drop 8 x.row) = [.sl (x.es.map En.row), u x.dr] := rfl
  have hMl : x.row.length = 11 := rfl
  have hM0 : idsL x.row = [] := rfl
  generalize x.row = M at *
  by_cases h8 : 8 < x.gs.length
  · have h8' : (8 : Int) < x.gs.length := by omega
    simp only [decide_eq_true h8, Bool.true_or]
    simp -implicitDefEqProofs [c11, hM2, hMl, h8, h8', rl]
  · have h8' : ¬ (8 : Int) < x.gs.length := by omega
    simp only [decide_eq_false h8, Bool.false_or]
    generalize heavyEn x.es = he at *
    generalize heavySi x.ss = hs at *
    cases he
    · cases hs
      · rw [Bool.false_or, Bool.false_or]
        obtain ⟨R, hR⟩ : ∃ R, R = x.gs.any heavyGv := ⟨_, rfl⟩
        rw [← hR]
        simp -implicitDefEqProofs [c11, hM2, hM10, hMb, hMl, h8, h8', rl]
        refine onC_mk _ EN ?_
        simp -implicitDefEqProofs [hM10, hMl]
        refine onC_mk _ SI ?_
        simp -implicitDefEqProofs
        refine wp_lpk (α := Nat) (fun i => ⟨[(1, .ptr (.n 1) 0), (3, i6 i)], [(.n 1, M)], []⟩)
          (fun i => i ≤ x.gs.length ∧ (x.gs.drop i).any heavyGv = R) (fun i => x.gs.length - i) ?_ 0 ?_ ?_
        · rintro K i hK ⟨h1, h2⟩
          by_cases gi : i < x.gs.length
          · have t1 : IntKind.i64.wrap ((i : Int) + 1) = (i + 1 : Nat) := by rw [wrap_i64] <;> omega
            have gR : i < (x.gs.map GV.row).length := by omega
            have ra := rat i gi gR
            rw [anyD _ x.gs i gi] at h2
            rw [GV_row] at ra
            have HG := heavyG_spec x.gs[i].g
            have gr : x.gs[i].g.row = [.str x.gs[i].g.n, .int .u32 x.gs[i].g.t, i6 x.gs[i].g.g, i6 x.gs[i].g.a, i6 x.gs[i].g.o, i6 x.gs[i].g.c, .sl (x.gs[i].g.lb.map Lb.row), .sl (x.gs[i].g.ru.map Ru.row)] := rfl
            rw [gr] at HG
            have fin : (x.gs.drop (i + 1)).any heavyGv = R → ∀ σ', Weak σ' ⟨[(1, .ptr (.n 1) 0), (3, i6 (i + 1 : Nat))], [(.n 1, M)], []⟩ → K σ' :=
              fun hh σ' hσ => hK (i + 1) σ' ⟨by omega, hh⟩ (by omega) hσ
            unfold heavyGv at h2
            have wl : (x.gs[i].ws.map WV.row).length = x.gs[i].ws.length := by simp
            have al : (x.gs[i].al.map Al.row).length = x.gs[i].al.length := by simp
            clear hK hR rat gr EN SI hMb hM10
            generalize heavyG x.gs[i].g = hg at *
            generalize x.gs[i].ws.map WV.row = WR at *
            generalize x.gs[i].al.map Al.row = AR0 at *
            generalize x.gs[i].g.lb.map Lb.row = LR at *
            generalize x.gs[i].g.ru.map Ru.row = RR0 at *
            generalize x.gs[i] = g at *
            generalize x.gs.map GV.row = RW at *
            simp -implicitDefEqProofs [gi, gR, ra, rl, hM2, hMl]
            refine onC_mk _ HG ?_
            cases hg
            · rw [Bool.false_or] at h2
              by_cases c1 : 20 < g.ws.length
              · have c1' : (20 : Int) < g.ws.length := by omega
                rw [decide_eq_true c1, Bool.true_or, Bool.true_or] at h2
                subst h2
                simp -implicitDefEqProofs [gi, gR, ra, rl, hM2, hMl, c1', wl]
              · have c1' : ¬ (20 : Int) < g.ws.length := by omega
                by_cases c2 : 10 < g.al.length
                · have c2' : (10 : Int) < g.al.length := by omega
                  rw [decide_eq_false c1, decide_eq_true c2, Bool.false_or, Bool.true_or] at h2
                  subst h2
                  simp -implicitDefEqProofs [gi, gR, ra, rl, hM2, hMl, c1', c2', wl, al]
                · have c2' : ¬ (10 : Int) < g.al.length := by omega
                  rw [decide_eq_false c1, decide_eq_false c2, Bool.false_or, Bool.false_or] at h2
                  have fin := fin h2
                  simp -implicitDefEqProofs [gi, gR, ra, rl, hM2, hMl, c1', c2', wl, al]
                  refine fin _ (weak_mk ?_ ?_ ?_ ?_ ?_ ?_) <;> simp -implicitDefEqProofs [t1, hM0]
            · rw [Bool.true_or, Bool.true_or] at h2
              subst h2
              simp -implicitDefEqProofs
          · obtain rfl : i = x.gs.length := by omega
            rw [List.drop_length] at h2
            simp only [List.any_nil] at h2
            subst h2
            clear hK rat
            simp -implicitDefEqProofs [rl, hM2, hMl]
        · exact ⟨Nat.zero_le _, by rw [List.drop_zero]; exact hR.symm⟩
        · refine weak_mk ?_ ?_ ?_ ?_ ?_ ?_ <;> simp -implicitDefEqProofs [hM0]
      · simp only [Bool.false_or, Bool.true_or]
        simp -implicitDefEqProofs [c11, hM2, hM10, hMb, hMl, h8, h8', rl]
        refine onC_mk _ EN ?_
        simp -implicitDefEqProofs [hM10, hMl]
        refine onC_mk _ SI ?_
        simp -implicitDefEqProofs
    · simp only [Bool.true_or]
      simp -implicitDefEqProofs [c11, hM2, hM10, hMb, hMl, h8, h8', rl]
      refine onC_mk _ EN ?_
      simp -implicitDefEqProofs
end Go.Ai
