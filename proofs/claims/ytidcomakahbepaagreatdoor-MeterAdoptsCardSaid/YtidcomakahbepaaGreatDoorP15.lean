/- P15: a part of the proof: the rules, or what functions compute. Conditions: as each theorem says. -/
import Derived.Test.YtidcomakahbepaaGreatDoorP14
import Derived.Test.YtidcomakahbepaaGreatDoorCode
import Derived.Lib.LaidU8
import GoSem.PinnedTables
set_option linter.unusedSimpArgs false
set_option linter.unusedVariables false
set_option maxRecDepth 20000
namespace Go.Ai
open Go.Proofs
/-! ### The chapter's example -/
open Go.Proofs
theorem rstays_spec (x y : Gl) (hx : x.ru.length ≤ 10) (hy : y.ru.length ≤ 10) : Sp Tryz.prog gl 27 [.agg x.row, .agg y.row] (.bool (stP x y)) := by
  refine s27 rfl rfl ?_
  have W1 := rwin_spec x hx
  have W2 := rwin_spec y hy
  have E := same_spec (winP x) (winP y) (by have := winP_len x; omega) (by have := winP_len y; omega)
  have ex : x.row = [.str x.n, .int .u32 x.t, i6 x.g, i6 x.a, i6 x.o, i6 x.c, .sl (x.lb.map Lb.row), .sl (x.ru.map Ru.row)] := rfl
  have ey : y.row = [.str y.n, .int .u32 y.t, i6 y.g, i6 y.a, i6 y.o, i6 y.c, .sl (y.lb.map Lb.row), .sl (y.ru.map Ru.row)] := rfl
  rw [ex] at W1 ⊢
  rw [ey] at W2 ⊢
  unfold stP
  generalize intRows (winP x) = A at *
  generalize intRows (winP y) = B at *
  generalize decide (winP x = winP y) = b3 at *
  generalize x.lb.map Lb.row = LB at *
  generalize y.lb.map Lb.row = LC at *
  generalize x.ru.map Ru.row = RU at *
  generalize y.ru.map Ru.row = RV at *
  cases h1 : (x.g == y.g)
  · simp -implicitDefEqProofs [c27, h1]
  · cases h2 : (x.c == y.c)
    · simp -implicitDefEqProofs [c27, h1, h2]
    · simp -implicitDefEqProofs [c27, h1, h2]
      refine onC_mk _ (W1) ?_
      simp -implicitDefEqProofs
      refine onC_mk _ (W2) ?_
      simp -implicitDefEqProofs
      refine onC_mk _ (E) ?_
      simp -implicitDefEqProofs
open Go.Proofs
theorem adP_eq (x y : Gl) : adP x y = (goalP y && stP x y) := by
  unfold adP stP
  have h1 : (y.g == x.g) = (x.g == y.g) := by rw [Bool.eq_iff_iff]; simp only [beq_iff_eq]; exact eq_comm
  have h2 : (y.c == x.c) = (x.c == y.c) := by rw [Bool.eq_iff_iff]; simp only [beq_iff_eq]; exact eq_comm
  have h3 : decide (winP y = winP x) = decide (winP x = winP y) := decide_eq_decide.2 eq_comm
  rw [h1, h2, h3]
theorem stP_k {x y : Gl} (h : stP x y = true) : x.g = y.g ∧ x.c = y.c ∧ winP y = winP x ∧ kN y = kN x ∧ wN y = wN x := by
  unfold stP at h
  simp only [Bool.and_eq_true, beq_iff_eq, decide_eq_true_eq] at h
  obtain ⟨h1, h2, h3⟩ := h
  have e : gN y = gN x := by unfold gN; rw [h1]
  have ew : wdN y = wdN x := by funext i; unfold wdN; rw [h3]
  refine ⟨h1, h2, h3.symm, ?_, ?_⟩
  · funext i; unfold kN; rw [e, ew]
  · funext i; unfold wN; rw [e, ew]
theorem adopts_tail (x : Gl) (hx : goalP x = true) (hl : x.ru.length ≤ 10) (l : List Ac) (hal : ∀ a ∈ l, a.t < 18446744073709551616) (s0 : Mt) (k0 : Nat) (hk0 : k0 ≤ 1000) (hs0 : MtOk x (winP x).length (kN x) (wN x) s0 k0)
    (e : List (Nat × AV)) (BX : List (Id × List AV)) (q : List (Pl × Nat)) (l3 : lk e 3 = .sl (acRows l)) (l9 : lk e 9 = .ptr (fM 30) 0) (l10 : lk e 10 = .ptr (fX 30) 0)
    (hb : ∀ p ∈ mxB (fM 30) (fA 30) (fR 30) (fB 30) (fX 30) x (winP x).length (winP x) (kN x) (wN x) s0, lkB BX p.1 = some p.2) :
    wpA (SpH Tryz.prog gl) (AC.tl 8 c5) (postA [.t 8] (.bool true)) ⟨e, BX, (.b (fX 30) 10, 3) :: q⟩ := by
  have NM := nmF 30
  have hk := goal_k hx hl
  have hn := goal_n hl
  obtain ⟨G, hG⟩ : ∃ G : Mt → List (Id × List AV), G = fun s => mxB (fM 30) (fA 30) (fR 30) (fB 30) (fX 30) x (winP x).length (winP x) (kN x) (wN x) s := ⟨_, rfl⟩
  obtain ⟨rest, hrest⟩ : ∃ r : Mt → List (Id × List AV), r = fun s => (fA 30, ptrC (fR 30) (winP x).length) :: rgsB (fR 30) (fB 30) (rgC (kN x) (wN x) s.t s.L) (rgD (kN x) (wN x) s.t s.L) (winP x).length := ⟨_, rfl⟩
  have hGs : ∀ s, G s = (fX 30, xC x s.t s.sd s.L) :: (fM 30, mtC x (fA 30) (winP x).length (intRows (winP x)) (pF x.c s.t) (pT x.c s.t) (pcG x.c s.t s.L) (pcT x.c s.t s.L) s.t s.sd) :: rest s := fun s => by rw [hG, hrest]; rfl
  have gu : ∀ s, ∀ p ∈ G s, lkB (G s) p.1 = some p.2 := fun s => by rw [hG]; exact mx_uniq NM x _ _ _ _ s
  have gk : ∀ s s' j, (lkB (G s') j).isSome = (lkB (G s) j).isSome := fun s s' j => by rw [hG]; exact mx_keys x x _ _ _ _ s s' j
  have gX : ∀ s, (lkB (G s) (fX 30)).isSome = true := fun s => by rw [hG]; exact mx_x ..
  have gM : ∀ s, (lkB (G s) (fM 30)).isSome = true := fun s => by rw [hG]; exact lkB_isSome (p := (fM 30, _)) (List.mem_cons_of_mem _ (List.mem_cons_self ..))
  have gi : ∀ s, ∀ p ∈ G s, ∀ i ∈ idsL p.2, (lkB (G s) i).isSome = true := fun s => by rw [hG]; exact mx_ids NM x _ _ _ _ s
  have gw : ∀ s (a : Id) (b : List AV), (a, b) ∈ G s → a.isIt = false ∧ ∀ t, a.isNw t = (30 == t) := fun s => by rw [hG]; exact fx_nw 30 x _ _ _ _ s
  have gn : ∀ s j, lkB (G s) (.n j) = none := fun s j => by rw [hG]; exact fx_n 30 x _ _ _ _ s j
  have gf : ∀ s fr, ∀ p ∈ G s, inF fr p.1 = false := fun s fr => by rw [hG]; exact fx_inF 30 x _ _ _ _ s fr
  have mX : ∀ t, (fX 30).isNw t = (30 == t) := fun t => by simp [fX, Id.isNw, Id.isUp]
  have mM : ∀ t, (fM 30).isNw t = (30 == t) := fun t => by simp [fM, Id.isNw, Id.isUp]
  have iX : (fX 30).isIt = false := rfl
  have iM : (fM 30).isIt = false := rfl
  have fXn : ∀ fr, inF fr (fX 30) = false := fun _ => rfl
  have nX : ∀ j, ¬ fX 30 = .n j := fun j => by simp [fX]
  have nM : ∀ j, ¬ fM 30 = .n j := fun j => by simp [fM]
  have nX' : ∀ j, ¬ Id.n j = fX 30 := fun j => by simp [fX]
  have nM' : ∀ j, ¬ Id.n j = fM 30 := fun j => by simp [fM]
  have xm := NM.xm
  have xm' : ¬ fM 30 = fX 30 := fun e => NM.xm e.symm
  have nmpa := NM.h.pa
  have SM : ∀ s k, k ≤ 1000000 → MtOk x (winP x).length (kN x) (wN x) s k → ∀ e, (fM 30).isNw e = false → SpH Tryz.prog gl 24 e ⟨[.ptr (fM 30) 0, .ptr (fX 30) 0], G s, [(.b (fX 30) 10, 3)]⟩ ⟨.bool true, G s, [(.b (fX 30) 10, 3)]⟩ := fun s k h1 h2 e he => by
    rw [hG]; exact msame_spec _ _ _ _ _ NM x hx hl s k h1 h2 e he
  have DO : ∀ s k, k ≤ 1000000 → MtOk x (winP x).length (kN x) (wN x) s k → ∀ a : Ac, a.t < 18446744073709551616 → ∀ e, (fM 30).isNw e = false → SpH Tryz.prog gl 17 e ⟨[.ptr (fM 30) 0, .ptr (fX 30) 0, .agg a.row], G s, [(.b (fX 30) 10, 3)]⟩ ⟨.bool true, G (stS x (winP x).length (kN x) (wN x) s a), [(.b (fX 30) 10, 3)]⟩ := fun s k h1 h2 a ha e he => by
    rw [hG]; exact does_spec _ _ _ _ _ NM x hx hl s k h1 h2 a ha e he
  have hok := fun s k (h : MtOk x (winP x).length (kN x) (wN x) s k) a => stS_ok h a
  have hb' : ∀ p ∈ G s0, lkB BX p.1 = some p.2 := by rw [hG]; exact hb
  have al := acRows_len l
  have a4 := acRows_4 l
  have aat := acRows_at l
  generalize acRows l = RW at *
  generalize hstS : stS x (winP x).length (kN x) (wN x) = ST at *
  clear hG hrest hstS NM hb
  generalize fM 30 = FM at *
  generalize fX 30 = FX at *
  generalize fA 30 = FA at *
  simp only [c5, AC.tl]
  simp -implicitDefEqProofs [l3, l9, l10]
  refine wp_lpk (α := Nat × Mt) (fun p => ⟨[(3, .sl RW), (9, .ptr FM 0), (10, .ptr FX 0), (14, i6 p.1)], G p.2, [(.b FX 10, 3)]⟩)
    (fun p => p.1 ≤ l.length ∧ p.1 ≤ 100 ∧ MtOk x (winP x).length (kN x) (wN x) p.2 (k0 + p.1)) (fun p => l.length - p.1) ?_ (0, s0) ?_ ?_
  · rintro K ⟨k, s⟩ hK ⟨k1, k2, k3⟩
    by_cases c : k < l.length ∧ k < 100
    · obtain ⟨c1, c2⟩ := c
      have c1' : (k : Int) < l.length := by omega
      have c2' : (k : Int) < 100 := by omega
      have w1 : IntKind.i64.wrap ((k : Int) + 1) = (k + 1 : Nat) := by rw [wr] <;> omega
      have kl : k < RW.length := by omega
      have ew0 := aat k c1
      have ew : RW[k]'kl = l[k].row := by rw [List.getElem?_eq_getElem kl] at ew0; exact Option.some.inj ew0
      have r4 := a4 _ (List.getElem_mem kl)
      have D1 := DO s (k0 + k) (by omega) k3 l[k] (hal _ (List.getElem_mem c1))
      have fin := fun σ' (hσ : Weak σ' _) => hK (k + 1, ST s l[k]) σ' ⟨by simp only; omega, by simp only; omega, hok s (k0 + k) k3 l[k]⟩ (by simp only; omega) hσ
      rw [ew] at r4
      clear hK DO hok aat SM
      generalize ST s l[k] = s' at *
      generalize l[k].row = r at *
      have e4 : List.take 4 r = r := List.take_of_length_le (by omega)
      simp -implicitDefEqProofs [al, c1, c1', c2', c2, kl, ew, ew0, a4, r4, e4]
      refine onH_xs (pre := []) (suf := []) (q := []) (D1 _ (by rw [mM]; rfl)) (by simp) rfl (gX _) ?_ ?_ (gu _) (gk _ _) ?_ ?_ ?_ ?_
      · simp -implicitDefEqProofs
      · simp -implicitDefEqProofs
      · simp -implicitDefEqProofs
        intro a b hm
        rw [(gw _ a b hm).2]; rfl
      · simp -implicitDefEqProofs
      · simp -implicitDefEqProofs
      simp -implicitDefEqProofs [w1]
      refine fin _ (weak_mk ?_ (wkB_self (gu s')) ?_ ?_ ?_ ?_)
      · simp -implicitDefEqProofs [w1]
      · simp -implicitDefEqProofs
      · simp -implicitDefEqProofs [gM, gX]
      · intro p hp
        exact fun d hd => .inl (gi s' p hp d hd)
      · simp -implicitDefEqProofs [gX]
    · have F1 := SM s (k0 + k) (by omega) k3
      clear hK DO hok aat SM
      by_cases c2 : k < l.length
      · have c3 : ¬ (k : Int) < 100 := by omega
        have c2' : (k : Int) < l.length := by omega
        have c3' : ¬ k < 100 := by omega
        simp -implicitDefEqProofs [al, c2, c2', c3, c3']
        refine onH_xs (pre := []) (suf := []) (q := []) (F1 _ (by rw [mM]; rfl)) (by simp) rfl (gX _) ?_ ?_ (gu _) (gk _ _) ?_ ?_ ?_ ?_
        · simp -implicitDefEqProofs
        · simp -implicitDefEqProofs
        · simp -implicitDefEqProofs
          intro a b hm
          rw [(gw _ a b hm).2]; rfl
        · simp -implicitDefEqProofs
        · simp -implicitDefEqProofs
        simp -implicitDefEqProofs
      · have c2' : ¬ (k : Int) < l.length := by omega
        simp -implicitDefEqProofs [al, c2, c2']
        refine onH_xs (pre := []) (suf := []) (q := []) (F1 _ (by rw [mM]; rfl)) (by simp) rfl (gX _) ?_ ?_ (gu _) (gk _ _) ?_ ?_ ?_ ?_
        · simp -implicitDefEqProofs
        · simp -implicitDefEqProofs
        · simp -implicitDefEqProofs
          intro a b hm
          rw [(gw _ a b hm).2]; rfl
        · simp -implicitDefEqProofs
        · simp -implicitDefEqProofs
        simp -implicitDefEqProofs
  · exact ⟨Nat.zero_le _, Nat.zero_le _, hs0⟩
  · refine weak_mk ?_ (fun p hp => by simp only [wkB, hb' p hp]; exact wkL_rfl' _) ?_ ?_ ?_ ?_
    · simp -implicitDefEqProofs [l3, l9, l10]
    · simp -implicitDefEqProofs
    · simp -implicitDefEqProofs [gM, gX]
    · intro p hp
      exact fun d hd => .inl (gi s0 p hp d hd)
    · simp -implicitDefEqProofs [gX]
theorem meterAdopts_spec (x y : Gl) (l : List Ac) (hal : ∀ a ∈ l, a.t < 18446744073709551616) (more : List Ac) (ham : ∀ a ∈ more, a.t < 18446744073709551616) : Sp Tryz.prog gl 5 [.agg x.row, .agg y.row, .sl (acRows l), .sl (acRows more)] (.bool true) := by
  refine s5 rfl rfl ?_
  have AW := mawake_spec
  have H := heavyG_spec x
  have H2 := heavyG_spec y
  have P1 : x.row.length = 8 := rfl
  have P2 : idsL x.row = [] := rfl
  have P3 : shutL x.row = some x.row := rfl
  have O1 : y.row.length = 8 := rfl
  have O2 : idsL y.row = [] := rfl
  have O3 : shutL y.row = some y.row := rfl
  cases hh : heavyG x with
  | true =>
    rw [hh] at H
    generalize x.row = P at *
    generalize y.row = P' at *
    have e8 : List.take 8 P = P := List.take_of_length_le (by omega)
    simp -implicitDefEqProofs [c5]
    refine onC_mk _ (AW) ?_
    simp -implicitDefEqProofs [P1, e8, P3]
    refine onC_mk _ (H) ?_
    simp -implicitDefEqProofs
  | false =>
    rw [hh] at H
    have hf := heavyG_fit hh
    have hl := hf.ru
    have Q := qgoal_spec x hf
    cases hx : goalP x with
    | false =>
      rw [hx] at Q
      generalize x.row = P at *
      generalize y.row = P' at *
      have e8 : List.take 8 P = P := List.take_of_length_le (by omega)
      simp -implicitDefEqProofs [c5]
      refine onC_mk _ (AW) ?_
      simp -implicitDefEqProofs [P1, e8, P3]
      refine onC_mk _ (H) ?_
      simp -implicitDefEqProofs [P1, e8, P3]
      refine onC_mk _ (Q) ?_
      simp -implicitDefEqProofs [P1, e8, P3]
    | true =>
      rw [hx] at Q
      cases hy : heavyG y with
      | true =>
        rw [hy] at H2
        generalize x.row = P at *
        generalize y.row = P' at *
        have e8 : List.take 8 P = P := List.take_of_length_le (by omega)
        have f8 : List.take 8 P' = P' := List.take_of_length_le (by omega)
        simp -implicitDefEqProofs [c5]
        refine onC_mk _ (AW) ?_
        simp -implicitDefEqProofs [P1, e8, P3, f8, O1, O3]
        refine onC_mk _ (H) ?_
        simp -implicitDefEqProofs [P1, e8, P3, f8, O1, O3]
        refine onC_mk _ (Q) ?_
        simp -implicitDefEqProofs [P1, e8, P3, f8, O1, O3]
        refine onC_mk _ (H2) ?_
        simp -implicitDefEqProofs
      | false =>
        rw [hy] at H2
        have hfy := heavyG_fit hy
        have hly := hfy.ru
        have Qy := qgoal_spec y hfy
        have SY := rstays_spec x y hl hly
        have ec : c5 = AC.cutAt 8 (AC.tl 8 c5) c5 := rfl
        rw [ec]
        have TX0 := fun s0 k0 h1 h2 e BX q a b c d => adopts_tail x hx hl more ham s0 k0 h1 h2 e BX q a b c d
        have TY0 := fun hy s0 k0 h1 h2 e BX q a b c d => adopts_tail y hy hly more ham s0 k0 h1 h2 e BX q a b c d
        generalize AC.tl 8 c5 = TT at TX0 TY0 ⊢
        have NM := nmF 30
        have hk := goal_k hx hl
        have hn := goal_n hl
        obtain ⟨G, hG⟩ : ∃ G : Mt → List (Id × List AV), G = fun s => mxB (fM 30) (fA 30) (fR 30) (fB 30) (fX 30) x (winP x).length (winP x) (kN x) (wN x) s := ⟨_, rfl⟩
        obtain ⟨rest, hrest⟩ : ∃ r : Mt → List (Id × List AV), r = fun s => (fA 30, ptrC (fR 30) (winP x).length) :: rgsB (fR 30) (fB 30) (rgC (kN x) (wN x) s.t s.L) (rgD (kN x) (wN x) s.t s.L) (winP x).length := ⟨_, rfl⟩
        have hGs : ∀ s, G s = (fX 30, xC x s.t s.sd s.L) :: (fM 30, mtC x (fA 30) (winP x).length (intRows (winP x)) (pF x.c s.t) (pT x.c s.t) (pcG x.c s.t s.L) (pcT x.c s.t s.L) s.t s.sd) :: rest s := fun s => by rw [hG, hrest]; rfl
        have gu : ∀ s, ∀ p ∈ G s, lkB (G s) p.1 = some p.2 := fun s => by rw [hG]; exact mx_uniq NM x _ _ _ _ s
        have gk : ∀ s s' j, (lkB (G s') j).isSome = (lkB (G s) j).isSome := fun s s' j => by rw [hG]; exact mx_keys x x _ _ _ _ s s' j
        have gX : ∀ s, (lkB (G s) (fX 30)).isSome = true := fun s => by rw [hG]; exact mx_x ..
        have gM : ∀ s, (lkB (G s) (fM 30)).isSome = true := fun s => by rw [hG]; exact lkB_isSome (p := (fM 30, _)) (List.mem_cons_of_mem _ (List.mem_cons_self ..))
        have gi : ∀ s, ∀ p ∈ G s, ∀ i ∈ idsL p.2, (lkB (G s) i).isSome = true := fun s => by rw [hG]; exact mx_ids NM x _ _ _ _ s
        have gw : ∀ s (a : Id) (b : List AV), (a, b) ∈ G s → a.isIt = false ∧ ∀ t, a.isNw t = (30 == t) := fun s => by rw [hG]; exact fx_nw 30 x _ _ _ _ s
        have gn : ∀ s j, lkB (G s) (.n j) = none := fun s j => by rw [hG]; exact fx_n 30 x _ _ _ _ s j
        have gf : ∀ s fr, ∀ p ∈ G s, inF fr p.1 = false := fun s fr => by rw [hG]; exact fx_inF 30 x _ _ _ _ s fr
        have mX : ∀ t, (fX 30).isNw t = (30 == t) := fun t => by simp [fX, Id.isNw, Id.isUp]
        have mM : ∀ t, (fM 30).isNw t = (30 == t) := fun t => by simp [fM, Id.isNw, Id.isUp]
        have iX : (fX 30).isIt = false := rfl
        have iM : (fM 30).isIt = false := rfl
        have fXn : ∀ fr, inF fr (fX 30) = false := fun _ => rfl
        have nX : ∀ j, ¬ fX 30 = .n j := fun j => by simp [fX]
        have nM : ∀ j, ¬ fM 30 = .n j := fun j => by simp [fM]
        have nX' : ∀ j, ¬ Id.n j = fX 30 := fun j => by simp [fX]
        have nM' : ∀ j, ¬ Id.n j = fM 30 := fun j => by simp [fM]
        have xm := NM.xm
        have xm' : ¬ fM 30 = fX 30 := fun e => NM.xm e.symm
        have nmpa := NM.h.pa
        obtain ⟨mt, hmt⟩ : ∃ r : Mt → List (Id × List AV), r = fun s => mtB (fM 30) (fA 30) (fR 30) (fB 30) x (winP x).length (intRows (winP x)) (kN x) (wN x) s.t s.L s.sd := ⟨_, rfl⟩
        have hGm : ∀ s, G s = (fX 30, xC x s.t s.sd s.L) :: mt s := fun s => by rw [hG, hmt]; rfl
        have hMs : ∀ s, mt s = (fM 30, mtC x (fA 30) (winP x).length (intRows (winP x)) (pF x.c s.t) (pT x.c s.t) (pcG x.c s.t s.L) (pcT x.c s.t s.L) s.t s.sd) :: rest s := fun s => by rw [hmt, hrest]; rfl
        have mu : ∀ s, ∀ p ∈ mt s, lkB (mt s) p.1 = some p.2 := fun s => by rw [hmt]; exact mt_uq NM.h x _ _ _ _ _ _ _
        have mk : ∀ s s' j, (lkB (mt s') j).isSome = (lkB (mt s) j).isSome := fun s s' j => by rw [hmt]; exact mt_ks x x _ _ _ _ _ _ _ _ _ _ j
        have m0 : ∀ s, lkB (mt s) (fX 30) = none := fun s => by rw [hmt]; exact mt_nox NM x _ _ _ _ _ _ _
        have mr : ∀ s, rmB (mt s) (fX 30) = mt s := fun s => by rw [hmt]; exact mt_norm NM x _ _ _ _ _ _ _
        have mn : ∀ s j, lkB (mt s) (.n j) = none := fun s j => by
          have q := gn s j
          rw [hGm] at q; simp only [lkB] at q
          rw [if_neg (nX j)] at q; exact q
        have mw : ∀ s (a : Id) (b : List AV), (a, b) ∈ mt s → a.isIt = false ∧ ∀ t, a.isNw t = (30 == t) := fun s a b hm => gw s a b (by rw [hGm]; exact List.mem_cons_of_mem _ hm)
        have rX : ∀ s, lkB (rest s) (fX 30) = none := fun s => by
          have q := m0 s
          rw [hMs] at q; simp only [lkB] at q
          rw [if_neg xm'] at q; exact q
        have rn : ∀ s j, lkB (rest s) (.n j) = none := fun s j => by
          have q := mn s j
          rw [hMs] at q; simp only [lkB] at q
          rw [if_neg (nM j)] at q; exact q
        have rw' : ∀ s (a : Id) (b : List AV), (a, b) ∈ rest s → a.isIt = false ∧ ∀ t, a.isNw t = (30 == t) := fun s a b hm => mw s a b (by rw [hMs]; exact List.mem_cons_of_mem _ hm)
        have rmX : ∀ s, rmB (rest s) (fX 30) = rest s := fun s => by
          have q := mr s
          rw [hMs] at q; simp only [rmB] at q
          rw [if_neg xm'] at q; exact (List.cons.inj q).2
        have rmM : ∀ s, rmB (rest s) (fM 30) = rest s := fun s => by
          rw [hrest]
          simp only [rmB]
          rw [if_neg (fun e => NM.h.ma e.symm), rgsB_rm NM.h.mr NM.h.mb]
        have rM : ∀ s, lkB (rest s) (fM 30) = none := fun s => by
          rw [hrest]
          simp only [lkB]
          rw [if_neg (fun e => NM.h.ma e.symm), rgsB_none NM.h.mr NM.h.mb]
        have F : SpH Tryz.prog gl 15 30 ⟨[.agg x.row], [], []⟩ ⟨.tup [.ptr (fM 30) 0, .ptr (fX 30) 0, .bool true], G mt0, [(.b (fX 30) 10, 3)]⟩ := by
          have q := fresh_spec x hf hl hx 30
          rw [hG]; exact q
        have DO : ∀ s k, k ≤ 1000000 → MtOk x (winP x).length (kN x) (wN x) s k → ∀ a : Ac, a.t < 18446744073709551616 → ∀ e, (fM 30).isNw e = false → SpH Tryz.prog gl 17 e ⟨[.ptr (fM 30) 0, .ptr (fX 30) 0, .agg a.row], G s, [(.b (fX 30) 10, 3)]⟩ ⟨.bool true, G (stS x (winP x).length (kN x) (wN x) s a), [(.b (fX 30) 10, 3)]⟩ := fun s k h1 h2 a ha e he => by
          rw [hG]; exact does_spec _ _ _ _ _ NM x hx hl s k h1 h2 a ha e he
        have hny : (winP y).length ≤ 1000000 := goal_n hly
        have AD := fun (s : Mt) e he => madopt_spec (fM 30) (fA 30) nmpa x y hfy hly hn hny (winP x).length (pF x.c s.t) (pT x.c s.t) (pcG x.c s.t s.L) (pcT x.c s.t s.L) s.t s.sd e he
        rw [adP_eq] at AD
        have TX : ∀ (s0 : Mt) k0, k0 ≤ 1000 → MtOk x (winP x).length (kN x) (wN x) s0 k0 → ∀ (e : List (Nat × AV)) BX q, lk e 3 = .sl (acRows more) → lk e 9 = .ptr (fM 30) 0 → lk e 10 = .ptr (fX 30) 0 → (∀ p ∈ G s0, lkB BX p.1 = some p.2) → wpA (SpH Tryz.prog gl) TT (postA [.t 8] (.bool true)) ⟨e, BX, (.b (fX 30) 10, 3) :: q⟩ := by
          rw [hG]; exact TX0
        have TY : ∀ (_ : goalP y = true) (_ : stP x y = true) (s0 : Mt) k0, k0 ≤ 1000 → MtOk x (winP x).length (kN x) (wN x) s0 k0 → ∀ (e : List (Nat × AV)) BX q, lk e 3 = .sl (acRows more) → lk e 9 = .ptr (fM 30) 0 → lk e 10 = .ptr (fX 30) 0 →
            (∀ p ∈ (fX 30, xC y s0.t s0.sd s0.L) :: (fM 30, mtC y (fA 30) (winP x).length (intRows (winP x)) (pF x.c s0.t) (pT x.c s0.t) (pcG x.c s0.t s0.L) (pcT x.c s0.t s0.L) s0.t s0.sd) :: rest s0, lkB BX p.1 = some p.2) → wpA (SpH Tryz.prog gl) TT (postA [.t 8] (.bool true)) ⟨e, BX, (.b (fX 30) 10, 3) :: q⟩ := by
          intro gy st s0 k0 h1 h2 e BX q a b c d
          obtain ⟨e1, e2, e3, e4, e5⟩ := stP_k st
          refine TY0 gy s0 k0 h1 ?_ e BX q a b c ?_
          · rw [e3, e4, e5]
            exact ⟨h2.t, h2.L, by rw [← e2]; exact h2.P, h2.l⟩
          · rw [e3, e4, e5]
            rw [hrest] at d
            rw [e2] at d
            exact d
        clear TX0 TY0
        have hok := fun s k (h : MtOk x (winP x).length (kN x) (wN x) s k) a => stS_ok h a
        have ok0 := mt0_ok x (winP x).length (kN x) (wN x)
        have al := acRows_len l
        have a4 := acRows_4 l
        have aat := acRows_at l
        generalize acRows l = RW at *
        generalize acRows more = RM at *
        generalize hstS : stS x (winP x).length (kN x) (wN x) = ST at *
        clear hG hrest hstS NM hmt
        generalize fM 30 = FM at *
        generalize fX 30 = FX at *
        generalize fA 30 = FA at *
        have hyr : y.row = [.str y.n, .int .u32 y.t, i6 y.g, i6 y.a, i6 y.o, i6 y.c, .sl (y.lb.map Lb.row), .sl (y.ru.map Ru.row)] := rfl
        simp only [xC, mtC] at hGs hGm hMs AD TY
        generalize hP : x.row = P at *
        generalize hP' : y.row = P' at *
        have e8 : List.take 8 P = P := List.take_of_length_le (by omega)
        have f8 : List.take 8 P' = P' := List.take_of_length_le (by omega)
        simp only [c5, AC.cutAt]
        simp -implicitDefEqProofs
        refine onC_mk _ (AW) ?_
        simp -implicitDefEqProofs [P1, e8, P3, f8, O1, O3]
        refine onC_mk _ (H) ?_
        simp -implicitDefEqProofs [P1, e8, P3, f8, O1, O3]
        refine onC_mk _ (Q) ?_
        simp -implicitDefEqProofs [P1, e8, P3, f8, O1, O3]
        refine onC_mk _ (H2) ?_
        simp -implicitDefEqProofs [P1, e8, P3, f8, O1, O3]
        refine onH_mk _ _ F ⟨?_, ?_, ?_, ?_, ?_, ?_, ?_⟩ ?_
        iterate 5 (· simp -implicitDefEqProofs [gn, P1, e8, P3])
        · simp -implicitDefEqProofs
          intro a b hm
          obtain ⟨h1, h2⟩ := gw _ a b hm
          exact ⟨by rw [h2]; rfl, h1⟩
        · simp -implicitDefEqProofs
        simp -implicitDefEqProofs [gn, lkB_app, P1, e8, P3]
        have GP : ∀ s, ∀ p ∈ G s ++ [(Id.n 5, P'), (Id.n 4, P)], lkB (G s ++ [(Id.n 5, P'), (Id.n 4, P)]) p.1 = some p.2 := fun s p hp => by
          rcases List.mem_append.1 hp with hp | hp
          · rw [lkB_app, gu s p hp]
          · rcases List.mem_cons.1 hp with rfl | hp
            · rw [lkB_app, gn]; simp [lkB]
            · rw [List.mem_singleton] at hp
              subst hp
              rw [lkB_app, gn]; simp [lkB]
        have GK : ∀ s d, (lkB (G s) d).isSome = true → (lkB (G s ++ [(Id.n 5, P'), (Id.n 4, P)]) d).isSome = true := fun s d h => by
          rw [lkB_app]
          obtain ⟨c, hc⟩ := Option.isSome_iff_exists.1 h
          rw [hc]; rfl
        have GN5 : ∀ s, (lkB (G s ++ [(Id.n 5, P'), (Id.n 4, P)]) (.n 5)).isSome = true := fun s => by rw [lkB_app, gn]; simp [lkB]
        have GN4 : ∀ s, (lkB (G s ++ [(Id.n 5, P'), (Id.n 4, P)]) (.n 4)).isSome = true := fun s => by rw [lkB_app, gn]; simp [lkB]
        refine wp_lpk (α := Nat × Mt) (fun p => ⟨[(2, .sl RW), (3, .sl RM), (4, .ptr (.n 4) 0), (5, .ptr (.n 5) 0), (9, .ptr FM 0), (10, .ptr FX 0), (12, i6 p.1)], G p.2 ++ [(.n 5, P'), (.n 4, P)], [(.b FX 10, 3)]⟩)
          (fun p => p.1 ≤ l.length ∧ p.1 ≤ 100 ∧ MtOk x (winP x).length (kN x) (wN x) p.2 p.1) (fun p => l.length - p.1) ?_ (0, mt0) ?_ ?_
        · rintro K ⟨k, s⟩ hK ⟨k1, k2, k3⟩
          by_cases c : k < l.length ∧ k < 100
          · obtain ⟨c1, c2⟩ := c
            have c1' : (k : Int) < l.length := by omega
            have c2' : (k : Int) < 100 := by omega
            have w1 : IntKind.i64.wrap ((k : Int) + 1) = (k + 1 : Nat) := by rw [wr] <;> omega
            have kl : k < RW.length := by omega
            have ew0 := aat k c1
            have ew : RW[k]'kl = l[k].row := by rw [List.getElem?_eq_getElem kl] at ew0; exact Option.some.inj ew0
            have r4 := a4 _ (List.getElem_mem kl)
            have D1 := DO s k (by omega) k3 l[k] (hal _ (List.getElem_mem c1))
            have fin := fun σ' (hσ : Weak σ' _) => hK (k + 1, ST s l[k]) σ' ⟨by simp only; omega, by simp only; omega, hok s k k3 l[k]⟩ (by simp only; omega) hσ
            rw [ew] at r4
            clear hK DO hok aat F TX TY
            generalize ST s l[k] = s' at *
            generalize l[k].row = r at *
            have e4 : List.take 4 r = r := List.take_of_length_le (by omega)
            simp -implicitDefEqProofs [al, c1, c1', c2', c2, kl, ew, ew0, a4, r4, e4]
            refine onH_xs (pre := []) (suf := [(.n 5, P'), (.n 4, P)]) (q := []) (D1 _ (by rw [mM]; rfl)) rfl rfl (gX _) ?_ ?_ (gu _) (gk _ _) ?_ ?_ ?_ ?_
            · simp -implicitDefEqProofs
            · simp -implicitDefEqProofs [gn]
            · simp only [List.mem_append, List.mem_cons, List.not_mem_nil, or_false]
              rintro ⟨a, b⟩ (hm | hm | hm)
              · rw [(gw _ a b hm).2]; rfl
              · cases hm; rfl
              · cases hm; rfl
            · simp -implicitDefEqProofs
            · simp -implicitDefEqProofs
            simp -implicitDefEqProofs [w1]
            refine fin _ (weak_mk ?_ (wkB_self (GP s')) ?_ ?_ ?_ ?_)
            · simp -implicitDefEqProofs [w1]
            · simp -implicitDefEqProofs
            · simp -implicitDefEqProofs [GK s' FX (gX s'), GK s' FM (gM s'), GN4, GN5]
            · intro p hp
              rcases List.mem_append.1 hp with hp | hp
              · exact fun d hd => .inl (GK s' d (gi s' p hp d hd))
              · rcases List.mem_cons.1 hp with rfl | hp
                · intro d hd
                  rw [O2] at hd; simp at hd
                · rw [List.mem_singleton] at hp
                  subst hp
                  intro d hd
                  rw [P2] at hd; simp at hd
            · simp -implicitDefEqProofs [GK s' FX (gX s')]
          · have A1 := AD s
            have TXs := TX s k (by omega) k3
            have gu' : ∀ p ∈ rest s, lkB (rest s) p.1 = some p.2 ∧ ¬ FX = p.1 ∧ ¬ FM = p.1 ∧ ∀ j, ¬ Id.n j = p.1 := fun p hp => by
              have e1 := ne_none hp (rX s)
              have e2 := ne_none hp (rM s)
              have q := mu s p (by rw [hMs]; exact List.mem_cons_of_mem _ hp)
              rw [hMs] at q
              simp only [lkB] at q
              rw [if_neg e2] at q
              exact ⟨q, e1, e2, fun j => ne_none hp (rn s j)⟩
            have TYs := fun a b => TY a b s k (by omega) k3
            clear hK DO hok aat F TX TY AD
            have c1 : ¬ (k < l.length) ∨ ¬ (k < 100) := by omega
            by_cases c2 : k < l.length
            · have c3 : ¬ (k : Int) < 100 := by omega
              have c2' : (k : Int) < l.length := by omega
              have c3' : ¬ k < 100 := by omega
              simp -implicitDefEqProofs [al, c2, c2', c3, c3', lkB_app, gn, f8, O1, O3]
              simp only [hGs]
              cases gy : goalP y with
              | false =>
                rw [gy] at Qy A1
                simp only [Bool.false_and, Bool.false_eq_true, if_false] at A1
                refine onH_mk _ _ (A1 _ (by rw [mM]; rfl)) ⟨?_, ?_, ?_, ?_, ?_, ?_, ?_⟩ ?_
                iterate 6 (· simp -implicitDefEqProofs [rn, rX, rM, xm, xm', lkB_app, nX, nX', nM, nM'])
                · simp -implicitDefEqProofs; (simp only [or_imp, forall_and, and_imp, forall_eq, forall_eq_apply_imp_iff, mX, mM, nw_n]; simp; exact fun a b hm => by rw [(rw' _ a b hm).2]; rfl)
                simp -implicitDefEqProofs [rn, rX, rM, xm, xm', rmX, rmM, lkB_app, rmB_app, nX, nX', nM, nM', f8, e8, O1, O3, P1, P3]
                refine onC_mk _ (Qy) ?_
                simp -implicitDefEqProofs [rn, rX, rM, xm, xm', rmX, rmM, lkB_app, rmB_app, nX, nX', nM, nM', f8, e8, O1, O3, P1, P3]
                refine TXs _ _ _ ?_ ?_ ?_ ?_
                · simp -implicitDefEqProofs
                · simp -implicitDefEqProofs
                · simp -implicitDefEqProofs
                · intro p hp
                  rw [hGs] at hp
                  rcases List.mem_cons.1 hp with rfl | hp
                  · simp -implicitDefEqProofs [lkB_app, nX, nX', nM, nM', xm, xm']
                  · rcases List.mem_cons.1 hp with rfl | hp
                    · simp -implicitDefEqProofs [lkB_app, nX, nX', nM, nM', xm, xm']
                    · obtain ⟨q1, q2, q3, q4⟩ := gu' p hp
                      simp -implicitDefEqProofs [lkB, lkB_app, q1, q2, q3, q4]
              | true =>
                rw [gy] at Qy A1
                cases gs : stP x y with
                | false =>
                  rw [gs] at SY A1
                  simp only [Bool.and_false, Bool.false_eq_true, if_false] at A1
                  refine onH_mk _ _ (A1 _ (by rw [mM]; rfl)) ⟨?_, ?_, ?_, ?_, ?_, ?_, ?_⟩ ?_
                  iterate 6 (· simp -implicitDefEqProofs [rn, rX, rM, xm, xm', lkB_app, nX, nX', nM, nM'])
                  · simp -implicitDefEqProofs; (simp only [or_imp, forall_and, and_imp, forall_eq, forall_eq_apply_imp_iff, mX, mM, nw_n]; simp; exact fun a b hm => by rw [(rw' _ a b hm).2]; rfl)
                  simp -implicitDefEqProofs [rn, rX, rM, xm, xm', rmX, rmM, lkB_app, rmB_app, nX, nX', nM, nM', f8, e8, O1, O3, P1, P3]
                  refine onC_mk _ (Qy) ?_
                  simp -implicitDefEqProofs [rn, rX, rM, xm, xm', rmX, rmM, lkB_app, rmB_app, nX, nX', nM, nM', f8, e8, O1, O3, P1, P3]
                  refine onC_mk _ (SY) ?_
                  simp -implicitDefEqProofs [rn, rX, rM, xm, xm', rmX, rmM, lkB_app, rmB_app, nX, nX', nM, nM', f8, e8, O1, O3, P1, P3]
                  refine TXs _ _ _ ?_ ?_ ?_ ?_
                  · simp -implicitDefEqProofs
                  · simp -implicitDefEqProofs
                  · simp -implicitDefEqProofs
                  · intro p hp
                    rw [hGs] at hp
                    rcases List.mem_cons.1 hp with rfl | hp
                    · simp -implicitDefEqProofs [lkB_app, nX, nX', nM, nM', xm, xm']
                    · rcases List.mem_cons.1 hp with rfl | hp
                      · simp -implicitDefEqProofs [lkB_app, nX, nX', nM, nM', xm, xm']
                      · obtain ⟨q1, q2, q3, q4⟩ := gu' p hp
                        simp -implicitDefEqProofs [lkB, lkB_app, q1, q2, q3, q4]
                | true =>
                  rw [gs] at SY A1
                  simp only [Bool.and_self, if_true] at A1
                  refine onH_mk _ _ (A1 _ (by rw [mM]; rfl)) ⟨?_, ?_, ?_, ?_, ?_, ?_, ?_⟩ ?_
                  iterate 6 (· simp -implicitDefEqProofs [rn, rX, rM, xm, xm', lkB_app, nX, nX', nM, nM'])
                  · simp -implicitDefEqProofs; (simp only [or_imp, forall_and, and_imp, forall_eq, forall_eq_apply_imp_iff, mX, mM, nw_n]; simp; exact fun a b hm => by rw [(rw' _ a b hm).2]; rfl)
                  simp -implicitDefEqProofs [rn, rX, rM, xm, xm', rmX, rmM, lkB_app, rmB_app, nX, nX', nM, nM', f8, e8, O1, O3, P1, P3]
                  refine onC_mk _ (Qy) ?_
                  simp -implicitDefEqProofs [rn, rX, rM, xm, xm', rmX, rmM, lkB_app, rmB_app, nX, nX', nM, nM', f8, e8, O1, O3, P1, P3]
                  refine onC_mk _ (SY) ?_
                  simp -implicitDefEqProofs [rn, rX, rM, xm, xm', rmX, rmM, lkB_app, rmB_app, nX, nX', nM, nM', f8, e8, O1, O3, P1, P3]
                  refine TYs gy gs _ _ _ ?_ ?_ ?_ ?_
                  · simp -implicitDefEqProofs
                  · simp -implicitDefEqProofs
                  · simp -implicitDefEqProofs
                  · intro p hp
                    rcases List.mem_cons.1 hp with rfl | hp
                    · simp -implicitDefEqProofs [lkB_app, nX, nX', nM, nM', xm, xm', ← hP', hyr]
                      rfl
                    · rcases List.mem_cons.1 hp with rfl | hp
                      · simp -implicitDefEqProofs [lkB_app, nX, nX', nM, nM', xm, xm']
                      · obtain ⟨q1, q2, q3, q4⟩ := gu' p hp
                        simp -implicitDefEqProofs [lkB, lkB_app, q1, q2, q3, q4]
            · have c2' : ¬ (k : Int) < l.length := by omega
              simp -implicitDefEqProofs [al, c2, c2', lkB_app, gn, f8, O1, O3]
              simp only [hGs]
              cases gy : goalP y with
              | false =>
                rw [gy] at Qy A1
                simp only [Bool.false_and, Bool.false_eq_true, if_false] at A1
                refine onH_mk _ _ (A1 _ (by rw [mM]; rfl)) ⟨?_, ?_, ?_, ?_, ?_, ?_, ?_⟩ ?_
                iterate 6 (· simp -implicitDefEqProofs [rn, rX, rM, xm, xm', lkB_app, nX, nX', nM, nM'])
                · simp -implicitDefEqProofs; (simp only [or_imp, forall_and, and_imp, forall_eq, forall_eq_apply_imp_iff, mX, mM, nw_n]; simp; exact fun a b hm => by rw [(rw' _ a b hm).2]; rfl)
                simp -implicitDefEqProofs [rn, rX, rM, xm, xm', rmX, rmM, lkB_app, rmB_app, nX, nX', nM, nM', f8, e8, O1, O3, P1, P3]
                refine onC_mk _ (Qy) ?_
                simp -implicitDefEqProofs [rn, rX, rM, xm, xm', rmX, rmM, lkB_app, rmB_app, nX, nX', nM, nM', f8, e8, O1, O3, P1, P3]
                refine TXs _ _ _ ?_ ?_ ?_ ?_
                · simp -implicitDefEqProofs
                · simp -implicitDefEqProofs
                · simp -implicitDefEqProofs
                · intro p hp
                  rw [hGs] at hp
                  rcases List.mem_cons.1 hp with rfl | hp
                  · simp -implicitDefEqProofs [lkB_app, nX, nX', nM, nM', xm, xm']
                  · rcases List.mem_cons.1 hp with rfl | hp
                    · simp -implicitDefEqProofs [lkB_app, nX, nX', nM, nM', xm, xm']
                    · obtain ⟨q1, q2, q3, q4⟩ := gu' p hp
                      simp -implicitDefEqProofs [lkB, lkB_app, q1, q2, q3, q4]
              | true =>
                rw [gy] at Qy A1
                cases gs : stP x y with
                | false =>
                  rw [gs] at SY A1
                  simp only [Bool.and_false, Bool.false_eq_true, if_false] at A1
                  refine onH_mk _ _ (A1 _ (by rw [mM]; rfl)) ⟨?_, ?_, ?_, ?_, ?_, ?_, ?_⟩ ?_
                  iterate 6 (· simp -implicitDefEqProofs [rn, rX, rM, xm, xm', lkB_app, nX, nX', nM, nM'])
                  · simp -implicitDefEqProofs; (simp only [or_imp, forall_and, and_imp, forall_eq, forall_eq_apply_imp_iff, mX, mM, nw_n]; simp; exact fun a b hm => by rw [(rw' _ a b hm).2]; rfl)
                  simp -implicitDefEqProofs [rn, rX, rM, xm, xm', rmX, rmM, lkB_app, rmB_app, nX, nX', nM, nM', f8, e8, O1, O3, P1, P3]
                  refine onC_mk _ (Qy) ?_
                  simp -implicitDefEqProofs [rn, rX, rM, xm, xm', rmX, rmM, lkB_app, rmB_app, nX, nX', nM, nM', f8, e8, O1, O3, P1, P3]
                  refine onC_mk _ (SY) ?_
                  simp -implicitDefEqProofs [rn, rX, rM, xm, xm', rmX, rmM, lkB_app, rmB_app, nX, nX', nM, nM', f8, e8, O1, O3, P1, P3]
                  refine TXs _ _ _ ?_ ?_ ?_ ?_
                  · simp -implicitDefEqProofs
                  · simp -implicitDefEqProofs
                  · simp -implicitDefEqProofs
                  · intro p hp
                    rw [hGs] at hp
                    rcases List.mem_cons.1 hp with rfl | hp
                    · simp -implicitDefEqProofs [lkB_app, nX, nX', nM, nM', xm, xm']
                    · rcases List.mem_cons.1 hp with rfl | hp
                      · simp -implicitDefEqProofs [lkB_app, nX, nX', nM, nM', xm, xm']
                      · obtain ⟨q1, q2, q3, q4⟩ := gu' p hp
                        simp -implicitDefEqProofs [lkB, lkB_app, q1, q2, q3, q4]
                | true =>
                  rw [gs] at SY A1
                  simp only [Bool.and_self, if_true] at A1
                  refine onH_mk _ _ (A1 _ (by rw [mM]; rfl)) ⟨?_, ?_, ?_, ?_, ?_, ?_, ?_⟩ ?_
                  iterate 6 (· simp -implicitDefEqProofs [rn, rX, rM, xm, xm', lkB_app, nX, nX', nM, nM'])
                  · simp -implicitDefEqProofs; (simp only [or_imp, forall_and, and_imp, forall_eq, forall_eq_apply_imp_iff, mX, mM, nw_n]; simp; exact fun a b hm => by rw [(rw' _ a b hm).2]; rfl)
                  simp -implicitDefEqProofs [rn, rX, rM, xm, xm', rmX, rmM, lkB_app, rmB_app, nX, nX', nM, nM', f8, e8, O1, O3, P1, P3]
                  refine onC_mk _ (Qy) ?_
                  simp -implicitDefEqProofs [rn, rX, rM, xm, xm', rmX, rmM, lkB_app, rmB_app, nX, nX', nM, nM', f8, e8, O1, O3, P1, P3]
                  refine onC_mk _ (SY) ?_
                  simp -implicitDefEqProofs [rn, rX, rM, xm, xm', rmX, rmM, lkB_app, rmB_app, nX, nX', nM, nM', f8, e8, O1, O3, P1, P3]
                  refine TYs gy gs _ _ _ ?_ ?_ ?_ ?_
                  · simp -implicitDefEqProofs
                  · simp -implicitDefEqProofs
                  · simp -implicitDefEqProofs
                  · intro p hp
                    rcases List.mem_cons.1 hp with rfl | hp
                    · simp -implicitDefEqProofs [lkB_app, nX, nX', nM, nM', xm, xm', ← hP', hyr]
                      rfl
                    · rcases List.mem_cons.1 hp with rfl | hp
                      · simp -implicitDefEqProofs [lkB_app, nX, nX', nM, nM', xm, xm']
                      · obtain ⟨q1, q2, q3, q4⟩ := gu' p hp
                        simp -implicitDefEqProofs [lkB, lkB_app, q1, q2, q3, q4]
        · exact ⟨Nat.zero_le _, Nat.zero_le _, ok0⟩
        · refine weak_mk ?_ (wkB_self (GP mt0)) ?_ ?_ ?_ ?_
          · simp -implicitDefEqProofs
          · simp -implicitDefEqProofs
          · simp -implicitDefEqProofs [GK mt0 FX (gX mt0), GK mt0 FM (gM mt0), GN4, GN5]
          · intro p hp
            rcases List.mem_append.1 hp with hp | hp
            · exact fun d hd => .inl (GK mt0 d (gi mt0 p hp d hd))
            · rcases List.mem_cons.1 hp with rfl | hp
              · intro d hd
                rw [O2] at hd; simp at hd
              · rw [List.mem_singleton] at hp
                subst hp
                intro d hd
                rw [P2] at hd; simp at hd
          · simp -implicitDefEqProofs [GK mt0 FX (gX mt0)]
end Go.Ai
namespace Go.Ai
open Go.Proofs Go.Lib
set_option maxRecDepth 100000
/-! ### The listed tables of unicode/utf8, as cells -/
def accCells : List Value := (List.range 32).map fun o => Value.int .u8 (if o % 2 = 0 then (accLo (o / 2) : Int) else (accHi (o / 2) : Int))
def firstCells : List Value := firstTab.map fun z => Value.int .u8 z
theorem first_cell {W : World} (h : VarReads Tryz.prog W "unicode/utf8.first" firstData) (o : Nat) (u : Value) (hu : firstCells[o]? = some u) : W.cell? ⟨2, o, none⟩ = some u ∧ u.oneCell' = true := by
  have hg0 : Tryz.prog.globalNamed "unicode/utf8.first" = some 2 := by kernel_rfl
  have ht0 : (Tryz.prog.globals[2]?).map (·.type) = some 263 := by kernel_rfl
  obtain ⟨g, t, cs, fuel, p, hg, hty, hvar, hd⟩ := h
  obtain rfl := Option.some.inj (hg0.symm.trans hg)
  obtain rfl := Option.some.inj (ht0.symm.trans hty)
  have hcs := cells_of_tab (t := 263) (e := 5) (n := 256) (by kernel_rfl) (by kernel_rfl) (by kernel_rfl) (by kernel_rfl) hd
  refine ⟨?_, ?_⟩
  · rw [World.var?_cell hg hvar o, ← Array.getElem?_toList, hcs]
    exact hu
  · obtain ⟨z, _, rfl⟩ := List.mem_map.1 (List.mem_of_getElem? hu)
    rfl
theorem acc_cell {W : World} (h : VarReads Tryz.prog W "unicode/utf8.acceptRanges" acceptData) (o : Nat) (u : Value) (hu : accCells[o]? = some u) : W.cell? ⟨3, o, none⟩ = some u ∧ u.oneCell' = true := by
  have hg0 : Tryz.prog.globalNamed "unicode/utf8.acceptRanges" = some 3 := by kernel_rfl
  have ht0 : (Tryz.prog.globals[3]?).map (·.type) = some 266 := by kernel_rfl
  have hc0 : Tryz.prog.cellsOf 265 = 2 := by kernel_rfl
  obtain ⟨g, t, cs, fuel, p, hg, hty, hvar, hd⟩ := h
  obtain rfl := Option.some.inj (hg0.symm.trans hg)
  obtain rfl := Option.some.inj (ht0.symm.trans hty)
  have ho : o < 32 := by have := (List.getElem?_eq_some_iff.1 hu).1; simpa [accCells] using this
  simp only [accCells, List.getElem?_map, List.getElem?_range ho, Option.map_some, Option.some.injEq] at hu
  subst hu
  refine ⟨?_, by split <;> rfl⟩
  have hi : o / 2 < 16 := by omega
  obtain ⟨fuel', d, q, hdi, he⟩ := array_elem (t := 266) (e := 265) (n := 16) (by kernel_rfl) hd (o / 2) hi
  simp only [List.getElem?_map, List.getElem?_range hi, Option.map_some, Option.some.injEq] at hdi
  subst hdi
  rw [hc0] at he
  obtain ⟨fs, hfs, hsz, hf⟩ : ∃ fs : Array Field, Tryz.prog.underlying 265 = some (.struct fs) ∧ fs.size = 2 ∧ ∀ (i : Nat) (f : Field), fs[i]? = some f → Tryz.prog.underlying f.type = some (.int .u8) ∧ f.offset = i ∧ Tryz.prog.cellsOf f.type = 1 := by
    refine ⟨_, (by kernel_rfl : Tryz.prog.underlying 265 = some (.struct #[Field.mk "lo" 5 0 false "" "unicode/utf8" 0, Field.mk "hi" 5 1 false "" "unicode/utf8" 1])), rfl, fun j f hj => ?_⟩
    match j, hj with
    | 0, hj => simp at hj; subst hj; exact ⟨by kernel_rfl, rfl, by kernel_rfl⟩
    | 1, hj => simp at hj; subst hj; exact ⟨by kernel_rfl, rfl, by kernel_rfl⟩
    | j + 2, hj => simp at hj
  have hcs := ints_of_struct hfs hf (by rw [hc0, hsz]) he
  have e0 := congrArg (·[0]?) hcs
  have e1 := congrArg (·[1]?) hcs
  simp only [List.getElem?_take, List.getElem?_drop] at e0 e1
  rw [World.var?_cell hg hvar o, ← Array.getElem?_toList]
  by_cases hp : o % 2 = 0
  · rw [if_pos hp]
    have eo : o / 2 * 2 + 0 = o := by omega
    rw [eo] at e0
    simpa using e0
  · rw [if_neg hp]
    have eo : o / 2 * 2 + 1 = o := by omega
    rw [eo] at e1
    simpa using e1
end Go.Ai
namespace Go.Ai
open Go.Proofs Go.Lib
set_option maxRecDepth 100000
theorem gl_is : gl = [(2, firstCells), (3, accCells)] := by kernel_rfl
theorem u8_glo (W : World) (h : laidMet Tryz.prog [("unicode/utf8.acceptRanges", acceptData), ("unicode/utf8.first", firstData)] W) : ∀ i us, List.lookup i gl = some us → ∀ (o : Nat) (u : Value), us[o]? = some u → W.cell? ⟨i, o, none⟩ = some u ∧ u.oneCell' = true := by
  intro i us hi o u hu
  rw [gl_is] at hi
  simp only [List.lookup] at hi
  split at hi
  · rename_i e
    have e := eq_of_beq e
    subst e
    obtain rfl := Option.some.inj hi
    exact first_cell (laidMet.reads h (by simp)) o u hu
  · split at hi
    · rename_i e
      have e := eq_of_beq e
      subst e
      obtain rfl := Option.some.inj hi
      exact acc_cell (laidMet.reads h (by simp)) o u hu
    · cases hi
end Go.Ai
