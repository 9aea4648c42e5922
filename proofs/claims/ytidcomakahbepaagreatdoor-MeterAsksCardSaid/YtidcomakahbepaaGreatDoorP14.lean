/- YtidcomakahbepaaGreatDoorP14: part of the abstract interpreter library (values, rules, soundness against the model) or of what a function of the seat computes. Conditions: as each theorem says. -/
import Derived.Test.YtidcomakahbepaaGreatDoorP13
import Derived.Test.YtidcomakahbepaaGreatDoorCode
import Derived.Lib.LaidU8
import GoSem.PinnedTables
set_option linter.unusedSimpArgs false
set_option linter.unusedVariables false
namespace Go.Ai
open Go.Proofs
theorem onA_own {P : Program} {GL : List (Nat × List Value)} {K : St → Prop} {σ : St} {f d : Nat} {ps : List X} (k : Nat) (out : List (List AV)) (h : ∀ d, SpH P GL f d ⟨ps.map σ.v, [], []⟩ ⟨.sl out, [], [(.s 0, k)]⟩) (hk : K (σ.puto d (.sl out) k)) : onA (SpH P GL) f d none ps K σ := ⟨k, out, h, hk⟩
theorem wndV_form (Wl : List Int) (K w : Nat → Nat) (t : Nat) (L : List Ev) (sd : Bool) (z : Int) : ∃ (g c : Nat) (e : Int), wndV Wl K w t L sd z = .tup [.agg [u g, u c], i6 e] := by
  unfold wndV
  split
  · split
    · exact ⟨_, _, _, rfl⟩
    · exact ⟨_, _, _, rfl⟩
  · exact ⟨_, _, _, rfl⟩
theorem calV_form (c : Int) (sd : Bool) (pg pc : Nat) : ∃ (g t : Nat) (e : Int), (if c = 0 then AV.tup [.agg [u 0, u 0], i6 7] else if sd = true then .tup [.agg [u 0, u 0], i6 17] else .tup [.agg [u pg, u pc], i6 0]) = .tup [.agg [u g, u t], i6 e] := by
  split
  · exact ⟨_, _, _, rfl⟩
  · split
    · exact ⟨_, _, _, rfl⟩
    · exact ⟨_, _, _, rfl⟩
set_option maxRecDepth 20000 in
theorem meterAsks_spec (x : Gl) (l : List Ac) (hal : ∀ a ∈ l, a.t < 18446744073709551616) (z : Int) : Sp Tryz.prog gl 3 [.agg x.row, .sl (acRows l), i6 z] (.bool true) := by
  refine s3 rfl rfl ?_
  have AW := mawake_spec
  have H := heavyG_spec x
  have P1 : x.row.length = 8 := rfl
  have P2 : idsL x.row = [] := rfl
  have P3 : shutL x.row = some x.row := rfl
  cases hh : heavyG x with
  | true =>
    rw [hh] at H
    generalize x.row = P at *
    have e8 : List.take 8 P = P := List.take_of_length_le (by omega)
    simp -implicitDefEqProofs [c3]
    refine onC_mk _ (AW) ?_
    simp -implicitDefEqProofs [P1, e8, P3]
    refine onC_mk _ (H) ?_
    simp -implicitDefEqProofs
  | false =>
    rw [hh] at H
    have hf := heavyG_fit hh
    have hl := hf.ru
    have Q := qgoal_spec x hf
    cases hx : goalP x with
    | false =>
      rw [hx] at Q
      generalize x.row = P at *
      have e8 : List.take 8 P = P := List.take_of_length_le (by omega)
      simp -implicitDefEqProofs [c3]
      refine onC_mk _ (AW) ?_
      simp -implicitDefEqProofs [P1, e8, P3]
      refine onC_mk _ (H) ?_
      simp -implicitDefEqProofs [P1, e8, P3]
      refine onC_mk _ (Q) ?_
      simp -implicitDefEqProofs [P1, e8, P3]
    | true =>
      rw [hx] at Q
      have NM := nmF 32
      have hk := goal_k hx hl
      have hn := goal_n hl
      obtain ⟨G, hG⟩ : ∃ G : Mt → List (Id × List AV), G = fun s => mxB (fM 32) (fA 32) (fR 32) (fB 32) (fX 32) x (winP x).length (winP x) (kN x) (wN x) s := ⟨_, rfl⟩
      obtain ⟨rest, hrest⟩ : ∃ r : Mt → List (Id × List AV), r = fun s => (fA 32, ptrC (fR 32) (winP x).length) :: rgsB (fR 32) (fB 32) (rgC (kN x) (wN x) s.t s.L) (rgD (kN x) (wN x) s.t s.L) (winP x).length := ⟨_, rfl⟩
      have hGs : ∀ s, G s = (fX 32, xC x s.t s.sd s.L) :: (fM 32, mtC x (fA 32) (winP x).length (intRows (winP x)) (pF x.c s.t) (pT x.c s.t) (pcG x.c s.t s.L) (pcT x.c s.t s.L) s.t s.sd) :: rest s := fun s => by rw [hG, hrest]; rfl
      have gu : ∀ s, ∀ p ∈ G s, lkB (G s) p.1 = some p.2 := fun s => by rw [hG]; exact mx_uniq NM x _ _ _ _ s
      have gk : ∀ s s' j, (lkB (G s') j).isSome = (lkB (G s) j).isSome := fun s s' j => by rw [hG]; exact mx_keys x x _ _ _ _ s s' j
      have gX : ∀ s, (lkB (G s) (fX 32)).isSome = true := fun s => by rw [hG]; exact mx_x ..
      have gM : ∀ s, (lkB (G s) (fM 32)).isSome = true := fun s => by rw [hG]; exact lkB_isSome (p := (fM 32, _)) (List.mem_cons_of_mem _ (List.mem_cons_self ..))
      have gi : ∀ s, ∀ p ∈ G s, ∀ i ∈ idsL p.2, (lkB (G s) i).isSome = true := fun s => by rw [hG]; exact mx_ids NM x _ _ _ _ s
      have gw : ∀ s (a : Id) (b : List AV), (a, b) ∈ G s → a.isIt = false ∧ ∀ t, a.isNw t = (32 == t) := fun s => by rw [hG]; exact fx_nw 32 x _ _ _ _ s
      have gn : ∀ s j, lkB (G s) (.n j) = none := fun s j => by rw [hG]; exact fx_n 32 x _ _ _ _ s j
      have gf : ∀ s fr, ∀ p ∈ G s, inF fr p.1 = false := fun s fr => by rw [hG]; exact fx_inF 32 x _ _ _ _ s fr
      have mX : ∀ t, (fX 32).isNw t = (32 == t) := fun t => by simp [fX, Id.isNw, Id.isUp]
      have mM : ∀ t, (fM 32).isNw t = (32 == t) := fun t => by simp [fM, Id.isNw, Id.isUp]
      have iX : (fX 32).isIt = false := rfl
      have iM : (fM 32).isIt = false := rfl
      have fXn : ∀ fr, inF fr (fX 32) = false := fun _ => rfl
      have nX : ∀ j, ¬ fX 32 = .n j := fun j => by simp [fX]
      have nM : ∀ j, ¬ fM 32 = .n j := fun j => by simp [fM]
      have nX' : ∀ j, ¬ Id.n j = fX 32 := fun j => by simp [fX]
      have nM' : ∀ j, ¬ Id.n j = fM 32 := fun j => by simp [fM]
      have xm := NM.xm
      have xm' : ¬ fM 32 = fX 32 := fun e => NM.xm e.symm
      have nmpa := NM.h.pa
      obtain ⟨mt, hmt⟩ : ∃ r : Mt → List (Id × List AV), r = fun s => mtB (fM 32) (fA 32) (fR 32) (fB 32) x (winP x).length (intRows (winP x)) (kN x) (wN x) s.t s.L s.sd := ⟨_, rfl⟩
      have hGm : ∀ s, G s = (fX 32, xC x s.t s.sd s.L) :: mt s := fun s => by rw [hG, hmt]; rfl
      have hMs : ∀ s, mt s = (fM 32, mtC x (fA 32) (winP x).length (intRows (winP x)) (pF x.c s.t) (pT x.c s.t) (pcG x.c s.t s.L) (pcT x.c s.t s.L) s.t s.sd) :: rest s := fun s => by rw [hmt, hrest]; rfl
      have mu : ∀ s, ∀ p ∈ mt s, lkB (mt s) p.1 = some p.2 := fun s => by rw [hmt]; exact mt_uq NM.h x _ _ _ _ _ _ _
      have mk : ∀ s s' j, (lkB (mt s') j).isSome = (lkB (mt s) j).isSome := fun s s' j => by rw [hmt]; exact mt_ks x x _ _ _ _ _ _ _ _ _ _ j
      have m0 : ∀ s, lkB (mt s) (fX 32) = none := fun s => by rw [hmt]; exact mt_nox NM x _ _ _ _ _ _ _
      have mr : ∀ s, rmB (mt s) (fX 32) = mt s := fun s => by rw [hmt]; exact mt_norm NM x _ _ _ _ _ _ _
      have mn : ∀ s j, lkB (mt s) (.n j) = none := fun s j => by
        have q := gn s j
        rw [hGm] at q; simp only [lkB] at q
        rw [if_neg (nX j)] at q; exact q
      have mw : ∀ s (a : Id) (b : List AV), (a, b) ∈ mt s → a.isIt = false ∧ ∀ t, a.isNw t = (32 == t) := fun s a b hm => gw s a b (by rw [hGm]; exact List.mem_cons_of_mem _ hm)
      have rX : ∀ s, lkB (rest s) (fX 32) = none := fun s => by
        have q := m0 s
        rw [hMs] at q; simp only [lkB] at q
        rw [if_neg xm'] at q; exact q
      have rn : ∀ s j, lkB (rest s) (.n j) = none := fun s j => by
        have q := mn s j
        rw [hMs] at q; simp only [lkB] at q
        rw [if_neg (nM j)] at q; exact q
      have rw' : ∀ s (a : Id) (b : List AV), (a, b) ∈ rest s → a.isIt = false ∧ ∀ t, a.isNw t = (32 == t) := fun s a b hm => mw s a b (by rw [hMs]; exact List.mem_cons_of_mem _ hm)
      have rmX : ∀ s, rmB (rest s) (fX 32) = rest s := fun s => by
        have q := mr s
        rw [hMs] at q; simp only [rmB] at q
        rw [if_neg xm'] at q; exact (List.cons.inj q).2
      have rmM : ∀ s, rmB (rest s) (fM 32) = rest s := fun s => by
        rw [hrest]
        simp only [rmB]
        rw [if_neg (fun e => NM.h.ma e.symm), rgsB_rm NM.h.mr NM.h.mb]
      have rM : ∀ s, lkB (rest s) (fM 32) = none := fun s => by
        rw [hrest]
        simp only [lkB]
        rw [if_neg (fun e => NM.h.ma e.symm), rgsB_none NM.h.mr NM.h.mb]
      have F : SpH Tryz.prog gl 15 32 ⟨[.agg x.row], [], []⟩ ⟨.tup [.ptr (fM 32) 0, .ptr (fX 32) 0, .bool true], G mt0, [(.b (fX 32) 10, 3)]⟩ := by
        have q := fresh_spec x hf hl hx 32
        rw [hG]; exact q
      have DO : ∀ s k, k ≤ 1000000 → MtOk x (winP x).length (kN x) (wN x) s k → ∀ a : Ac, a.t < 18446744073709551616 → ∀ e, (fM 32).isNw e = false → SpH Tryz.prog gl 17 e ⟨[.ptr (fM 32) 0, .ptr (fX 32) 0, .agg a.row], G s, [(.b (fX 32) 10, 3)]⟩ ⟨.bool true, G (stS x (winP x).length (kN x) (wN x) s a), [(.b (fX 32) 10, 3)]⟩ := fun s k h1 h2 a ha e he => by
        rw [hG]; exact does_spec _ _ _ _ _ NM x hx hl s k h1 h2 a ha e he
      have hok := fun s k (h : MtOk x (winP x).length (kN x) (wN x) s k) a => stS_ok h a
      have ok0 := mt0_ok x (winP x).length (kN x) (wN x)
      have al := acRows_len l
      have a4 := acRows_4 l
      have aat : ∀ k (h : k < l.length), (acRows l)[k]? = some [i6 l[k].k, i6 l[k].a, u l[k].g, u l[k].t] := acRows_at l
      have hrow : ∀ k (h : k < l.length), (l[k]).row = [i6 l[k].k, i6 l[k].a, u l[k].g, u l[k].t] := fun k h => rfl
      generalize acRows l = RW at *
      obtain ⟨-, ga, -, -, gc, -⟩ := goal_parts hx
      have hw := goal_wd hx hl
      have W1 : ∀ (s : Mt) (z : Int) e, (fM 32).isNw e = false → SpH Tryz.prog gl 18 e ⟨[.ptr (fM 32) 0, i6 z], mt s, []⟩ ⟨wndV (winP x) (kN x) (wN x) s.t s.L s.sd z, mt s, []⟩ := fun s z e he => by
        rw [hmt]; exact mwindow_spec _ _ _ _ NM.h x (winP x).length hn (winP x) rfl (winP_rising x) (kN x) (wN x) s.t s.L s.sd z e he
      have W2 : ∀ (s : Mt) k, k ≤ 1000000 → MtOk x (winP x).length (kN x) (wN x) s k → ∀ (z : Int) e, (fX 32).isNw e = false → SpH Tryz.prog gl 19 e ⟨[.ptr (fX 32) 0, i6 z], [(fX 32, xC x s.t s.sd s.L)], [(.b (fX 32) 10, 3)]⟩ ⟨wndV (winP x) (kN x) (wN x) s.t s.L s.sd z, [(fX 32, xC x s.t s.sd s.L)], [(.b (fX 32) 10, 3)]⟩ := fun s k hk hs z e he =>
        xwindow_spec (fX 32) iX x hl (winP x).length (gN x) (wdN x) hw s.t hs.t s.sd s.L hs.L (Nat.le_trans hs.l hk) z e he
      have C1 := fun (s : Mt) e he => mCalendar_spec (fM 32) (fA 32) nmpa x (winP x).length (intRows (winP x)) (pF x.c s.t) (pT x.c s.t) (pcG x.c s.t s.L) (pcT x.c s.t s.L) s.t s.sd e he
      have C2 := fun (s : Mt) k (hk : k ≤ 1000000) (hs : MtOk x (winP x).length (kN x) (wN x) s k) e he => xcal_spec (fX 32) iX x gc.1 s.t hs.t s.sd s.L hs.L.ok (Nat.le_trans hs.l hk) hs.P e he
      have S1 := fun (s : Mt) e he => msated_spec (fM 32) (fA 32) nmpa x (winP x).length (intRows (winP x)) (pF x.c s.t) (pT x.c s.t) (pcG x.c s.t s.L) (pcT x.c s.t s.L) s.t s.sd e he
      have A1 := fun (s : Mt) (a : Int) (hs : s.t ≤ 253402300799) (hb : addE x.a s.t a 0 0 ≠ 0) e he => madd_bad (fM 32) (fA 32) nmpa x ga (winP x).length (intRows (winP x)) (pF x.c s.t) (pT x.c s.t) (pcG x.c s.t s.L) (pcT x.c s.t s.L) s.t hs s.sd a 0 0 hb e he
      have A2 : ∀ (s : Mt) k, MtOk x (winP x).length (kN x) (wN x) s k → s.sd = true → ∀ (a : Nat), addE x.a s.t a 0 0 = 0 → ∀ e, (fM 32).isNw e = false → SpH Tryz.prog gl 23 e ⟨[.ptr (fM 32) 0, i6 a, .agg [u 0, u 0]], mt s, []⟩ ⟨i6 17, mt s, []⟩ := fun s k hs hd a hE e he => by
        have q := madd_full (fM 32) (fA 32) _ _ NM.h x ga (winP x).length hn (intRows (winP x)) (kN x) (wN x) hk s.t s.L hs.L s.sd hs.t a 0 0 (by omega) hE (.inl hd) e he
        rw [hmt]
        simp only [hd] at q ⊢
        exact q
      have RN := fun d => rwinN_spec x hl d
      have WL := winP_len x
      generalize hstS : stS x (winP x).length (kN x) (wN x) = ST at *
      clear hG hrest hstS hmt NM
      generalize fM 32 = FM at *
      generalize fX 32 = FX at *
      generalize fA 32 = FA at *
      simp only [xC, mtC] at hGs hGm hMs W2 C1 C2 S1 A1
      have hlim : lim = 140737488355328 := rfl
      have WRl : (intRows (winP x)).length = (winP x).length := intRows_len _
      have WR1 := intRows_one (winP x)
      have WWa : ∀ k, k < (winP x).length + 1 → ∃ y : Int, (intRows (winP x ++ [z]))[k]? = some [i6 y] := fun k hk => by
        have h1 : k < (intRows (winP x ++ [z])).length := by rw [intRows_len]; simp; omega
        refine ⟨(winP x ++ [z])[k]'(by simp; omega), ?_⟩
        simp only [intRows, List.getElem?_map]
        rw [List.getElem?_eq_getElem (by simp; omega)]; rfl
      have WWl : (intRows (winP x ++ [z])).length = (winP x).length + 1 := by rw [intRows_len]; simp
      have WW1 := intRows_one (winP x ++ [z])
      have q1 : ((winP x).length + 1) * 8 ≤ 140737488355328 := by omega
      have hru := hf.ru
      generalize hP : x.row = P at *
      rw [intRows_snoc] at WWa WWl WW1
      generalize intRows (winP x) = WR at *
      have e8 : List.take 8 P = P := List.take_of_length_le (by omega)
      simp -implicitDefEqProofs [c3]
      refine onC_mk _ (AW) ?_
      simp -implicitDefEqProofs [P1, e8, P3]
      refine onC_mk _ (H) ?_
      simp -implicitDefEqProofs [P1, e8, P3]
      refine onC_mk _ (Q) ?_
      simp -implicitDefEqProofs [P1, e8, P3]
      refine onH_mk _ _ F ⟨?_, ?_, ?_, ?_, ?_, ?_, ?_⟩ ?_
      iterate 5 (· simp -implicitDefEqProofs [gn, P1, e8, P3])
      · simp -implicitDefEqProofs
        intro a b hm
        obtain ⟨h1, h2⟩ := gw _ a b hm
        exact ⟨by rw [h2]; rfl, h1⟩
      · simp -implicitDefEqProofs
      simp -implicitDefEqProofs [gn, lkB_app, P1, e8, P3]
      refine onA_own 1 WR (fun d => by simp -implicitDefEqProofs; exact RN d) ?_
      simp -implicitDefEqProofs [gn, lkB_app, WRl, hlim, q1]
      refine ⟨WR1, ?_⟩
      generalize WR ++ [[i6 z]] = WW at *
      obtain ⟨N1, hN1⟩ : ∃ n, n = (winP x).length + 1 := ⟨_, rfl⟩
      rw [← hN1] at WWl q1
      have WWa : ∀ k, k < N1 → ∃ y : Int, WW[k]? = some [i6 y] := fun k hk => WWa k (by omega)
      have GP : ∀ s, ∀ p ∈ G s ++ [(Id.n 3, P)], lkB (G s ++ [(Id.n 3, P)]) p.1 = some p.2 := fun s p hp => by
        rcases List.mem_append.1 hp with hp | hp
        · rw [lkB_app, gu s p hp]
        · rw [List.mem_singleton] at hp
          subst hp
          rw [lkB_app, gn]; simp [lkB]
      have GK : ∀ s d, (lkB (G s) d).isSome = true → (lkB (G s ++ [(Id.n 3, P)]) d).isSome = true := fun s d h => by
        rw [lkB_app]
        obtain ⟨c, hc⟩ := Option.isSome_iff_exists.1 h
        rw [hc]; rfl
      have GN : ∀ s, (lkB (G s ++ [(Id.n 3, P)]) (.n 3)).isSome = true := fun s => by rw [lkB_app, gn]; simp [lkB]
      refine wp_lpk (α := Nat × Mt) (fun p => ⟨[(1, .sl RW), (3, .ptr (.n 3) 0), (7, .ptr FM 0), (8, .ptr FX 0), (10, .sl WW), (11, i6 p.1)], G p.2 ++ [(.n 3, P)], [(.b FX 10, 3)]⟩)
        (fun p => p.1 ≤ l.length ∧ p.1 ≤ 100 ∧ MtOk x (winP x).length (kN x) (wN x) p.2 p.1) (fun p => l.length - p.1) ?_ (0, mt0) ?_ ?_
      · rintro K ⟨k, s⟩ hK ⟨k1, k2, k3⟩
        by_cases c : k < l.length ∧ k < 100
        · obtain ⟨c1, c2⟩ := c
          have c1' : (k : Int) < l.length := by omega
          have c2' : (k : Int) < 100 := by omega
          have w1 : IntKind.i64.wrap ((k : Int) + 1) = (k + 1 : Nat) := by rw [wr] <;> omega
          have kl : k < RW.length := by omega
          have ew0 := aat k c1
          have ew : RW[k]'kl = [i6 l[k].k, i6 l[k].a, u l[k].g, u l[k].t] := by rw [List.getElem?_eq_getElem kl] at ew0; exact Option.some.inj ew0
          have D1 := DO s k (by omega) k3 l[k] (hal _ (List.getElem_mem c1))
          rw [hrow k c1] at D1
          have hk2 := hok s k k3 l[k]
          have fin := fun σ' (hσ : Weak σ' _) => hK (k + 1, ST s l[k]) σ' ⟨by simp only; omega, by simp only; omega, hk2⟩ (by simp only; omega) hσ
          have jl : k % N1 < N1 := Nat.mod_lt _ (by omega)
          obtain ⟨y, ey0⟩ := WWa _ jl
          have jl' : k % N1 < WW.length := by omega
          have ey : WW[k % N1]'jl' = [i6 y] := by rw [List.getElem?_eq_getElem jl'] at ey0; exact Option.some.inj ey0
          have tm := tmodL (x := (k : Int)) (y := (N1 : Int)) (a := k) (b := N1) rfl rfl
          have n10 : ¬ ((N1 : Int) = 0) := by omega
          have n11 : ¬ (N1 = 0) := by omega
          have wj : IntKind.i64.wrap ((k % N1 : Nat) : Int) = (k % N1 : Nat) := by
            have : k % N1 ≤ k := Nat.mod_le _ _
            rw [wr] <;> omega
          clear hK DO hok aat F RN WWa hrow
          generalize ST s l[k] = s' at *
          generalize l[k].k = ak at *
          generalize l[k].a = aa at *
          generalize l[k].g = ag at *
          generalize l[k].t = at' at *
          have V1 := W1 s' y
          have V2 := W2 s' (k + 1) (by omega) hk2 y
          obtain ⟨vg, vt, ve, hV⟩ := wndV_form (winP x) (kN x) (wN x) s'.t s'.L s'.sd y
          rw [hV] at V1 V2
          have B1 := C1 s'
          have B2 := C2 s' (k + 1) (by omega) hk2
          obtain ⟨bg, bt, be, hB⟩ := calV_form x.c s'.sd (pcG x.c s'.t s'.L) (pcT x.c s'.t s'.L)
          rw [hB] at B1 B2
          generalize hJ : k % N1 = j at *
          clear hV hB hJ C1 C2 W1 W2
          simp -implicitDefEqProofs [al, c1, c1', c2', c2, kl, ew, ew0, a4]
          refine onH_xs (pre := []) (suf := [(.n 3, P)]) (q := []) (D1 _ (by rw [mM]; rfl)) rfl rfl (gX _) ?_ ?_ (gu _) (gk _ _) ?_ ?_ ?_ ?_
          · simp -implicitDefEqProofs
          · simp -implicitDefEqProofs [gn]
          · simp -implicitDefEqProofs
            intro a b hm
            rcases hm with hm | hm
            · rw [(gw _ a b hm).2]; rfl
            · rw [hm.1]; rfl
          · simp -implicitDefEqProofs
          · simp -implicitDefEqProofs
          simp -implicitDefEqProofs [lkB_app, xm, xm', WWl, n10, n11]
          rw [tm]
          simp -implicitDefEqProofs [lkB_app, xm, xm', WWl, jl, jl', ey, ey0, WW1, wj]
          have gu' : ∀ p ∈ rest s', lkB (rest s') p.1 = some p.2 ∧ ¬ FX = p.1 ∧ ¬ FM = p.1 ∧ ∀ j, ¬ Id.n j = p.1 := fun p hp => by
            have e1 := ne_none hp (rX s')
            have e2 := ne_none hp (rM s')
            have q := mu s' p (by rw [hMs]; exact List.mem_cons_of_mem _ hp)
            rw [hMs] at q
            simp only [lkB] at q
            rw [if_neg e2] at q
            exact ⟨q, e1, e2, fun j => ne_none hp (rn s' j)⟩
          refine onH_ps (pre := [(FX, _)]) (l := mt s') (suf := [(.n 3, P)]) (V1 _ (by rw [mM]; rfl)) (by simp only [hGm]; rfl) ?_ ?_ (mu _) (fun _ => rfl) ?_ ?_ ?_ ?_
          · simp -implicitDefEqProofs [m0]
          · simp -implicitDefEqProofs [mn]
          · simp -implicitDefEqProofs
            intro a b hm
            rcases hm with hm | hm
            · rw [(gw _ a b hm).2]; rfl
            · rw [hm.1]; rfl
          · simp -implicitDefEqProofs [m0]
          · simp -implicitDefEqProofs
          simp -implicitDefEqProofs [mn, lkB_app, nX, nX', nM, nM']
          refine onH_mk _ _ (V2 _ (by rw [mX]; rfl)) ⟨?_, ?_, ?_, ?_, ?_, ?_, ?_⟩ ?_
          iterate 6 (· simp -implicitDefEqProofs [mn, m0, lkB_app, nX, nX', nM, nM'])
          · simp -implicitDefEqProofs; (simp only [or_imp, forall_and, and_imp, forall_eq, forall_eq_apply_imp_iff, mX, mM, nw_n]; simp; exact fun a b hm => by rw [(mw _ a b hm).2]; rfl)
          simp -implicitDefEqProofs [mn, m0, mr, lkB_app, rmB_app, nX, nX', nM, nM']
          simp only [hMs]
          refine onH_mk _ _ (B1 _ (by rw [mM]; rfl)) ⟨?_, ?_, ?_, ?_, ?_, ?_, ?_⟩ ?_
          iterate 6 (· simp -implicitDefEqProofs [rn, rX, rM, xm, xm', lkB_app, nX, nX', nM, nM'])
          · simp -implicitDefEqProofs; (simp only [or_imp, forall_and, and_imp, forall_eq, forall_eq_apply_imp_iff, mX, mM, nw_n]; simp; exact fun a b hm => by rw [(rw' _ a b hm).2]; rfl)
          simp -implicitDefEqProofs [rn, rX, rM, xm, xm', rmX, rmM, lkB_app, rmB_app, nX, nX', nM, nM']
          refine onH_mk _ _ (B2 _ (by rw [mX]; rfl)) ⟨?_, ?_, ?_, ?_, ?_, ?_, ?_⟩ ?_
          iterate 6 (· simp -implicitDefEqProofs [rn, rX, rM, xm, xm', lkB_app, nX, nX', nM, nM'])
          · simp -implicitDefEqProofs; (simp only [or_imp, forall_and, and_imp, forall_eq, forall_eq_apply_imp_iff, mX, mM, nw_n]; simp; exact fun a b hm => by rw [(rw' _ a b hm).2]; rfl)
          simp -implicitDefEqProofs [rn, rX, rM, xm, xm', rmX, rmM, lkB_app, rmB_app, nX, nX', nM, nM']
          refine onH_any (S1 s' _ (by rw [mM]; rfl)) ?_ ?_ ?_ ?_ ?_
          · simp -implicitDefEqProofs [rn, rX, rM, xm, xm', lkB_app, nX, nX', nM, nM']
          · simp -implicitDefEqProofs
            (simp only [or_imp, forall_and, and_imp, forall_eq, forall_eq_apply_imp_iff, mX, mM, nw_n]; simp; exact fun a b hm => by rw [(rw' _ a b hm).2]; rfl)
          · simp -implicitDefEqProofs [xm, xm']
          · simp -implicitDefEqProofs
          intro BX look hmem
          have hb : ∀ p ∈ G s' ++ [(Id.n 3, P)], lkB BX p.1 = some p.2 := by
            intro p hp
            rw [look]
            rcases List.mem_append.1 hp with hp | hp
            · rw [hGm, hMs] at hp
              rcases List.mem_cons.1 hp with rfl | hp
              · simp -implicitDefEqProofs [lkB_app, nX, nX', nM, nM', xm, xm']
              · rcases List.mem_cons.1 hp with rfl | hp
                · simp -implicitDefEqProofs [lkB_app, nX, nX', nM, nM', xm, xm']
                · obtain ⟨q1, q2, q3, q4⟩ := gu' p hp
                  simp -implicitDefEqProofs [lkB, lkB_app, q1, q2, q3, q4]
            · rw [List.mem_singleton] at hp
              subst hp
              simp -implicitDefEqProofs [lkB_app, nX, nX', nM, nM', rn]
          have hX1 : (lkB (G s' ++ [(Id.n 3, P)]) FX).isSome = true := GK s' FX (gX s')
          have hM1 : (lkB (G s' ++ [(Id.n 3, P)]) FM).isSome = true := GK s' FM (gM s')
          have hfr : ∀ p ∈ BX, p.1.isNw 127 = false := by
            intro p hp
            obtain ⟨a, b⟩ := p
            have q := hmem _ hp
            simp only [List.mem_cons, List.mem_append, Prod.mk.injEq, List.not_mem_nil, or_false] at q
            rcases q with ⟨q, -⟩ | ⟨q, -⟩ | ⟨q, -⟩ | ⟨q, -⟩ | ⟨q, -⟩ | ⟨q, -⟩ | q | ⟨q, -⟩
            · rw [q]; rfl
            · rw [q, mX]; rfl
            · rw [q]; rfl
            · rw [q, mM]; rfl
            · rw [q]; rfl
            · rw [q]; rfl
            · rw [(rw' _ a b q).2]; rfl
            · rw [q]; rfl
          clear look hmem
          by_cases hsd : s'.sd = true
          · by_cases h2 : ak = 2
            · have h2' : (ak == 2) = true := by rw [h2]; rfl
              have hmt : ∀ p ∈ mt s', lkB BX p.1 = some p.2 := fun p hp => hb p (List.mem_append_left _ (by rw [hGm]; exact List.mem_cons_of_mem _ hp))
              simp -implicitDefEqProofs [hsd, h2', al, kl, ew, ew0, a4, c1, c1']
              by_cases hE : addE x.a s'.t aa 0 0 = 0
              · obtain ⟨-, e2, -⟩ := addE_zero hE
                obtain ⟨a', rfl⟩ := Int.eq_ofNat_of_zero_le e2
                refine onH_any (A2 s' (k + 1) hk2 hsd a' hE _ (by rw [mM]; rfl)) hmt hfr ?_ ?_ ?_
                · simp -implicitDefEqProofs [m0]
                · simp -implicitDefEqProofs
                intro BX2 look2 _
                have hb2 : ∀ p ∈ G s' ++ [(Id.n 3, P)], lkB BX2 p.1 = some p.2 := fun p hp => by rw [look2]; exact hb p hp
                simp -implicitDefEqProofs
                refine fin _ (weak_mk ?_ (fun p hp => by simp only [wkB, hb2 p hp]; exact wkL_rfl' _) ?_ ?_ ?_ ?_)
                · simp -implicitDefEqProofs [w1]
                · simp -implicitDefEqProofs
                · simp -implicitDefEqProofs [hX1, hM1, GN]
                · intro p hp
                  rcases List.mem_append.1 hp with hp | hp
                  · exact fun d hd => .inl (GK s' d (gi s' p hp d hd))
                  · rw [List.mem_singleton] at hp
                    subst hp
                    intro d hd
                    rw [P2] at hd; simp at hd
                · simp -implicitDefEqProofs [hX1]
              · have hne : ¬ addE x.a s'.t aa 0 0 = 0 := hE
                refine onH_any (A1 s' aa hk2.t hE _ (by rw [mM]; rfl)) (fun p hp => by rw [List.mem_singleton] at hp; subst hp; exact hmt _ (by rw [hMs]; exact List.mem_cons_self ..)) hfr ?_ ?_ ?_
                · simp -implicitDefEqProofs [xm, xm']
                · simp -implicitDefEqProofs
                intro BX2 look2 _
                have hb2 : ∀ p ∈ G s' ++ [(Id.n 3, P)], lkB BX2 p.1 = some p.2 := fun p hp => by rw [look2]; exact hb p hp
                have hq : (addE x.a s'.t aa 0 0 == 0) = false := by rw [beq_eq_false_iff_ne]; exact hE
                generalize addE x.a s'.t aa 0 0 = zz at *
                simp -implicitDefEqProofs [hq]
                refine fin _ (weak_mk ?_ (fun p hp => by simp only [wkB, hb2 p hp]; exact wkL_rfl' _) ?_ ?_ ?_ ?_)
                · simp -implicitDefEqProofs [w1]
                · simp -implicitDefEqProofs
                · simp -implicitDefEqProofs [hX1, hM1, GN]
                · intro p hp
                  rcases List.mem_append.1 hp with hp | hp
                  · exact fun d hd => .inl (GK s' d (gi s' p hp d hd))
                  · rw [List.mem_singleton] at hp
                    subst hp
                    intro d hd
                    rw [P2] at hd; simp at hd
                · simp -implicitDefEqProofs [hX1]
            · have h2' : (ak == 2) = false := by rw [beq_eq_false_iff_ne]; exact h2
              simp -implicitDefEqProofs [hsd, h2', al, kl, ew, ew0, a4, c1, c1']
              refine fin _ (weak_mk ?_ (fun p hp => by simp only [wkB, hb p hp]; exact wkL_rfl' _) ?_ ?_ ?_ ?_)
              · simp -implicitDefEqProofs [w1]
              · simp -implicitDefEqProofs
              · simp -implicitDefEqProofs [hX1, hM1, GN]
              · intro p hp
                rcases List.mem_append.1 hp with hp | hp
                · exact fun d hd => .inl (GK s' d (gi s' p hp d hd))
                · rw [List.mem_singleton] at hp
                  subst hp
                  intro d hd
                  rw [P2] at hd; simp at hd
              · simp -implicitDefEqProofs [hX1]
          · have hsd : s'.sd = false := by simpa using hsd
            simp -implicitDefEqProofs [hsd]
            refine fin _ (weak_mk ?_ (fun p hp => by simp only [wkB, hb p hp]; exact wkL_rfl' _) ?_ ?_ ?_ ?_)
            · simp -implicitDefEqProofs [w1]
            · simp -implicitDefEqProofs
            · simp -implicitDefEqProofs [hX1, hM1, GN]
            · intro p hp
              rcases List.mem_append.1 hp with hp | hp
              · exact fun d hd => .inl (GK s' d (gi s' p hp d hd))
              · rw [List.mem_singleton] at hp
                subst hp
                intro d hd
                rw [P2] at hd; simp at hd
            · simp -implicitDefEqProofs [hX1]
        · by_cases c2 : k < l.length
          · have c3 : ¬ (k : Int) < 100 := by omega
            have c2' : (k : Int) < l.length := by omega
            have c3' : ¬ k < 100 := by omega
            simp -implicitDefEqProofs [al, c2, c2', c3, c3']
          · have c2' : ¬ (k : Int) < l.length := by omega
            simp -implicitDefEqProofs [al, c2, c2']
      · exact ⟨Nat.zero_le _, Nat.zero_le _, ok0⟩
      · refine weak_mk ?_ (wkB_self (GP mt0)) ?_ ?_ ?_ ?_
        · simp -implicitDefEqProofs
        · simp -implicitDefEqProofs
        · simp -implicitDefEqProofs [GK mt0 FX (gX mt0), GK mt0 FM (gM mt0), GN]
        · intro p hp
          rcases List.mem_append.1 hp with hp | hp
          · exact fun d hd => .inl (GK mt0 d (gi mt0 p hp d hd))
          · rw [List.mem_singleton] at hp
            subst hp
            intro d hd
            rw [P2] at hd; simp at hd
        · simp -implicitDefEqProofs [GK mt0 FX (gX mt0)]
end Go.Ai
set_option linter.unusedSimpArgs false
set_option linter.unusedVariables false
namespace Go.Ai
open Go.Proofs Go.Lib
set_option maxRecDepth 100000
/-! ### The listed tables of unicode/utf8, as cells -/
def accCells : List Value := (List.range 32).map fun o => Value.int .u8 (if o % 2 = 0 then (accLo (o / 2) : Int) else (accHi (o / 2) : Int))
def firstCells : List Value := firstTab.map fun z => Value.int .u8 z
theorem first_cell {W : World} (h : VarReads Tryz.prog W "unicode/utf8.first" firstData) (o : Nat) (u : Value) (hu : firstCells[o]? = some u) : W.cell? ⟨2, o, none⟩ = some u ∧ u.oneCell' = true := by
  have hg0 : Tryz.prog.globalNamed "unicode/utf8.first" = some 2 := by kernel_rfl
  have ht0 : (Tryz.prog.globals[2]?).map (·.type) = some 263 := by kernel_rfl
  obtain ⟨g, t, cs, fuel, p, hg, hty, hvar, hd⟩ := h
  obtain rfl := Option.some.inj (hg0.symm.trans hg)
  obtain rfl := Option.some.inj (ht0.symm.trans hty)
  have hcs := cells_of_tab (t := 263) (e := 5) (n := 256) (by kernel_rfl) (by kernel_rfl) (by kernel_rfl) (by kernel_rfl) hd
  refine ⟨?_, ?_⟩
  · rw [World.var?_cell hg hvar o, ← Array.getElem?_toList, hcs]
    exact hu
  · obtain ⟨z, _, rfl⟩ := List.mem_map.1 (List.mem_of_getElem? hu)
    rfl
theorem acc_cell {W : World} (h : VarReads Tryz.prog W "unicode/utf8.acceptRanges" acceptData) (o : Nat) (u : Value) (hu : accCells[o]? = some u) : W.cell? ⟨3, o, none⟩ = some u ∧ u.oneCell' = true := by
  have hg0 : Tryz.prog.globalNamed "unicode/utf8.acceptRanges" = some 3 := by kernel_rfl
  have ht0 : (Tryz.prog.globals[3]?).map (·.type) = some 266 := by kernel_rfl
  have hc0 : Tryz.prog.cellsOf 265 = 2 := by kernel_rfl
  obtain ⟨g, t, cs, fuel, p, hg, hty, hvar, hd⟩ := h
  obtain rfl := Option.some.inj (hg0.symm.trans hg)
  obtain rfl := Option.some.inj (ht0.symm.trans hty)
  have ho : o < 32 := by have := (List.getElem?_eq_some_iff.1 hu).1; simpa [accCells] using this
  simp only [accCells, List.getElem?_map, List.getElem?_range ho, Option.map_some, Option.some.injEq] at hu
  subst hu
  refine ⟨?_, by split <;> rfl⟩
  have hi : o / 2 < 16 := by omega
  obtain ⟨fuel', d, q, hdi, he⟩ := array_elem (t := 266) (e := 265) (n := 16) (by kernel_rfl) hd (o / 2) hi
  simp only [List.getElem?_map, List.getElem?_range hi, Option.map_some, Option.some.injEq] at hdi
  subst hdi
  rw [hc0] at he
  obtain ⟨fs, hfs, hsz, hf⟩ : ∃ fs : Array Field, Tryz.prog.underlying 265 = some (.struct fs) ∧ fs.size = 2 ∧ ∀ (i : Nat) (f : Field), fs[i]? = some f → Tryz.prog.underlying f.type = some (.int .u8) ∧ f.offset = i ∧ Tryz.prog.cellsOf f.type = 1 := by
    refine ⟨_, (by kernel_rfl : Tryz.prog.underlying 265 = some (.struct #[Field.mk "lo" 5 0 false "" "unicode/utf8" 0, Field.mk "hi" 5 1 false "" "unicode/utf8" 1])), rfl, fun j f hj => ?_⟩
    match j, hj with
    | 0, hj => simp at hj; subst hj; exact ⟨by kernel_rfl, rfl, by kernel_rfl⟩
    | 1, hj => simp at hj; subst hj; exact ⟨by kernel_rfl, rfl, by kernel_rfl⟩
    | j + 2, hj => simp at hj
  have hcs := ints_of_struct hfs hf (by rw [hc0, hsz]) he
  have e0 := congrArg (·[0]?) hcs
  have e1 := congrArg (·[1]?) hcs
  simp only [List.getElem?_take, List.getElem?_drop] at e0 e1
  rw [World.var?_cell hg hvar o, ← Array.getElem?_toList]
  by_cases hp : o % 2 = 0
  · rw [if_pos hp]
    have eo : o / 2 * 2 + 0 = o := by omega
    rw [eo] at e0
    simpa using e0
  · rw [if_neg hp]
    have eo : o / 2 * 2 + 1 = o := by omega
    rw [eo] at e1
    simpa using e1
end Go.Ai
set_option linter.unusedSimpArgs false
set_option linter.unusedVariables false
namespace Go.Ai
open Go.Proofs Go.Lib
set_option maxRecDepth 100000
theorem gl_is : gl = [(2, firstCells), (3, accCells)] := by kernel_rfl
theorem u8_glo (W : World) (h : laidMet Tryz.prog [("unicode/utf8.acceptRanges", acceptData), ("unicode/utf8.first", firstData)] W) : ∀ i us, List.lookup i gl = some us → ∀ (o : Nat) (u : Value), us[o]? = some u → W.cell? ⟨i, o, none⟩ = some u ∧ u.oneCell' = true := by
  intro i us hi o u hu
  rw [gl_is] at hi
  simp only [List.lookup] at hi
  split at hi
  · rename_i e
    have e := eq_of_beq e
    subst e
    obtain rfl := Option.some.inj hi
    exact first_cell (laidMet.reads h (by simp)) o u hu
  · split at hi
    · rename_i e
      have e := eq_of_beq e
      subst e
      obtain rfl := Option.some.inj hi
      exact acc_cell (laidMet.reads h (by simp)) o u hu
    · cases hi
end Go.Ai
