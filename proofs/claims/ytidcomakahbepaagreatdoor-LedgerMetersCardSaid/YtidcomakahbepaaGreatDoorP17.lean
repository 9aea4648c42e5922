/- P17: a part of the proof: the rules, or what functions compute. Conditions: as each theorem says. -/
import Derived.Test.YtidcomakahbepaaGreatDoorP16
import Derived.Test.YtidcomakahbepaaGreatDoorCode
import Derived.Lib.LaidU8
import GoSem.PinnedTables
set_option linter.unusedSimpArgs false
set_option linter.unusedVariables false
set_option maxRecDepth 20000
namespace Go.Ai
open Go.Proofs
theorem goal_t {x : Gl} (h : goalP x = true) : x.t < 4294967296 := by
 unfold goalP btw at h
 simp only [Bool.and_eq_true, decide_eq_true_eq] at h
 obtain ⟨-, h1, -⟩ := h
 omega
theorem rollO_form (o : Int) (t g c : Nat) (e : Int) : ∃ (b : Bool) (m l : Nat) (e' : Int), (if o = 0 then zSg else rollR t g c e) = .tup [.agg [.bool b, u m, u l], i6 e'] := by
 split
 ·exact ⟨false, 0, 0, _, rfl⟩
 ·exact rollR_form t g c e
theorem ledgerMeters_spec (x : Gl) (l : List Ac) (hal : ∀ a ∈ l, a.t < 18446744073709551616) (y : Gl) (hyt : y.t < 4294967296) : Sp Tryz.prog gl 10 [.agg x.row, .sl (acRows l), .agg y.row] (.bool true) := by
 refine s10 rfl rfl ?_
 have AW := awake23_spec
 have H := heavyG_spec x
 have H2 := heavyG_spec y
 have P1 : x.row.length = 8 := rfl
 have P2 : idsL x.row = [] := rfl
 have P3 : shutL x.row = some x.row := rfl
 have O1 : y.row.length = 8 := rfl
 have O2 : idsL y.row = [] := rfl
 have O3 : shutL y.row = some y.row := rfl
 cases hh : heavyG x with
 | true =>
  rw [hh] at H
  generalize x.row = P at *
  generalize y.row = P' at *
  have e8 : List.take 8 P = P := List.take_of_length_le (by omega)
  simp -implicitDefEqProofs [c10]
  refine onC_mk _ (AW) ?_
  simp -implicitDefEqProofs [P1, e8, P3]
  refine onC_mk _ (H) ?_
  simp -implicitDefEqProofs
 | false =>
  rw [hh] at H
  have hf := heavyG_fit hh
  have hl := hf.ru
  have Q := qgoal_spec x hf
  cases hx : goalP x with
  | false =>
   rw [hx] at Q
   generalize x.row = P at *
   generalize y.row = P' at *
   have e8 : List.take 8 P = P := List.take_of_length_le (by omega)
   simp -implicitDefEqProofs [c10]
   refine onC_mk _ (AW) ?_
   simp -implicitDefEqProofs [P1, e8, P3]
   refine onC_mk _ (H) ?_
   simp -implicitDefEqProofs [P1, e8, P3]
   refine onC_mk _ (Q) ?_
   simp -implicitDefEqProofs [P1, e8, P3]
  | true =>
   rw [hx] at Q
   cases hy : heavyG y with
   | true =>
    rw [hy] at H2
    generalize x.row = P at *
    generalize y.row = P' at *
    have e8 : List.take 8 P = P := List.take_of_length_le (by omega)
    have f8 : List.take 8 P' = P' := List.take_of_length_le (by omega)
    simp -implicitDefEqProofs [c10]
    refine onC_mk _ (AW) ?_
    simp -implicitDefEqProofs [P1, e8, P3, f8, O1, O3]
    refine onC_mk _ (H) ?_
    simp -implicitDefEqProofs [P1, e8, P3, f8, O1, O3]
    refine onC_mk _ (Q) ?_
    simp -implicitDefEqProofs [P1, e8, P3, f8, O1, O3]
    refine onC_mk _ (H2) ?_
    simp -implicitDefEqProofs
   | false =>
    rw [hy] at H2
    have NM := nmL 39 44
    have hk := goal_k hx hl
    have hn := goal_n hl
    obtain ⟨G, hG⟩ : ∃ G : Mt → List (Id × List AV), G = fun s => mxB (lM 39) (lA 39) (lR 39) (lB 39) (.n 44) x (winP x).length (winP x) (kN x) (wN x) s := ⟨_, rfl⟩
    obtain ⟨mt, hmt⟩ : ∃ r : Mt → List (Id × List AV), r = fun s => mtB (lM 39) (lA 39) (lR 39) (lB 39) x (winP x).length (intRows (winP x)) (kN x) (wN x) s.t s.L s.sd := ⟨_, rfl⟩
    have hGm : ∀ s, G s = (.n 44, xC x s.t s.sd s.L) :: mt s := fun s => by rw [hG, hmt]; rfl
    have gu : ∀ s, ∀ p ∈ G s, lkB (G s) p.1 = some p.2 := fun s => by rw [hG]; exact mx_uniq NM x _ _ _ _ s
    have gk : ∀ s s' j, (lkB (G s') j).isSome = (lkB (G s) j).isSome := fun s s' j => by rw [hG]; exact mx_keys x x _ _ _ _ s s' j
    have gX : ∀ s, (lkB (G s) (.n 44)).isSome = true := fun s => by rw [hG]; exact mx_x ..
    have gM : ∀ s, (lkB (G s) (lM 39)).isSome = true := fun s => by rw [hG]; exact lkB_isSome (p := (lM 39, _)) (List.mem_cons_of_mem _ (List.mem_cons_self ..))
    have gi : ∀ s, ∀ p ∈ G s, ∀ i ∈ idsL p.2, (lkB (G s) i).isSome = true := fun s => by rw [hG]; exact mx_ids NM x _ _ _ _ s
    have gw : ∀ s (a : Id) (b : List AV), (a, b) ∈ G s → a.isIt = false ∧ ∀ t, t ≠ 39 → a.isNw t = false := fun s => by rw [hG]; exact lx_nw 39 44 x _ _ _ _ s
    have gn : ∀ s j, j ≠ 44 → lkB (G s) (.n j) = none := fun s j hj => by rw [hG]; exact lx_n 39 44 x _ _ _ _ s j hj
    have mn : ∀ s j, lkB (mt s) (.n j) = none := fun s j => by rw [hmt]; exact lm_n 39 x _ _ _ _ s j
    have mu : ∀ s, ∀ p ∈ mt s, lkB (mt s) p.1 = some p.2 := fun s => by rw [hmt]; exact mt_uq NM.h x _ _ _ _ _ _ _
    have mw : ∀ s (a : Id) (b : List AV), (a, b) ∈ mt s → a.isIt = false ∧ ∀ t, a.isNw t = (39 == t) := fun s => by rw [hmt]; exact lm_nw 39 x _ _ _ _ s
    have mM : ∀ t, (lM 39).isNw t = (39 == t) := fun t => by simp [lM, Id.isNw, Id.isUp]
    have iM : (lM 39).isIt = false := rfl
    have nM : ∀ j, ¬ lM 39 = .n j := fun j => by simp [lM]
    have nM' : ∀ j, ¬ Id.n j = lM 39 := fun j => by simp [lM]
    have nmpa := NM.h.pa
    have hw := goal_wd hx hl
    have hxt := goal_t hx
    have N1 : SpH Tryz.prog gl 35 39 ⟨[.agg x.row], [], []⟩ ⟨.tup [.ptr (lM 39) 0, i6 0], mt mt0, []⟩ := by
     rw [hmt]; exact mnew_spec x hf hl hx (winP x).length hn (goal_n1 hx) rfl (gN x) hw.gg (wdN x) hw.wd 39
    have DO : ∀ s k, k ≤ 1000000 → MtOk x (winP x).length (kN x) (wN x) s k → ∀ a : Ac, a.t < 18446744073709551616 → ∀ e, (lM 39).isNw e = false → SpH Tryz.prog gl 17 e ⟨[.ptr (lM 39) 0, .ptr (.n 44) 0, .agg a.row], G s, [(.b (.n 44) 10, 3)]⟩ ⟨.bool true, G (stS x (winP x).length (kN x) (wN x) s a), [(.b (.n 44) 10, 3)]⟩ := fun s k h1 h2 a ha e he => by
     rw [hG]; exact does_spec _ _ _ _ _ NM x hx hl s k h1 h2 a ha e he
    have R4 : ∀ s k, k ≤ 1000000 → MtOk x (winP x).length (kN x) (wN x) s k → ∀ z : Gl, z.t < 4294967296 → ∃ (b : Bool) (m l : Nat) (e : Int) (b' : Bool) (m' l' : Nat) (e' : Int), ∀ q, (lM 39).isNw q = false →
      SpH Tryz.prog gl 45 q ⟨[.ptr (lM 39) 0, .agg z.row], G s, [(.b (.n 44) 10, 3)]⟩ ⟨.tup [.agg [.bool b, u m, u l], i6 e], G s, [(.b (.n 44) 10, 3)]⟩ ∧
      SpH Tryz.prog gl 46 q ⟨[.ptr (.n 44) 0, .agg z.row], G s, [(.b (.n 44) 10, 3)]⟩ ⟨.tup [.agg [.bool b, u m, u l], i6 e], G s, [(.b (.n 44) 10, 3)]⟩ ∧
      SpH Tryz.prog gl 47 q ⟨[.ptr (lM 39) 0, .agg z.row], G s, [(.b (.n 44) 10, 3)]⟩ ⟨.tup [.agg [.bool b', u m', u l'], i6 e'], G s, [(.b (.n 44) 10, 3)]⟩ ∧
      SpH Tryz.prog gl 48 q ⟨[.ptr (.n 44) 0, .agg z.row], G s, [(.b (.n 44) 10, 3)]⟩ ⟨.tup [.agg [.bool b', u m', u l'], i6 e'], G s, [(.b (.n 44) 10, 3)]⟩ := by
     intro s k hk1 hs z hz
     obtain ⟨g, c, e, hV, hc⟩ := wndV_form2 hs z.o
     obtain ⟨g', c', e', hC, hc'⟩ := calV_form2 hs
     obtain ⟨b, m, l, e1, h1⟩ := rollO_form z.o z.t g c e
     obtain ⟨b', m', l', e2, h2⟩ := rollR_form z.t g' c' e'
     refine ⟨b, m, l, e1, b', m', l', e2, fun q hq => ?_⟩
     have r1 := mroll_spec _ _ _ _ _ NM x hx hl s k hs z hz g c e hV hc q hq
     have r2 := xroll_spec _ _ _ _ _ NM x hx hl s k hk1 hs z hz g c e hV hc q hq
     have r3 := mcalL_spec _ _ _ _ _ NM x hx hl s k hk1 hs z hz g' c' e' hC hc' q hq
     have r4 := xcalL_spec _ _ _ _ _ NM x hx hl s k hk1 hs z hz g' c' e' hC hc' q hq
     rw [h1] at r1 r2
     rw [h2] at r3 r4
     rw [hG]
     exact ⟨r1, r2, r3, r4⟩
    have LN := fun d => Sp.h (d := d) (lroll_nil y)
    have CN := fun d => Sp.h (d := d) (lcal_nil y)
    have hok := fun s k (h : MtOk x (winP x).length (kN x) (wN x) s k) a => stS_ok h a
    have ok0 := mt0_ok x (winP x).length (kN x) (wN x)
    have al := acRows_len l
    have a4 := acRows_4 l
    have aat := acRows_at l
    generalize acRows l = RW at *
    generalize hstS : stS x (winP x).length (kN x) (wN x) = ST at *
    clear hG hstS NM hmt
    generalize lM 39 = FM at *
    simp only [xC] at hGm
    have hxr : x.row = [.str x.n, .int .u32 x.t, i6 x.g, i6 x.a, i6 x.o, i6 x.c, .sl (x.lb.map Lb.row), .sl (x.ru.map Ru.row)] := rfl
    have ZR : ∀ i, i < 2 → ∃ z : Gl, ([x.row, y.row] : List (List AV))[i]? = some z.row ∧ z.t < 4294967296 := fun i hi => by
     rcases (show i = 0 ∨ i = 1 by omega) with rfl | rfl
     ·exact ⟨x, rfl, hxt⟩
     ·exact ⟨y, rfl, hyt⟩
    generalize hP : x.row = P at *
    generalize hP' : y.row = P' at *
    have e8 : List.take 8 P = P := List.take_of_length_le (by omega)
    have f8 : List.take 8 P' = P' := List.take_of_length_le (by omega)
    simp -implicitDefEqProofs [c10]
    refine onC_mk _ (AW) ?_
    simp -implicitDefEqProofs [P1, e8, P3, f8, O1, O3]
    refine onC_mk _ (H) ?_
    simp -implicitDefEqProofs [P1, e8, P3, f8, O1, O3]
    refine onC_mk _ (Q) ?_
    simp -implicitDefEqProofs [P1, e8, P3, f8, O1, O3]
    refine onC_mk _ (H2) ?_
    simp -implicitDefEqProofs [P1, e8, P3, f8, O1, O3]
    refine onH_mk _ _ N1 ⟨?_, ?_, ?_, ?_, ?_, ?_, ?_⟩ ?_
    iterate 5 (· simp [mn, P1, e8, P3])
    ·simp
     intro a b hm
     obtain ⟨h1, h2⟩ := mw _ a b hm
     exact ⟨by rw [h2]; rfl, h1⟩
    ·simp
    simp -implicitDefEqProofs [mn, lkB_app, P1, e8, P3]
    have GP : ∀ s, ∀ p ∈ G s ++ [(Id.n 5, P'), (Id.n 3, P)], lkB (G s ++ [(Id.n 5, P'), (Id.n 3, P)]) p.1 = some p.2 := fun s p hp => by
     rcases List.mem_append.1 hp with hp | hp
     ·rw [lkB_app, gu s p hp]
     ·rcases List.mem_cons.1 hp with rfl | hp
      ·rw [lkB_app, gn _ _ (by omega)]; simp [lkB]
      ·rw [List.mem_singleton] at hp
       subst hp
       rw [lkB_app, gn _ _ (by omega)]; simp [lkB]
    have GK : ∀ s d, (lkB (G s) d).isSome = true → (lkB (G s ++ [(Id.n 5, P'), (Id.n 3, P)]) d).isSome = true := fun s d h => by
     rw [lkB_app]
     obtain ⟨c, hc⟩ := Option.isSome_iff_exists.1 h
     rw [hc]; rfl
    have GN5 : ∀ s, (lkB (G s ++ [(Id.n 5, P'), (Id.n 3, P)]) (.n 5)).isSome = true := fun s => by rw [lkB_app, gn _ _ (by omega)]; simp [lkB]
    have GN3 : ∀ s, (lkB (G s ++ [(Id.n 5, P'), (Id.n 3, P)]) (.n 3)).isSome = true := fun s => by rw [lkB_app, gn _ _ (by omega)]; simp [lkB]
    have g5 := fun s => gn s 5 (by omega)
    have g3 := fun s => gn s 3 (by omega)
    have g13 := fun s => gn s 13 (by omega)
    have g15 := fun s => gn s 15 (by omega)
    have g17 := fun s => gn s 17 (by omega)
    have g19 := fun s => gn s 19 (by omega)
    have GW : ∀ s q, q ≠ 39 → ∀ p ∈ G s ++ [(Id.n 5, P'), (Id.n 3, P)], p.1.isNw q = false := fun s q hq p hp => by
     rcases List.mem_append.1 hp with hp | hp
     ·obtain ⟨a, b⟩ := p
      exact (gw s a b hp).2 q hq
     ·rcases List.mem_cons.1 hp with rfl | hp
      ·rfl
      ·rw [List.mem_singleton] at hp
       subst hp; rfl
    have GW1 : ∀ s c q, q ≠ 39 → ∀ p ∈ (Id.n 13, c) :: (G s ++ [(Id.n 5, P'), (Id.n 3, P)]), p.1.isNw q = false := fun s c q hq p hp => by
     rcases List.mem_cons.1 hp with rfl | hp
     ·rfl
     ·exact GW s q hq p hp
    have GW4 : ∀ s c q, q ≠ 39 → ∀ p ∈ (Id.n 21, c) :: (G s ++ [(Id.n 5, P'), (Id.n 3, P)]), p.1.isNw q = false := fun s c q hq p hp => by
     rcases List.mem_cons.1 hp with rfl | hp
     ·rfl
     ·exact GW s q hq p hp
    have GW2 : ∀ s c c' q, q ≠ 39 → ∀ p ∈ (Id.n 15, c) :: (G s ++ [(Id.n 13, c'), (Id.n 5, P'), (Id.n 3, P)]), p.1.isNw q = false := fun s c c' q hq p hp => by
     rcases List.mem_cons.1 hp with rfl | hp
     ·rfl
     ·rcases List.mem_append.1 hp with hp | hp
      ·exact GW s q hq p (List.mem_append_left _ hp)
      ·rcases List.mem_cons.1 hp with rfl | hp
       ·rfl
       ·exact GW s q hq p (List.mem_append_right _ hp)
    have GW3 : ∀ s c c' c'' q, q ≠ 39 → ∀ p ∈ (Id.n 17, c) :: (G s ++ [(Id.n 15, c''), (Id.n 13, c'), (Id.n 5, P'), (Id.n 3, P)]), p.1.isNw q = false := fun s c c' c'' q hq p hp => by
     rcases List.mem_cons.1 hp with rfl | hp
     ·rfl
     ·rcases List.mem_append.1 hp with hp | hp
      ·exact GW s q hq p (List.mem_append_left _ hp)
      ·rcases List.mem_cons.1 hp with rfl | hp
       ·rfl
       ·rcases List.mem_cons.1 hp with rfl | hp
        ·rfl
        ·exact GW s q hq p (List.mem_append_right _ hp)
    have g21 := fun s => gn s 21 (by omega)
    have g22 := fun s => gn s 22 (by omega)
    have GB : ∀ s, ∀ p ∈ G s ++ [(Id.n 5, P'), (Id.n 3, P)], ∀ d ∈ idsL p.2, (lkB (G s ++ [(Id.n 5, P'), (Id.n 3, P)]) d).isSome = true ∨ d.isUp = true := fun s p hp => by
     rcases List.mem_append.1 hp with hp | hp
     ·exact fun d hd => .inl (GK s d (gi s p hp d hd))
     ·rcases List.mem_cons.1 hp with rfl | hp
      ·intro d hd
       rw [O2] at hd; simp at hd
      ·rw [List.mem_singleton] at hp
       subst hp
       intro d hd
       rw [P2] at hd; simp at hd
    refine wp_lpk (α := Nat × Mt) (fun p => ⟨[(1, .sl RW), (3, .ptr (.n 3) 0), (5, .ptr (.n 5) 0), (7, .ptr FM 0), (9, .ptr (.n 44) 0), (10, i6 p.1)], G p.2 ++ [(.n 5, P'), (.n 3, P)], [(.b (.n 44) 10, 3)]⟩)
     (fun p => p.1 ≤ l.length ∧ p.1 ≤ 100 ∧ MtOk x (winP x).length (kN x) (wN x) p.2 p.1) (fun p => l.length - p.1) ?_ (0, mt0) ?_ ?_
    ·rintro K ⟨k, s⟩ hK ⟨k1, k2, k3⟩
     by_cases c : k < l.length ∧ k < 100
     ·obtain ⟨c1, c2⟩ := c
      have c1' : (k : Int) < l.length := by omega
      have c2' : (k : Int) < 100 := by omega
      have w1 : IntKind.i64.wrap ((k : Int) + 1) = (k + 1 : Nat) := by rw [wr] <;> omega
      have kl : k < RW.length := by omega
      have ew0 := aat k c1
      have ew : RW[k]'kl = l[k].row := by rw [List.getElem?_eq_getElem kl] at ew0; exact Option.some.inj ew0
      have r4 := a4 _ (List.getElem_mem kl)
      have D1 := DO s k (by omega) k3 l[k] (hal _ (List.getElem_mem c1))
      have fin := fun σ' (hσ : Weak σ' _) => hK (k + 1, ST s l[k]) σ' ⟨by simp only; omega, by simp only; omega, hok s k k3 l[k]⟩ (by simp only; omega) hσ
      rw [ew] at r4
      clear hK DO hok aat N1 R4 ZR
      generalize ST s l[k] = s' at *
      generalize l[k].row = r at *
      have e4 : List.take 4 r = r := List.take_of_length_le (by omega)
      simp -implicitDefEqProofs [al, c1, c1', c2', c2, kl, ew, ew0, a4, r4, e4]
      refine onH_xs (pre := []) (suf := [(.n 5, P'), (.n 3, P)]) (q := []) (D1 _ (by rw [mM]; rfl)) rfl rfl (gX _) ?_ ?_ (gu _) (gk _ _) (GW s _ (by omega)) ?_ ?_ ?_
      ·simp
      ·simp [g5, g3]
      ·simp
      ·simp
      simp -implicitDefEqProofs [w1]
      refine fin _ (weak_mk ?_ (wkB_self (GP s')) ?_ ?_ (GB s') ?_)
      ·simp [w1]
      ·simp
      ·simp [GK s' _ (gX s'), GK s' FM (gM s'), GN3, GN5]
      ·simp [GK s' _ (gX s')]
     ·have R4s := R4 s k (by omega) k3
      clear hK DO hok aat N1 R4
      by_cases c2 : k < l.length
      ·have c3 : ¬ (k : Int) < 100 := by omega
       have c2' : (k : Int) < l.length := by omega
       have c3' : ¬ k < 100 := by omega
       simp -implicitDefEqProofs [al, c2, c2', c3, c3', lkB_app, g3, g5, f8, e8, O1, O3, P1, P3]
       refine wp_lpk (α := Nat) (fun i => ⟨[(5, .ptr (.n 5) 0), (7, .ptr FM 0), (9, .ptr (.n 44) 0), (11, .sl [P, P']), (12, i6 i)], G s ++ [(.n 5, P'), (.n 3, P)], [(.b (.n 44) 10, 3)]⟩) (fun i => i ≤ 2) (fun i => 2 - i) ?_ 0 ?_ ?_
       ·intro K i hK i1
        by_cases c : i < 2
        ·have c' : (i : Int) < 2 := by omega
         have w1 : IntKind.i64.wrap ((i : Int) + 1) = (i + 1 : Nat) := by rw [wr] <;> omega
         obtain ⟨z, ez0, hz⟩ := ZR i c
         obtain ⟨b, m, v, e, b', m', v', e', SP⟩ := R4s z hz
         have il : i < ([P, P'] : List (List AV)).length := c
         have ez : ([P, P'] : List (List AV))[i]'il = z.row := by rw [List.getElem?_eq_getElem il] at ez0; exact Option.some.inj ez0
         have zl : (z.row).length = 8 := rfl
         have fin := fun σ' hσ => hK (i + 1) σ' (by omega) (by omega) hσ
         have PL : ∀ r ∈ ([P, P'] : List (List AV)), r.length = 8 := by
          intro r hr
          rcases List.mem_cons.1 hr with rfl | hr
          ·exact P1
          ·rw [List.mem_singleton] at hr; subst hr; exact O1
         have pl2 : ([P, P'] : List (List AV)).length = 2 := rfl
         clear hK R4s ZR
         generalize z.row = r at *
         generalize [P, P'] = PP at *
         have z8 : List.take 8 r = r := List.take_of_length_le (by omega)
         simp -implicitDefEqProofs [c, c', il, ez, ez0, PL, pl2, zl, z8]
         refine onH_xs (pre := []) (suf := [(.n 5, P'), (.n 3, P)]) (q := []) (SP _ (by rw [mM]; rfl)).1 rfl rfl (gX _) ?_ ?_ (gu _) (fun _ => rfl) (GW s _ (by omega)) ?_ ?_ ?_
         ·simp
         ·simp [g5, g3]
         ·simp
         ·simp
         simp -implicitDefEqProofs [g13, g15, g17, g19, lkB_app, c, c', il, ez, ez0, PL, pl2, zl, z8]
         refine onH_xs (pre := [(.n 13, _)]) (suf := [(.n 5, P'), (.n 3, P)]) (q := []) (SP _ (by rw [mM]; rfl)).2.1 rfl rfl (gX _) ?_ ?_ (gu _) (fun _ => rfl) ?_ ?_ ?_ ?_
         ·simp [g13]
         ·simp [g5, g3]
         ·exact GW1 _ _ _ (by omega)
         ·simp
         ·simp
         simp -implicitDefEqProofs [g13, g15, g17, g19, lkB_app, c, c', il, ez, ez0, PL, pl2, zl, z8]
         refine onH_xs (pre := [(.n 15, _)]) (suf := [(.n 13, _), (.n 5, P'), (.n 3, P)]) (q := []) (SP _ (by rw [mM]; rfl)).2.2.1 rfl rfl (gX _) ?_ ?_ (gu _) (fun _ => rfl) ?_ ?_ ?_ ?_
         ·simp [g15]
         ·simp [g5, g3, g13]
         ·exact GW2 _ _ _ _ (by omega)
         ·simp
         ·simp
         simp -implicitDefEqProofs [g13, g15, g17, g19, lkB_app, c, c', il, ez, ez0, PL, pl2, zl, z8]
         refine onH_xs (pre := [(.n 17, _)]) (suf := [(.n 15, _), (.n 13, _), (.n 5, P'), (.n 3, P)]) (q := []) (SP _ (by rw [mM]; rfl)).2.2.2 rfl rfl (gX _) ?_ ?_ (gu _) (fun _ => rfl) ?_ ?_ ?_ ?_
         ·simp [g17]
         ·simp [g5, g3, g13, g15]
         ·exact GW3 _ _ _ _ _ (by omega)
         ·simp
         ·simp
         simp -implicitDefEqProofs [g13, g15, g17, g19, lkB_app, w1]
         refine fin _ (weak_mk ?_ ?_ ?_ ?_ (GB s) ?_)
         ·simp [w1]
         ·intro p hp
          rcases List.mem_append.1 hp with hp | hp
          ·have q := gu s p hp
           have e1 := ne_none hp (g19 s)
           simp only [wkB, lkB, lkB_app, if_neg e1, q]
           exact wkL_rfl' _
          ·rcases List.mem_cons.1 hp with rfl | hp
           ·simp [lkB_app, g5]
           ·rw [List.mem_singleton] at hp
            subst hp
            simp -implicitDefEqProofs [lkB_app, g3]
         ·simp
         ·simp [GK s _ (gX s), GK s FM (gM s), GN3, GN5]
         ·simp [GK s _ (gX s)]
        ·obtain rfl : i = 2 := by omega
         clear hK R4s ZR
         simp -implicitDefEqProofs [lkB_app, g5, f8, O1, O3]
         refine onH_mk _ _ (LN _) ⟨?_, ?_, ?_, ?_, ?_, ?_, ?_⟩ ?_
         iterate 6 (· simp [lkB_app])
         ·simp; exact fun a b hm => GW s _ (by omega) (a, b) (by simpa using hm)
         simp -implicitDefEqProofs [lkB_app, g21, g22, g5, f8, O1, O3]
         refine onH_mk _ _ (CN _) ⟨?_, ?_, ?_, ?_, ?_, ?_, ?_⟩ ?_
         iterate 6 (· simp [lkB_app])
         ·simp; exact fun a b hm => GW s _ (by omega) (a, b) (by simpa using hm)
         simp -implicitDefEqProofs [lkB_app, g21, g22]
       ·exact Nat.zero_le _
       ·refine weak_mk ?_ (wkB_self (GP s)) ?_ ?_ (GB s) ?_
        ·simp
        ·simp
        ·simp [GK s _ (gX s), GK s FM (gM s), GN3, GN5]
        ·simp [GK s _ (gX s)]
      ·have c2' : ¬ (k : Int) < l.length := by omega
       simp -implicitDefEqProofs [al, c2, c2', lkB_app, g3, g5, f8, e8, O1, O3, P1, P3]
       refine wp_lpk (α := Nat) (fun i => ⟨[(5, .ptr (.n 5) 0), (7, .ptr FM 0), (9, .ptr (.n 44) 0), (11, .sl [P, P']), (12, i6 i)], G s ++ [(.n 5, P'), (.n 3, P)], [(.b (.n 44) 10, 3)]⟩) (fun i => i ≤ 2) (fun i => 2 - i) ?_ 0 ?_ ?_
       ·intro K i hK i1
        by_cases c : i < 2
        ·have c' : (i : Int) < 2 := by omega
         have w1 : IntKind.i64.wrap ((i : Int) + 1) = (i + 1 : Nat) := by rw [wr] <;> omega
         obtain ⟨z, ez0, hz⟩ := ZR i c
         obtain ⟨b, m, v, e, b', m', v', e', SP⟩ := R4s z hz
         have il : i < ([P, P'] : List (List AV)).length := c
         have ez : ([P, P'] : List (List AV))[i]'il = z.row := by rw [List.getElem?_eq_getElem il] at ez0; exact Option.some.inj ez0
         have zl : (z.row).length = 8 := rfl
         have fin := fun σ' hσ => hK (i + 1) σ' (by omega) (by omega) hσ
         have PL : ∀ r ∈ ([P, P'] : List (List AV)), r.length = 8 := by
          intro r hr
          rcases List.mem_cons.1 hr with rfl | hr
          ·exact P1
          ·rw [List.mem_singleton] at hr; subst hr; exact O1
         have pl2 : ([P, P'] : List (List AV)).length = 2 := rfl
         clear hK R4s ZR
         generalize z.row = r at *
         generalize [P, P'] = PP at *
         have z8 : List.take 8 r = r := List.take_of_length_le (by omega)
         simp -implicitDefEqProofs [c, c', il, ez, ez0, PL, pl2, zl, z8]
         refine onH_xs (pre := []) (suf := [(.n 5, P'), (.n 3, P)]) (q := []) (SP _ (by rw [mM]; rfl)).1 rfl rfl (gX _) ?_ ?_ (gu _) (fun _ => rfl) (GW s _ (by omega)) ?_ ?_ ?_
         ·simp
         ·simp [g5, g3]
         ·simp
         ·simp
         simp -implicitDefEqProofs [g13, g15, g17, g19, lkB_app, c, c', il, ez, ez0, PL, pl2, zl, z8]
         refine onH_xs (pre := [(.n 13, _)]) (suf := [(.n 5, P'), (.n 3, P)]) (q := []) (SP _ (by rw [mM]; rfl)).2.1 rfl rfl (gX _) ?_ ?_ (gu _) (fun _ => rfl) ?_ ?_ ?_ ?_
         ·simp [g13]
         ·simp [g5, g3]
         ·exact GW1 _ _ _ (by omega)
         ·simp
         ·simp
         simp -implicitDefEqProofs [g13, g15, g17, g19, lkB_app, c, c', il, ez, ez0, PL, pl2, zl, z8]
         refine onH_xs (pre := [(.n 15, _)]) (suf := [(.n 13, _), (.n 5, P'), (.n 3, P)]) (q := []) (SP _ (by rw [mM]; rfl)).2.2.1 rfl rfl (gX _) ?_ ?_ (gu _) (fun _ => rfl) ?_ ?_ ?_ ?_
         ·simp [g15]
         ·simp [g5, g3, g13]
         ·exact GW2 _ _ _ _ (by omega)
         ·simp
         ·simp
         simp -implicitDefEqProofs [g13, g15, g17, g19, lkB_app, c, c', il, ez, ez0, PL, pl2, zl, z8]
         refine onH_xs (pre := [(.n 17, _)]) (suf := [(.n 15, _), (.n 13, _), (.n 5, P'), (.n 3, P)]) (q := []) (SP _ (by rw [mM]; rfl)).2.2.2 rfl rfl (gX _) ?_ ?_ (gu _) (fun _ => rfl) ?_ ?_ ?_ ?_
         ·simp [g17]
         ·simp [g5, g3, g13, g15]
         ·exact GW3 _ _ _ _ _ (by omega)
         ·simp
         ·simp
         simp -implicitDefEqProofs [g13, g15, g17, g19, lkB_app, w1]
         refine fin _ (weak_mk ?_ ?_ ?_ ?_ (GB s) ?_)
         ·simp [w1]
         ·intro p hp
          rcases List.mem_append.1 hp with hp | hp
          ·have q := gu s p hp
           have e1 := ne_none hp (g19 s)
           simp only [wkB, lkB, lkB_app, if_neg e1, q]
           exact wkL_rfl' _
          ·rcases List.mem_cons.1 hp with rfl | hp
           ·simp [lkB_app, g5]
           ·rw [List.mem_singleton] at hp
            subst hp
            simp -implicitDefEqProofs [lkB_app, g3]
         ·simp
         ·simp [GK s _ (gX s), GK s FM (gM s), GN3, GN5]
         ·simp [GK s _ (gX s)]
        ·obtain rfl : i = 2 := by omega
         clear hK R4s ZR
         simp -implicitDefEqProofs [lkB_app, g5, f8, O1, O3]
         refine onH_mk _ _ (LN _) ⟨?_, ?_, ?_, ?_, ?_, ?_, ?_⟩ ?_
         iterate 6 (· simp [lkB_app])
         ·simp; exact fun a b hm => GW s _ (by omega) (a, b) (by simpa using hm)
         simp -implicitDefEqProofs [lkB_app, g21, g22, g5, f8, O1, O3]
         refine onH_mk _ _ (CN _) ⟨?_, ?_, ?_, ?_, ?_, ?_, ?_⟩ ?_
         iterate 6 (· simp [lkB_app])
         ·simp; exact fun a b hm => GW s _ (by omega) (a, b) (by simpa using hm)
         simp -implicitDefEqProofs [lkB_app, g21, g22]
       ·exact Nat.zero_le _
       ·refine weak_mk ?_ (wkB_self (GP s)) ?_ ?_ (GB s) ?_
        ·simp
        ·simp
        ·simp [GK s _ (gX s), GK s FM (gM s), GN3, GN5]
        ·simp [GK s _ (gX s)]
    ·exact ⟨Nat.zero_le _, Nat.zero_le _, ok0⟩
    ·refine weak_mk ?_ ?_ ?_ ?_ (GB mt0) ?_
     ·simp
     ·intro p hp
      rcases List.mem_append.1 hp with hp | hp
      ·rw [hGm] at hp
       rcases List.mem_cons.1 hp with rfl | hp
       ·simp [← hP, hxr]
        exact ⟨.inl rfl, .inl rfl, .inl rfl, .inl rfl, .inl rfl, .inl rfl, .inl rfl, .inl rfl, .inl rfl, .inl rfl, .inr ⟨rfl, rfl⟩, trivial⟩
       ·have e1 := ne_none hp (mn mt0 44)
        have q := lkB_app (mt mt0) [(Id.n 5, P'), (Id.n 3, P)] p.1
        rw [mu mt0 p hp] at q
        simp only [wkB, lkB, if_neg e1, q]
        exact wkL_rfl' _
      ·rcases List.mem_cons.1 hp with rfl | hp
       ·simp [mn, lkB_app]
       ·rw [List.mem_singleton] at hp
        subst hp
        simp -implicitDefEqProofs [mn, lkB_app]
     ·simp
      rw [← hP]; rfl
     ·simp [GK mt0 _ (gX mt0), GK mt0 FM (gM mt0), GN3, GN5]
     ·simp [GK mt0 _ (gX mt0)]
end Go.Ai
namespace Go.Ai
open Go.Proofs Go.Lib
set_option maxRecDepth 100000
def accCells : List Value := (List.range 32).map fun o => Value.int .u8 (if o % 2 = 0 then (accLo (o / 2) : Int) else (accHi (o / 2) : Int))
def firstCells : List Value := firstTab.map fun z => Value.int .u8 z
theorem first_cell {W : World} (h : VarReads Tryz.prog W "unicode/utf8.first" firstData) (o : Nat) (u : Value) (hu : firstCells[o]? = some u) : W.cell? ⟨2, o, none⟩ = some u ∧ u.oneCell' = true := by
 have hg0 : Tryz.prog.globalNamed "unicode/utf8.first" = some 2 := by kernel_rfl
 have ht0 : (Tryz.prog.globals[2]?).map (·.type) = some 263 := by kernel_rfl
 obtain ⟨g, t, cs, fuel, p, hg, hty, hvar, hd⟩ := h
 obtain rfl := Option.some.inj (hg0.symm.trans hg)
 obtain rfl := Option.some.inj (ht0.symm.trans hty)
 have hcs := cells_of_tab (t := 263) (e := 5) (n := 256) (by kernel_rfl) (by kernel_rfl) (by kernel_rfl) (by kernel_rfl) hd
 refine ⟨?_, ?_⟩
 ·rw [World.var?_cell hg hvar o, ← Array.getElem?_toList, hcs]
  exact hu
 ·obtain ⟨z, _, rfl⟩ := List.mem_map.1 (List.mem_of_getElem? hu)
  rfl
theorem acc_cell {W : World} (h : VarReads Tryz.prog W "unicode/utf8.acceptRanges" acceptData) (o : Nat) (u : Value) (hu : accCells[o]? = some u) : W.cell? ⟨3, o, none⟩ = some u ∧ u.oneCell' = true := by
 have hg0 : Tryz.prog.globalNamed "unicode/utf8.acceptRanges" = some 3 := by kernel_rfl
 have ht0 : (Tryz.prog.globals[3]?).map (·.type) = some 266 := by kernel_rfl
 have hc0 : Tryz.prog.cellsOf 265 = 2 := by kernel_rfl
 obtain ⟨g, t, cs, fuel, p, hg, hty, hvar, hd⟩ := h
 obtain rfl := Option.some.inj (hg0.symm.trans hg)
 obtain rfl := Option.some.inj (ht0.symm.trans hty)
 have ho : o < 32 := by have := (List.getElem?_eq_some_iff.1 hu).1; simpa [accCells] using this
 simp only [accCells, List.getElem?_map, List.getElem?_range ho, Option.map_some, Option.some.injEq] at hu
 subst hu
 refine ⟨?_, by split <;> rfl⟩
 have hi : o / 2 < 16 := by omega
 obtain ⟨fuel', d, q, hdi, he⟩ := array_elem (t := 266) (e := 265) (n := 16) (by kernel_rfl) hd (o / 2) hi
 simp only [List.getElem?_map, List.getElem?_range hi, Option.map_some, Option.some.injEq] at hdi
 subst hdi
 rw [hc0] at he
 obtain ⟨fs, hfs, hsz, hf⟩ : ∃ fs : Array Field, Tryz.prog.underlying 265 = some (.struct fs) ∧ fs.size = 2 ∧ ∀ (i : Nat) (f : Field), fs[i]? = some f → Tryz.prog.underlying f.type = some (.int .u8) ∧ f.offset = i ∧ Tryz.prog.cellsOf f.type = 1 := by
  refine ⟨_, (by kernel_rfl : Tryz.prog.underlying 265 = some (.struct #[Field.mk "lo" 5 0 false "" "unicode/utf8" 0, Field.mk "hi" 5 1 false "" "unicode/utf8" 1])), rfl, fun j f hj => ?_⟩
  match j, hj with
  | 0, hj => simp at hj; subst hj; exact ⟨by kernel_rfl, rfl, by kernel_rfl⟩
  | 1, hj => simp at hj; subst hj; exact ⟨by kernel_rfl, rfl, by kernel_rfl⟩
  | j + 2, hj => simp at hj
 have hcs := ints_of_struct hfs hf (by rw [hc0, hsz]) he
 have e0 := congrArg (·[0]?) hcs
 have e1 := congrArg (·[1]?) hcs
 simp only [List.getElem?_take, List.getElem?_drop] at e0 e1
 rw [World.var?_cell hg hvar o, ← Array.getElem?_toList]
 by_cases hp : o % 2 = 0
 ·rw [if_pos hp]
  have eo : o / 2 * 2 + 0 = o := by omega
  rw [eo] at e0
  simpa using e0
 ·rw [if_neg hp]
  have eo : o / 2 * 2 + 1 = o := by omega
  rw [eo] at e1
  simpa using e1
end Go.Ai
namespace Go.Ai
open Go.Proofs Go.Lib
set_option maxRecDepth 100000
theorem gl_is : gl = [(2, firstCells), (3, accCells)] := by kernel_rfl
theorem u8_glo (W : World) (h : laidMet Tryz.prog [("unicode/utf8.acceptRanges", acceptData), ("unicode/utf8.first", firstData)] W) : ∀ i us, List.lookup i gl = some us → ∀ (o : Nat) (u : Value), us[o]? = some u → W.cell? ⟨i, o, none⟩ = some u ∧ u.oneCell' = true := by
 intro i us hi o u hu
 rw [gl_is] at hi
 simp only [List.lookup] at hi
 split at hi
 ·rename_i e
  have e := eq_of_beq e
  subst e
  obtain rfl := Option.some.inj hi
  exact first_cell (laidMet.reads h (by simp)) o u hu
 ·split at hi
  ·rename_i e
   have e := eq_of_beq e
   subst e
   obtain rfl := Option.some.inj hi
   exact acc_cell (laidMet.reads h (by simp)) o u hu
  ·cases hi
end Go.Ai
