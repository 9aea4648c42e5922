/- P17: a part of the proof: the rules, or what functions compute. Conditions: as each theorem says. -/
import Derived.Test.YtidcomakahbepaaGreatDoorP16
import Derived.Test.YtidcomakahbepaaGreatDoorP15
import Derived.Test.YtidcomakahbepaaGreatDoorP14
import Derived.Test.YtidcomakahbepaaGreatDoorCode
import Derived.Lib.LaidU8
import GoSem.PinnedTables
set_option linter.unusedSimpArgs false
set_option linter.unusedVariables false
set_option maxRecDepth 20000
namespace Go.Ai
open Go.Proofs
def ruleN (t f g1 c1 : Nat) (e1 : Int) (g2 c2 : Nat) (e2 : Int) : Bool × Int :=
 if e1 ≠ 0 then (false, e1) else if e2 ≠ 0 then (false, e2) else if (holdsN t f g1 c1).2 ≠ 0 then (false, ((holdsN t f g1 c1).2 : Int)) else if (holdsN t f g2 c2).2 ≠ 0 then (false, ((holdsN t f g2 c2).2 : Int)) else ((holdsN t f g1 c1).1 && (holdsN t f g2 c2).1, 0)
theorem holdsN_no {t f g n : Nat} (h : (holdsN t f g n).2 ≠ 0) : (holdsN t f g n).1 = false := by
 unfold holdsN at *
 split
 ·rfl
 ·split
  ·rfl
  ·rename_i h1 h2
   rw [if_neg h1, if_neg h2] at h
   exact absurd rfl h
theorem ruleN_a {t f g1 c1 g2 c2 : Nat} {e1 e2 : Int} (h : e1 ≠ 0) : ruleN t f g1 c1 e1 g2 c2 e2 = (false, e1) := by unfold ruleN; rw [if_pos h]
theorem ruleN_b {t f g1 c1 g2 c2 : Nat} {e1 e2 : Int} (h1 : e1 = 0) (h : e2 ≠ 0) : ruleN t f g1 c1 e1 g2 c2 e2 = (false, e2) := by unfold ruleN; rw [if_neg (fun q => q h1), if_pos h]
theorem ruleN_c {t f g1 c1 g2 c2 : Nat} {e1 e2 : Int} (h1 : e1 = 0) (h2 : e2 = 0) {b1 : Bool} {n1 : Nat} (q1 : holdsN t f g1 c1 = (b1, n1)) (h : n1 ≠ 0) : ruleN t f g1 c1 e1 g2 c2 e2 = (false, (n1 : Int)) := by
 unfold ruleN; rw [if_neg (fun q => q h1), if_neg (fun q => q h2), q1, if_pos h]
theorem ruleN_d {t f g1 c1 g2 c2 : Nat} {e1 e2 : Int} (h1 : e1 = 0) (h2 : e2 = 0) {b1 b2 : Bool} {n2 : Nat} (q1 : holdsN t f g1 c1 = (b1, 0)) (q2 : holdsN t f g2 c2 = (b2, n2)) : ruleN t f g1 c1 e1 g2 c2 e2 = (b1 && b2, (n2 : Int)) := by
 unfold ruleN; rw [if_neg (fun q => q h1), if_neg (fun q => q h2), q1, if_neg (fun q => q rfl), q2]
 by_cases y2 : n2 = 0
 ·rw [if_neg (fun q => q y2), y2]; rfl
 ·have := holdsN_no (t := t) (f := f) (g := g2) (n := c2) (by rw [q2]; exact y2)
  rw [q2] at this
  simp only at this
  rw [if_pos y2, this, Bool.and_false]
theorem wndV_form3 {x : Gl} {K w : Nat → Nat} {s : Mt} {k : Nat} (h : MtOk x (winP x).length K w s k) (z : Int) : ∃ (g c : Nat) (e : Int), wndV (winP x) K w s.t s.L s.sd z = .tup [.agg [u g, u c], i6 e] ∧ g ≤ c ∧ c < 18446744073709551616 ∧ (z ∈ winP x → e = if s.sd = true then 17 else 0) := by
 unfold wndV
 split
 ·rename_i hz
  split
  ·exact ⟨0, 0, 17, rfl, by omega, by omega, fun _ => rfl⟩
  ·obtain ⟨hl, -⟩ := List.getElem?_eq_some_iff.1 ((bsI_mem (winP_rising x)).1 hz)
   have := h.L.sm _ hl
   exact ⟨_, _, 0, rfl, sm_GT h.L.ok, by omega, fun _ => rfl⟩
 ·rename_i hz
  exact ⟨0, 0, 7, rfl, by omega, by omega, fun q => absurd q hz⟩
theorem xrule_spec (M A X : Id) (R B : Nat → Id) (h : NmX M A R B X) (x : Gl) (hx : goalP x = true) (hl : x.ru.length ≤ 10) (s : Mt) (k : Nat) (hk0 : k ≤ 1000000) (hs : MtOk x (winP x).length (kN x) (wN x) s k) (t : Nat) (ht : t < 4294967296) (r : Ru) (hfac : r.f < 18446744073709551616)
  (g1 c1 : Nat) (e1 : Int) (hV1 : wndV (winP x) (kN x) (wN x) s.t s.L s.sd r.l = .tup [.agg [u g1, u c1], i6 e1]) (hg1 : g1 ≤ c1) (hc1 : c1 < 18446744073709551616)
  (g2 c2 : Nat) (e2 : Int) (hV2 : wndV (winP x) (kN x) (wN x) s.t s.L s.sd r.s = .tup [.agg [u g2, u c2], i6 e2]) (hg2 : g2 ≤ c2) (hc2 : c2 < 18446744073709551616) (d : Nat) (hd : M.isNw d = false) :
  SpH Tryz.prog gl 37 d ⟨[.ptr X 0, u32 t, .agg r.row], mxB M A R B X x (winP x).length (winP x) (kN x) (wN x) s, [(.b X 10, 3)]⟩ ⟨.tup [.bool (ruleN t r.f g1 c1 e1 g2 c2 e2).1, i6 (ruleN t r.f g1 c1 e1 g2 c2 e2).2], mxB M A R B X x (winP x).length (winP x) (kN x) (wN x) s, [(.b X 10, 3)]⟩ := by
 refine h37 rfl ?_
 have hu := h.up
 have hk := goal_k hx hl
 have hn := goal_n hl
 have hdX : X.isNw d = false := h.nx d hd
 have hiX := inn_notNw hdX
 have xi := h.xi
 have ma := h.h.ma
 have ma' : ¬ A = M := fun e => h.h.ma e.symm
 have xm := h.xm
 have xm' : ¬ M = X := fun e => h.xm e.symm
 have xa := h.xa
 have xa' : ¬ A = X := fun e => h.xa e.symm
 obtain ⟨s2, hs2⟩ : ∃ y, y = s := ⟨_, rfl⟩
 rw [← hs2]
 have hout := fun σ q1 q2 => mx_out h hd (x := x) (n := (winP x).length) (Wl := winP x) (K := kN x) (w := wN x) (s := s2) (σ := σ) q1 q2
 have houi := fun ob => mx_outi h hd x (winP x).length (winP x) (kN x) (wN x) s2 ob
 have hkey : (lkB (mxB M A R B X x (winP x).length (winP x) (kN x) (wN x) s2) X).isSome = true := mx_x ..
 have hnox := fun t L sd => mt_nox hu x (winP x).length (intRows (winP x)) (kN x) (wN x) t L sd
 have hnorm := fun t L sd => mt_norm hu x (winP x).length (intRows (winP x)) (kN x) (wN x) t L sd
 have hnon := fun t L sd s => mtU_non M A R B x (winP x).length (intRows (winP x)) (kN x) (wN x) t L sd s
 have hfr := fun t L sd s => mtU_fr M A R B x (winP x).length (intRows (winP x)) (kN x) (wN x) t L sd s
 have hinF := fun t L sd fr => mtU_inF M A R B x (winP x).length (intRows (winP x)) (kN x) (wN x) t L sd fr
 have huq := fun t L sd => mt_uq hu.h x (winP x).length (intRows (winP x)) (kN x) (wN x) t L sd
 have hks := fun t t' L L' sd sd' j => mt_ks (M := .up M) (A := .up A) (R := fun i => .up (R i)) (B := fun i => .up (B i)) x x (winP x).length (intRows (winP x)) (kN x) (wN x) t t' L L' sd sd' j
 have hrm : rmB (rgsB (fun i => .up (R i)) (fun i => .up (B i)) (rgC (kN x) (wN x) s.t s.L) (rgD (kN x) (wN x) s.t s.L) (winP x).length) (.up M) = rgsB (fun i => .up (R i)) (fun i => .up (B i)) (rgC (kN x) (wN x) s.t s.L) (rgD (kN x) (wN x) s.t s.L) (winP x).length := rgsB_rm hu.h.mr hu.h.mb _
 have hrx : rmB (rgsB (fun i => .up (R i)) (fun i => .up (B i)) (rgC (kN x) (wN x) s.t s.L) (rgD (kN x) (wN x) s.t s.L) (winP x).length) (.up X) = rgsB (fun i => .up (R i)) (fun i => .up (B i)) (rgC (kN x) (wN x) s.t s.L) (rgD (kN x) (wN x) s.t s.L) (winP x).length := rgsB_rm hu.xr hu.xb _
 have hrX := rgsB_none (R := fun i => .up (R i)) (B := fun i => .up (B i)) (C := rgC (kN x) (wN x) s.t s.L) (D := rgD (kN x) (wN x) s.t s.L) (x := .up X) hu.xr hu.xb (winP x).length
 have hrM := rgsB_none (R := fun i => .up (R i)) (B := fun i => .up (B i)) (C := rgC (kN x) (wN x) s.t s.L) (D := rgD (kN x) (wN x) s.t s.L) (x := .up M) hu.h.mr hu.h.mb (winP x).length
 have hrn := fun j => rgsB_none (R := fun i => .up (R i)) (B := fun i => .up (B i)) (C := rgC (kN x) (wN x) s.t s.L) (D := rgD (kN x) (wN x) s.t s.L) (x := .n j) (fun i e => by cases e) (fun i e => by cases e) (winP x).length
 have hrf := fun i => rgs_free (R := R) (B := B) (C := rgC (kN x) (wN x) s.t s.L) (D := rgD (kN x) (wN x) s.t s.L) (n := (winP x).length) (s := i)
 simp only [inSt, mxB_up, mpL, mpP, AV.mp, Pl.mp]
 have hs3 := hs2.symm
 clear hs2
 subst hs3
 have hw := goal_wd hx hl
 have hll := Nat.le_trans hs.l hk0
 have W1 := fun (z : Int) e he => xwindow_spec (.up X) xi x hl (winP x).length (gN x) (wdN x) hw s.t hs.t s.sd s.L hs.L hll z e he
 have V1 : ∀ q, (Id.up X).isNw q = false → SpH Tryz.prog gl 19 q ⟨[.ptr (.up X) 0, i6 r.l], [(.up X, xC x s.t s.sd s.L)], [(.b (.up X) 10, 3)]⟩ ⟨.tup [.agg [u g1, u c1], i6 e1], [(.up X, xC x s.t s.sd s.L)], [(.b (.up X) 10, 3)]⟩ := by
  intro q hq; rw [← hV1]; exact W1 r.l q hq
 have V2 : ∀ q, (Id.up X).isNw q = false → SpH Tryz.prog gl 19 q ⟨[.ptr (.up X) 0, i6 r.s], [(.up X, xC x s.t s.sd s.L)], [(.b (.up X) 10, 3)]⟩ ⟨.tup [.agg [u g2, u c2], i6 e2], [(.up X, xC x s.t s.sd s.L)], [(.b (.up X) 10, 3)]⟩ := by
  intro q hq; rw [← hV2]; exact W1 r.s q hq
 have H1 := rholds_spec t r.f g1 c1 ht hfac (by omega) hc1
 have H2 := rholds_spec t r.f g2 c2 ht hfac (by omega) hc2
 have f1 := holdsN_no (t := t) (f := r.f) (g := g1) (n := c1)
 have f2 := holdsN_no (t := t) (f := r.f) (g := g2) (n := c2)
 have a1 := hnox s.t s.L s.sd
 have a2 := hnon s.t s.L s.sd
 have a3 := hfr s.t s.L s.sd
 have a4 := huq s.t s.L s.sd
 have a6 := hnorm s.t s.L s.sd
 clear hnox hnorm hnon hfr hinF huq hks hrm hrx hrX hrM hrn hrf W1 hV1 hV2
 generalize mtB (.up M) (.up A) (fun i => .up (R i)) (fun i => .up (B i)) x (winP x).length (intRows (winP x)) (kN x) (wN x) s.t s.L s.sd = m1 at *
 generalize mxB M A R B X x (winP x).length (winP x) (kN x) (wN x) s = OB at *
 obtain ⟨b1, n1, hh1⟩ : ∃ b n, holdsN t r.f g1 c1 = (b, n) := ⟨_, _, rfl⟩
 obtain ⟨b2, n2, hh2⟩ : ∃ b n, holdsN t r.f g2 c2 = (b, n) := ⟨_, _, rfl⟩
 obtain ⟨RB, RE, hR⟩ : ∃ b e, ruleN t r.f g1 c1 e1 g2 c2 e2 = (b, e) := ⟨_, _, rfl⟩
 rw [hR]
 rw [hh1] at H1
 rw [hh2] at H2
 simp only at H1 H2 ⊢
 simp only [Ru.row] at V1 V2 ⊢
 simp only [xC] at hout V1 V2 ⊢
 simp -implicitDefEqProofs [c37, a2]
 refine onH_mk _ _ (V1 _ rfl) ⟨?_, ?_, ?_, ?_, ?_, ?_, ?_⟩ ?_
 iterate 6 (· simp [a2, lkB_app])
 ·simp; exact a3 _
 by_cases e0 : e1 = 0
 ·have e0' : (e1 != 0) = false := by rw [e0]; rfl
  simp -implicitDefEqProofs [a1, a2, a6, lkB_app, e0']
  refine onH_mk _ _ (V2 _ rfl) ⟨?_, ?_, ?_, ?_, ?_, ?_, ?_⟩ ?_
  iterate 6 (· simp [a2, lkB_app])
  ·simp; exact a3 _
  by_cases z0 : e2 = 0
  ·have z0' : (e2 != 0) = false := by rw [z0]; rfl
   simp -implicitDefEqProofs [a1, a2, a6, lkB_app, z0']
   refine onC_mk _ H1 ?_
   by_cases y1 : n1 = 0
   ·subst y1
    rw [ruleN_d e0 z0 hh1 hh2] at hR
    obtain ⟨rfl, rfl⟩ := Prod.mk.inj hR
    simp -implicitDefEqProofs [a1, a2, a6, lkB_app]
    refine onC_mk _ H2 ?_
    cases b1
    ·simp [a1, a2, a6, lkB_app]
     refine postH_r ⟨?_, ?_, hout _ ?_ ?_, houi _, ?_, ?_⟩
     ·simp
     ·simp
     ·simp [obx, hiX]
     ·refine lk_pre (pre := [(.n 10, _), (.up X, _), (.n 8, _), (.n 5, _)]) a4 ?_
      simp -implicitDefEqProofs [a1, a2]
     ·simp [hiX, hkey]
     ·simp
    ·simp [a1, a2, a6, lkB_app]
     refine postH_r ⟨?_, ?_, hout _ ?_ ?_, houi _, ?_, ?_⟩
     ·simp
     ·simp
     ·simp [obx, hiX]
     ·refine lk_pre (pre := [(.n 10, _), (.up X, _), (.n 8, _), (.n 5, _)]) a4 ?_
      simp -implicitDefEqProofs [a1, a2]
     ·simp [hiX, hkey]
     ·simp
   ·have y1' : ((n1 : Int) != 0) = true := by rw [bne_iff_ne]; omega
    rw [ruleN_c e0 z0 hh1 y1] at hR
    obtain ⟨rfl, rfl⟩ := Prod.mk.inj hR
    simp -implicitDefEqProofs [a1, a2, a6, lkB_app, y1']
    refine postH_r ⟨?_, ?_, hout _ ?_ ?_, houi _, ?_, ?_⟩
    ·simp
    ·simp
    ·simp [obx, hiX]
    ·refine lk_pre (pre := [(.n 10, _), (.up X, _), (.n 8, _), (.n 5, _)]) a4 ?_
     simp -implicitDefEqProofs [a1, a2]
    ·simp [hiX, hkey]
    ·simp
  ·rw [ruleN_b e0 z0] at hR
   obtain ⟨rfl, rfl⟩ := Prod.mk.inj hR
   have z0' : (e2 != 0) = true := by rw [bne_iff_ne]; exact z0
   simp -implicitDefEqProofs [a1, a2, a6, lkB_app, z0']
   refine postH_r ⟨?_, ?_, hout _ ?_ ?_, houi _, ?_, ?_⟩
   ·simp
   ·simp
   ·simp [obx, hiX]
   ·refine lk_pre (pre := [(.n 10, _), (.up X, _), (.n 8, _), (.n 5, _)]) a4 ?_
    simp -implicitDefEqProofs [a1, a2]
   ·simp [hiX, hkey]
   ·simp
 ·rw [ruleN_a e0] at hR
  obtain ⟨rfl, rfl⟩ := Prod.mk.inj hR
  have e0' : (e1 != 0) = true := by rw [bne_iff_ne]; exact e0
  simp -implicitDefEqProofs [a1, a2, a6, lkB_app, e0']
  refine postH_r ⟨?_, ?_, hout _ ?_ ?_, houi _, ?_, ?_⟩
  ·simp
  ·simp
  ·simp [obx, hiX]
  ·refine lk_pre (pre := [(.n 8, _), (.up X, _), (.n 5, _)]) a4 ?_
   simp -implicitDefEqProofs [a1, a2]
  ·simp [hiX, hkey]
  ·simp
open Go.Proofs
theorem mtU_up (M A : Id) (R B : Nat → Id) (x : Gl) (n : Nat) (W : List (List AV)) (K w : Nat → Nat) (t : Nat) (L : List Ev) (sd : Bool) :
  ∀ p ∈ mtB (.up M) (.up A) (fun i => .up (R i)) (fun i => .up (B i)) x n W K w t L sd, ∀ d ∈ idsL p.2, d.isUp = true := by
 intro p hp d hd
 unfold mtB at hp
 rcases List.mem_cons.1 hp with rfl | hp
 ·have e : idsL (mtC x (.up A) n W (pF x.c t) (pT x.c t) (pcG x.c t L) (pcT x.c t L) t sd) = [.up A] := rfl
  rw [e, List.mem_singleton] at hd
  subst hd; rfl
 ·rcases List.mem_cons.1 hp with rfl | hp
  ·exact ptrC_up d hd
  ·exact rgs_up (rgC_ids K w t L) (rgD_ids K w t L) p.1 p.2 hp d hd
theorem mrule_spec (M A X : Id) (R B : Nat → Id) (h : NmX M A R B X) (x : Gl) (hx : goalP x = true) (hl : x.ru.length ≤ 10) (s : Mt) (k : Nat) (hk0 : k ≤ 1000000) (hs : MtOk x (winP x).length (kN x) (wN x) s k) (t : Nat) (ht : t < 4294967296) (r : Ru) (hfac : r.f < 18446744073709551616)
  (g1 c1 : Nat) (e1 : Int) (hV1 : wndV (winP x) (kN x) (wN x) s.t s.L s.sd r.l = .tup [.agg [u g1, u c1], i6 e1]) (hg1 : g1 ≤ c1) (hc1 : c1 < 18446744073709551616)
  (g2 c2 : Nat) (e2 : Int) (hV2 : wndV (winP x) (kN x) (wN x) s.t s.L s.sd r.s = .tup [.agg [u g2, u c2], i6 e2]) (hg2 : g2 ≤ c2) (hc2 : c2 < 18446744073709551616) (d : Nat) (hd : M.isNw d = false) :
  SpH Tryz.prog gl 36 d ⟨[.ptr M 0, u32 t, .agg r.row], mxB M A R B X x (winP x).length (winP x) (kN x) (wN x) s, [(.b X 10, 3)]⟩ ⟨.tup [.bool (ruleN t r.f g1 c1 e1 g2 c2 e2).1, i6 (ruleN t r.f g1 c1 e1 g2 c2 e2).2], mxB M A R B X x (winP x).length (winP x) (kN x) (wN x) s, [(.b X 10, 3)]⟩ := by
 refine h36 rfl ?_
 have hu := h.up
 have hk := goal_k hx hl
 have hn := goal_n hl
 have hdX : X.isNw d = false := h.nx d hd
 have hiX := inn_notNw hdX
 have xi := h.xi
 have ma := h.h.ma
 have ma' : ¬ A = M := fun e => h.h.ma e.symm
 have xm := h.xm
 have xm' : ¬ M = X := fun e => h.xm e.symm
 have xa := h.xa
 have xa' : ¬ A = X := fun e => h.xa e.symm
 obtain ⟨s2, hs2⟩ : ∃ y, y = s := ⟨_, rfl⟩
 rw [← hs2]
 have hout := fun σ q1 q2 => mx_out h hd (x := x) (n := (winP x).length) (Wl := winP x) (K := kN x) (w := wN x) (s := s2) (σ := σ) q1 q2
 have houi := fun ob => mx_outi h hd x (winP x).length (winP x) (kN x) (wN x) s2 ob
 have hkey : (lkB (mxB M A R B X x (winP x).length (winP x) (kN x) (wN x) s2) X).isSome = true := mx_x ..
 have hnox := fun t L sd => mt_nox hu x (winP x).length (intRows (winP x)) (kN x) (wN x) t L sd
 have hnorm := fun t L sd => mt_norm hu x (winP x).length (intRows (winP x)) (kN x) (wN x) t L sd
 have hnon := fun t L sd s => mtU_non M A R B x (winP x).length (intRows (winP x)) (kN x) (wN x) t L sd s
 have hfr := fun t L sd s => mtU_fr M A R B x (winP x).length (intRows (winP x)) (kN x) (wN x) t L sd s
 have hinF := fun t L sd fr => mtU_inF M A R B x (winP x).length (intRows (winP x)) (kN x) (wN x) t L sd fr
 have huq := fun t L sd => mt_uq hu.h x (winP x).length (intRows (winP x)) (kN x) (wN x) t L sd
 have hks := fun t t' L L' sd sd' j => mt_ks (M := .up M) (A := .up A) (R := fun i => .up (R i)) (B := fun i => .up (B i)) x x (winP x).length (intRows (winP x)) (kN x) (wN x) t t' L L' sd sd' j
 have hrm : rmB (rgsB (fun i => .up (R i)) (fun i => .up (B i)) (rgC (kN x) (wN x) s.t s.L) (rgD (kN x) (wN x) s.t s.L) (winP x).length) (.up M) = rgsB (fun i => .up (R i)) (fun i => .up (B i)) (rgC (kN x) (wN x) s.t s.L) (rgD (kN x) (wN x) s.t s.L) (winP x).length := rgsB_rm hu.h.mr hu.h.mb _
 have hrx : rmB (rgsB (fun i => .up (R i)) (fun i => .up (B i)) (rgC (kN x) (wN x) s.t s.L) (rgD (kN x) (wN x) s.t s.L) (winP x).length) (.up X) = rgsB (fun i => .up (R i)) (fun i => .up (B i)) (rgC (kN x) (wN x) s.t s.L) (rgD (kN x) (wN x) s.t s.L) (winP x).length := rgsB_rm hu.xr hu.xb _
 have hrX := rgsB_none (R := fun i => .up (R i)) (B := fun i => .up (B i)) (C := rgC (kN x) (wN x) s.t s.L) (D := rgD (kN x) (wN x) s.t s.L) (x := .up X) hu.xr hu.xb (winP x).length
 have hrM := rgsB_none (R := fun i => .up (R i)) (B := fun i => .up (B i)) (C := rgC (kN x) (wN x) s.t s.L) (D := rgD (kN x) (wN x) s.t s.L) (x := .up M) hu.h.mr hu.h.mb (winP x).length
 have hrn := fun j => rgsB_none (R := fun i => .up (R i)) (B := fun i => .up (B i)) (C := rgC (kN x) (wN x) s.t s.L) (D := rgD (kN x) (wN x) s.t s.L) (x := .n j) (fun i e => by cases e) (fun i e => by cases e) (winP x).length
 have hrf := fun i => rgs_free (R := R) (B := B) (C := rgC (kN x) (wN x) s.t s.L) (D := rgD (kN x) (wN x) s.t s.L) (n := (winP x).length) (s := i)
 simp only [inSt, mxB_up, mpL, mpP, AV.mp, Pl.mp]
 have hs3 := hs2.symm
 clear hs2
 subst hs3
 have W1 := fun (z : Int) e he => mwindow_spec (.up M) (.up A) _ _ hu.h x (winP x).length hn (winP x) rfl (winP_rising x) (kN x) (wN x) s.t s.L s.sd z e he
 have V1 := W1 r.l
 have V2 := W1 r.s
 rw [hV1] at V1
 rw [hV2] at V2
 have H1 := holds_spec t r.f g1 c1 ht hfac (by omega) hc1
 have H2 := holds_spec t r.f g2 c2 ht hfac (by omega) hc2
 have f2 := holdsN_no (t := t) (f := r.f) (g := g2) (n := c2)
 have a1 := hnox s.t s.L s.sd
 have a2 := hnon s.t s.L s.sd
 have a3 := hfr s.t s.L s.sd
 have a4 := huq s.t s.L s.sd
 have a7 := mtU_up M A R B x (winP x).length (intRows (winP x)) (kN x) (wN x) s.t s.L s.sd
 clear hnox hnorm hnon hfr hinF huq hks hrm hrx hrX hrM hrn hrf W1 hV1 hV2
 generalize mtB (.up M) (.up A) (fun i => .up (R i)) (fun i => .up (B i)) x (winP x).length (intRows (winP x)) (kN x) (wN x) s.t s.L s.sd = m1 at *
 generalize mxB M A R B X x (winP x).length (winP x) (kN x) (wN x) s = OB at *
 obtain ⟨b1, n1, hh1⟩ : ∃ b n, holdsN t r.f g1 c1 = (b, n) := ⟨_, _, rfl⟩
 obtain ⟨b2, n2, hh2⟩ : ∃ b n, holdsN t r.f g2 c2 = (b, n) := ⟨_, _, rfl⟩
 obtain ⟨RB, RE, hR⟩ : ∃ b e, ruleN t r.f g1 c1 e1 g2 c2 e2 = (b, e) := ⟨_, _, rfl⟩
 rw [hR]
 rw [hh1] at H1
 rw [hh2] at H2 f2
 simp only at H1 H2 f2 ⊢
 simp only [Ru.row]
 simp only [xC] at hout ⊢
 have w1 : IntKind.i64.wrap 1 = 1 := by rw [wr] <;> omega
 have w2 : IntKind.i64.wrap 2 = 2 := by rw [wr] <;> omega
 simp -implicitDefEqProofs [c36, a2]
 refine wp_lpk (α := Nat) (fun k => ⟨[(0, .ptr (.up M) 0), (1, u32 t), (5, .ptr (.n 5) 0), (8, .bool true), (9, .ptr (.n 9) 0), (22, .agg [i6 r.l, i6 r.s]), (23, i6 k)], (.n 5, [.str r.n, .bool r.p, i6 r.l, i6 r.s, u r.f, i6 r.w, i6 r.k]) :: (.n 9, if k = 0 then [u 0, u 0, u 0, u 0] else if k = 1 then [u g1, u c1, u 0, u 0] else [u g1, u c1, u g2, u c2]) :: (.up X, [.str x.n, .int .u32 x.t, i6 x.g, i6 x.a, i6 x.o, i6 x.c, .sl (x.lb.map Lb.row), .sl (x.ru.map Ru.row), i6 s.t, .bool s.sd, .sl (evRows s.L)]) :: m1, [(.b (.up X) 10, 3)]⟩) (fun k => k ≤ 2 ∧ (1 ≤ k → e1 = 0) ∧ (2 ≤ k → e2 = 0)) (fun k => 2 - k) ?_ 0 ?_ ?_
 ·rintro K k hK ⟨k1, k2, k3⟩
  rcases (show k = 0 ∨ k = 1 ∨ k = 2 by omega) with rfl | rfl | rfl
  ·clear k1 k2 k3
   simp -implicitDefEqProofs [a2]
   refine onH_pre (pre := [(.n 5, _), (.n 9, _), (.up X, _)]) (l := m1) (V1 _ rfl) rfl ?_ a4 (fun _ => rfl) ?_ ?_ ?_ ?_
   ·simp [a1, a2]
   ·simp; exact a3 _
   ·simp [a1]
   ·simp
   by_cases e0 : e1 = 0
   ·have e0' : (e1 != 0) = false := by rw [e0]; rfl
    have fin := fun σ' hσ => hK 1 σ' ⟨by omega, fun _ => e0, fun h => by omega⟩ (by omega) hσ
    clear hK
    simp -implicitDefEqProofs [a2, lkB_app, e0', stB_app]
    refine fin _ (weak_mk ?_ ?_ ?_ ?_ ?_ ?_)
    ·simp [w1, w2]
    ·intro p hp
     rcases List.mem_cons.1 hp with rfl | hp
     ·simp [a2, lkB_app]
     ·rcases List.mem_cons.1 hp with rfl | hp
      ·simp [a2, lkB_app]
      ·rcases List.mem_cons.1 hp with rfl | hp
       ·simp [a1, a2, lkB_app]
       ·have n5 := ne_none hp (a2 5)
        have n9 := ne_none hp (a2 9)
        have n12 := ne_none hp (a2 12)
        have n15 := ne_none hp (a2 15)
        have nX := ne_none hp a1
        simp only [wkB, lkB, if_neg n5, if_neg n9, if_neg n12, if_neg n15, if_neg nX, lkB_app, a4 p hp]
        exact wkL_rfl' _
    ·simp
    ·simp [a2, lkB_app]
    ·intro p hp
     rcases List.mem_cons.1 hp with rfl | hp
     ·simp
     ·rcases List.mem_cons.1 hp with rfl | hp
      ·simp
      ·rcases List.mem_cons.1 hp with rfl | hp
       ·simp
       ·exact fun d hd => .inr (a7 p hp d hd)
    ·simp
   ·rw [ruleN_a e0] at hR
    obtain ⟨rfl, rfl⟩ := Prod.mk.inj hR
    have e0' : (e1 != 0) = true := by rw [bne_iff_ne]; exact e0
    clear hK
    simp -implicitDefEqProofs [a2, lkB_app, e0', stB_app]
    refine postH_r ⟨?_, ?_, hout _ ?_ ?_, houi _, ?_, ?_⟩
    ·simp
    ·simp
    ·simp [obx, hiX, lkB_app, a1, a2]
    ·refine lk_mid (pre := [(.n 12, _)]) a4 ?_
     simp -implicitDefEqProofs [a1, a2]
    ·simp [hiX, hkey]
    ·simp
  ·have e0 : e1 = 0 := k2 (by omega)
   clear k1 k2 k3
   simp -implicitDefEqProofs [a2]
   refine onH_pre (pre := [(.n 5, _), (.n 9, _), (.up X, _)]) (l := m1) (V2 _ rfl) rfl ?_ a4 (fun _ => rfl) ?_ ?_ ?_ ?_
   ·simp [a1, a2]
   ·simp; exact a3 _
   ·simp [a1]
   ·simp
   by_cases z0 : e2 = 0
   ·have e0' : (e2 != 0) = false := by rw [z0]; rfl
    have fin := fun σ' hσ => hK 2 σ' ⟨by omega, fun _ => e0, fun _ => z0⟩ (by omega) hσ
    clear hK
    simp -implicitDefEqProofs [a2, lkB_app, e0', stB_app]
    refine fin _ (weak_mk ?_ ?_ ?_ ?_ ?_ ?_)
    ·simp [w1, w2]
    ·intro p hp
     rcases List.mem_cons.1 hp with rfl | hp
     ·simp [a2, lkB_app]
     ·rcases List.mem_cons.1 hp with rfl | hp
      ·simp [a2, lkB_app]
      ·rcases List.mem_cons.1 hp with rfl | hp
       ·simp [a1, a2, lkB_app]
       ·have n5 := ne_none hp (a2 5)
        have n9 := ne_none hp (a2 9)
        have n12 := ne_none hp (a2 12)
        have n15 := ne_none hp (a2 15)
        have nX := ne_none hp a1
        simp only [wkB, lkB, if_neg n5, if_neg n9, if_neg n12, if_neg n15, if_neg nX, lkB_app, a4 p hp]
        exact wkL_rfl' _
    ·simp
    ·simp [a2, lkB_app]
    ·intro p hp
     rcases List.mem_cons.1 hp with rfl | hp
     ·simp
     ·rcases List.mem_cons.1 hp with rfl | hp
      ·simp
      ·rcases List.mem_cons.1 hp with rfl | hp
       ·simp
       ·exact fun d hd => .inr (a7 p hp d hd)
    ·simp
   ·rw [ruleN_b e0 z0] at hR
    obtain ⟨rfl, rfl⟩ := Prod.mk.inj hR
    have e0' : (e2 != 0) = true := by rw [bne_iff_ne]; exact z0
    clear hK
    simp -implicitDefEqProofs [a2, lkB_app, e0', stB_app]
    refine postH_r ⟨?_, ?_, hout _ ?_ ?_, houi _, ?_, ?_⟩
    ·simp
    ·simp
    ·simp [obx, hiX, lkB_app, a1, a2]
    ·refine lk_mid (pre := [(.n 12, _)]) a4 ?_
     simp -implicitDefEqProofs [a1, a2]
    ·simp [hiX, hkey]
    ·simp
  ·have e0 : e1 = 0 := k2 (by omega)
   have z0 : e2 = 0 := k3 (by omega)
   clear k1 k2 k3 hK
   simp -implicitDefEqProofs [a2]
   refine wp_lpk (α := Nat) (fun k => ⟨[(1, u32 t), (5, .ptr (.n 5) 0), (8, .bool (if k = 0 then true else if k = 1 then b1 else (b1 && b2))), (40, .agg [u g1, u c1, u g2, u c2]), (41, i6 k)], (.n 5, [.str r.n, .bool r.p, i6 r.l, i6 r.s, u r.f, i6 r.w, i6 r.k]) :: (.up X, [.str x.n, .int .u32 x.t, i6 x.g, i6 x.a, i6 x.o, i6 x.c, .sl (x.lb.map Lb.row), .sl (x.ru.map Ru.row), i6 s.t, .bool s.sd, .sl (evRows s.L)]) :: m1, [(.b (.up X) 10, 3)]⟩) (fun k => k ≤ 2 ∧ (1 ≤ k → n1 = 0) ∧ (2 ≤ k → n2 = 0)) (fun k => 2 - k) ?_ 0 ?_ ?_
   ·rintro J k hJ ⟨j1, j2, j3⟩
    rcases (show k = 0 ∨ k = 1 ∨ k = 2 by omega) with rfl | rfl | rfl
    ·clear j1 j2 j3
     simp -implicitDefEqProofs [a2]
     refine onC_mk _ H1 ?_
     by_cases y1 : n1 = 0
     ·have y1' : ((n1 : Int) != 0) = false := by rw [y1]; rfl
      have fin := fun σ' hσ => hJ 1 σ' ⟨by omega, fun _ => y1, fun h => by omega⟩ (by omega) hσ
      clear hJ
      simp -implicitDefEqProofs [a2, y1']
      refine fin _ (weak_mk ?_ ?_ ?_ ?_ ?_ ?_)
      ·simp [w1, w2]
      ·intro p hp
       rcases List.mem_cons.1 hp with rfl | hp
       ·simp [a2, lkB_app]
       ·rcases List.mem_cons.1 hp with rfl | hp
        ·simp [a1, a2, lkB_app]
        ·have n5 := ne_none hp (a2 5)
         have n9 := ne_none hp (a2 9)
         have n12 := ne_none hp (a2 12)
         have n15 := ne_none hp (a2 15)
         have nX := ne_none hp a1
         simp only [wkB, lkB, if_neg n5, if_neg n9, if_neg n12, if_neg n15, if_neg nX, lkB_app, a4 p hp]
         exact wkL_rfl' _
      ·simp
      ·simp [a2, lkB_app]
      ·intro p hp
       rcases List.mem_cons.1 hp with rfl | hp
       ·simp
       ·rcases List.mem_cons.1 hp with rfl | hp
        ·simp
        ·exact fun d hd => .inr (a7 p hp d hd)
      ·simp
     ·have y1' : ((n1 : Int) != 0) = true := by rw [bne_iff_ne]; omega
      clear hJ
      rw [ruleN_c e0 z0 hh1 y1] at hR
      obtain ⟨rfl, rfl⟩ := Prod.mk.inj hR
      simp -implicitDefEqProofs [a2, y1']
      refine postH_r ⟨?_, ?_, hout _ ?_ ?_, houi _, ?_, ?_⟩
      ·simp
      ·simp
      ·simp [obx, hiX, lkB_app, a1, a2]
      ·refine lk_pre (pre := [(.n 15, _), (.n 5, _), (.up X, _)]) a4 ?_
       simp -implicitDefEqProofs [a1, a2]
      ·simp [hiX, hkey]
      ·simp
    ·have y0 : n1 = 0 := j2 (by omega)
     subst y0
     clear j1 j2 j3
     simp -implicitDefEqProofs [a2]
     refine onC_mk _ H2 ?_
     by_cases y1 : n2 = 0
     ·have y1' : ((n2 : Int) != 0) = false := by rw [y1]; rfl
      have fin := fun σ' hσ => hJ 2 σ' ⟨by omega, fun _ => rfl, fun _ => y1⟩ (by omega) hσ
      clear hJ
      cases b1
      ·simp [a2, y1']
       refine fin _ (weak_mk ?_ ?_ ?_ ?_ ?_ ?_)
       ·simp [w1, w2]
       ·intro p hp
        rcases List.mem_cons.1 hp with rfl | hp
        ·simp [a2, lkB_app]
        ·rcases List.mem_cons.1 hp with rfl | hp
         ·simp [a1, a2, lkB_app]
         ·have n5 := ne_none hp (a2 5)
          have n9 := ne_none hp (a2 9)
          have n12 := ne_none hp (a2 12)
          have n15 := ne_none hp (a2 15)
          have nX := ne_none hp a1
          simp only [wkB, lkB, if_neg n5, if_neg n9, if_neg n12, if_neg n15, if_neg nX, lkB_app, a4 p hp]
          exact wkL_rfl' _
       ·simp
       ·simp [a2, lkB_app]
       ·intro p hp
        rcases List.mem_cons.1 hp with rfl | hp
        ·simp
        ·rcases List.mem_cons.1 hp with rfl | hp
         ·simp
         ·exact fun d hd => .inr (a7 p hp d hd)
       ·simp
      ·simp [a2, y1']
       refine fin _ (weak_mk ?_ ?_ ?_ ?_ ?_ ?_)
       ·simp [w1, w2]
       ·intro p hp
        rcases List.mem_cons.1 hp with rfl | hp
        ·simp [a2, lkB_app]
        ·rcases List.mem_cons.1 hp with rfl | hp
         ·simp [a1, a2, lkB_app]
         ·have n5 := ne_none hp (a2 5)
          have n9 := ne_none hp (a2 9)
          have n12 := ne_none hp (a2 12)
          have n15 := ne_none hp (a2 15)
          have nX := ne_none hp a1
          simp only [wkB, lkB, if_neg n5, if_neg n9, if_neg n12, if_neg n15, if_neg nX, lkB_app, a4 p hp]
          exact wkL_rfl' _
       ·simp
       ·simp [a2, lkB_app]
       ·intro p hp
        rcases List.mem_cons.1 hp with rfl | hp
        ·simp
        ·rcases List.mem_cons.1 hp with rfl | hp
         ·simp
         ·exact fun d hd => .inr (a7 p hp d hd)
       ·simp
     ·have y1' : ((n2 : Int) != 0) = true := by rw [bne_iff_ne]; omega
      clear hJ
      rw [ruleN_d e0 z0 hh1 hh2, f2 y1, Bool.and_false] at hR
      obtain ⟨rfl, rfl⟩ := Prod.mk.inj hR
      simp -implicitDefEqProofs [a2, y1']
      refine postH_r ⟨?_, ?_, hout _ ?_ ?_, houi _, ?_, ?_⟩
      ·simp
      ·simp
      ·simp [obx, hiX, lkB_app, a1, a2]
      ·refine lk_pre (pre := [(.n 15, _), (.n 5, _), (.up X, _)]) a4 ?_
       simp -implicitDefEqProofs [a1, a2]
      ·simp [hiX, hkey]
      ·simp
    ·have y0 : n1 = 0 := j2 (by omega)
     have y2 : n2 = 0 := j3 (by omega)
     subst y0
     subst y2
     clear j1 j2 j3 hJ
     rw [ruleN_d e0 z0 hh1 hh2] at hR
     obtain ⟨rfl, rfl⟩ := Prod.mk.inj hR
     simp -implicitDefEqProofs [a2]
     refine postH_r ⟨?_, ?_, hout _ ?_ ?_, houi _, ?_, ?_⟩
     ·simp
     ·simp
     ·simp [obx, hiX, lkB_app, a1, a2]
     ·refine lk_pre (pre := [(.n 5, _), (.up X, _)]) a4 ?_
      simp -implicitDefEqProofs [a1, a2]
     ·simp [hiX, hkey]
     ·simp
   ·exact ⟨by omega, fun h => by omega, fun h => by omega⟩
   ·refine (weak_mk ?_ ?_ ?_ ?_ ?_ ?_)
    ·simp [w1, w2]
    ·intro p hp
     rcases List.mem_cons.1 hp with rfl | hp
     ·simp [a2, lkB_app]
     ·rcases List.mem_cons.1 hp with rfl | hp
      ·simp [a1, a2, lkB_app]
      ·have n5 := ne_none hp (a2 5)
       have n9 := ne_none hp (a2 9)
       have n12 := ne_none hp (a2 12)
       have n15 := ne_none hp (a2 15)
       have nX := ne_none hp a1
       simp only [wkB, lkB, if_neg n5, if_neg n9, if_neg n12, if_neg n15, if_neg nX, lkB_app, a4 p hp]
       exact wkL_rfl' _
    ·simp
    ·simp [a2, lkB_app]
    ·intro p hp
     rcases List.mem_cons.1 hp with rfl | hp
     ·simp
     ·rcases List.mem_cons.1 hp with rfl | hp
      ·simp
      ·exact fun d hd => .inr (a7 p hp d hd)
    ·simp
 ·exact ⟨by omega, fun h => by omega, fun h => by omega⟩
 ·refine (weak_mk ?_ ?_ ?_ ?_ ?_ ?_)
  ·simp [w1, w2]
  ·intro p hp
   rcases List.mem_cons.1 hp with rfl | hp
   ·simp [a2, lkB_app]
   ·rcases List.mem_cons.1 hp with rfl | hp
    ·simp [a2, lkB_app]
    ·rcases List.mem_cons.1 hp with rfl | hp
     ·simp [a1, a2, lkB_app]
     ·have n5 := ne_none hp (a2 5)
      have n9 := ne_none hp (a2 9)
      have n12 := ne_none hp (a2 12)
      have n15 := ne_none hp (a2 15)
      have nX := ne_none hp a1
      simp only [wkB, lkB, if_neg n5, if_neg n9, if_neg n12, if_neg n15, if_neg nX, lkB_app, a4 p hp]
      exact wkL_rfl' _
  ·simp
  ·simp [a2, lkB_app]
  ·intro p hp
   rcases List.mem_cons.1 hp with rfl | hp
   ·simp
   ·rcases List.mem_cons.1 hp with rfl | hp
    ·simp
    ·rcases List.mem_cons.1 hp with rfl | hp
     ·simp
     ·exact fun d hd => .inr (a7 p hp d hd)
  ·simp
open Go.Proofs
theorem zwindow (z : Int) : Sp Tryz.prog gl 18 [.nilp, i6 z] (.tup [.agg [.int .u64 0, .int .u64 0], i6 1]) := by
 refine s18 rfl rfl ?_
 simp -implicitDefEqProofs [c18]
open Go.Proofs
theorem zrule (t : Nat) (r : Ru) : Sp Tryz.prog gl 36 [.nilp, u32 t, .agg r.row] (.tup [.bool false, i6 1]) := by
 refine s36 rfl rfl ?_
 have W := fun d => Sp.h (d := d) (zwindow r.l)
 simp only [Ru.row]
 simp -implicitDefEqProofs [c36]
 refine wp_lpk (α := Nat) (fun k => ⟨[(0, .nilp), (22, .agg [i6 r.l, i6 r.s]), (23, i6 0)], [], []⟩) (fun k => k = 0) (fun _ => 0) ?_ 0 rfl ?_
 ·intro K k hK k1
  clear hK
  simp -implicitDefEqProofs
  refine onH_mk _ _ (W _) ⟨?_, ?_, ?_, ?_, ?_, ?_, ?_⟩ ?_
  iterate 7 (· simp)
  simp -implicitDefEqProofs
 ·refine weak_mk ?_ ?_ ?_ ?_ ?_ ?_ <;> simp -implicitDefEqProofs
theorem lx_inF (d k : Nat) (x : Gl) (n : Nat) (Wl : List Int) (K w : Nat → Nat) (s : Mt) (fr : List Nat) (hk : fr.contains k = false) : ∀ p ∈ mxB (lM d) (lA d) (lR d) (lB d) (.n k) x n Wl K w s, inF fr p.1 = false := by
 intro p hp
 obtain ⟨a, b⟩ := p
 rcases mx_mem hp with rfl | rfl | rfl | ⟨i, rfl | rfl⟩
 ·exact hk
 all_goals rfl
theorem goal_f {x : Gl} (h : goalP x = true) : x.t ≤ 1000000 ∧ ∀ r ∈ x.ru, r.f ≤ 1000000 := by
 unfold goalP rulesP btw ruP btw at h
 simp only [Bool.and_eq_true, decide_eq_true_eq, beq_iff_eq, List.all_eq_true] at h
 obtain ⟨-, h0, -, -, -, -, -, -, h6, -⟩ := h
 refine ⟨by omega, fun r hr => ?_⟩
 obtain ⟨-, -, -, -, -, -, q, -⟩ := h6 r hr
 omega
theorem holdsN_ok {t f g n : Nat} (h1 : t ≤ 1000000) (h2 : f ≤ 1000000) (h3 : g ≤ n) : (holdsN t f g n).2 = 0 := by
 unfold holdsN
 rw [if_neg (by omega), if_neg (by omega)]
theorem ru_win {x : Gl} {r : Ru} (h : r ∈ x.ru) : r.l ∈ winP x ∧ r.s ∈ winP x := by
 constructor <;> rw [winP_mem] <;> unfold allW ruW <;> rw [List.mem_append] <;> left <;> rw [List.mem_flatMap] <;> exact ⟨r, h, by simp⟩
theorem ruleN_own {x : Gl} (hx : goalP x = true) {r : Ru} (hr : r ∈ x.ru) {g1 c1 g2 c2 : Nat} {e1 e2 : Int} {sd : Bool} (h1 : e1 = if sd = true then 17 else 0) (h2 : e2 = if sd = true then 17 else 0) (q1 : g1 ≤ c1) (q2 : g2 ≤ c2) :
  (ruleN x.t r.f g1 c1 e1 g2 c2 e2).2 = if sd = true then 17 else 0 := by
 obtain ⟨ht, hf⟩ := goal_f hx
 have hf := hf r hr
 cases sd with
 | true =>
  rw [if_pos rfl] at h1 ⊢
  rw [ruleN_a (by rw [h1]; omega), h1]
 | false =>
  rw [if_neg (by simp)] at h1 h2 ⊢
  have a1 := holdsN_ok ht hf q1
  have a2 := holdsN_ok ht hf q2
  obtain ⟨b1, n1, hh1⟩ : ∃ b n, holdsN x.t r.f g1 c1 = (b, n) := ⟨_, _, rfl⟩
  obtain ⟨b2, n2, hh2⟩ : ∃ b n, holdsN x.t r.f g2 c2 = (b, n) := ⟨_, _, rfl⟩
  rw [hh1] at a1
  rw [hh2] at a2
  simp only at a1 a2
  subst a1
  subst a2
  rw [ruleN_d h1 h2 hh1 hh2]; rfl
theorem burnRules_spec (x : Gl) (l : List Ac) (hal : ∀ a ∈ l, a.t < 18446744073709551616) (t : Nat) (ht : t < 4294967296) (r : Ru) (hr : r.f < 18446744073709551616) : Sp Tryz.prog gl 7 [.agg x.row, .sl (acRows l), u32 t, .agg r.row] (.bool true) := by
 refine s7 rfl rfl ?_
 have AW := awake21_spec
 have H := heavyG_spec x
 have P1 : x.row.length = 8 := rfl
 have P2 : idsL x.row = [] := rfl
 have P3 : shutL x.row = some x.row := rfl
 have O1 : r.row.length = 7 := rfl
 have O2 : idsL r.row = [] := rfl
 have O3 : shutL r.row = some r.row := rfl
 cases hh : heavyG x with
 | true =>
  rw [hh] at H
  generalize x.row = P at *
  generalize r.row = P' at *
  have e8 : List.take 8 P = P := List.take_of_length_le (by omega)
  simp -implicitDefEqProofs [c7]
  refine onC_mk _ (AW) ?_
  simp -implicitDefEqProofs [P1, e8, P3]
  refine onC_mk _ (H) ?_
  simp -implicitDefEqProofs
 | false =>
  rw [hh] at H
  have hf := heavyG_fit hh
  have hl := hf.ru
  have Q := qgoal_spec x hf
  cases hx : goalP x with
  | false =>
   rw [hx] at Q
   generalize x.row = P at *
   generalize r.row = P' at *
   have e8 : List.take 8 P = P := List.take_of_length_le (by omega)
   simp -implicitDefEqProofs [c7]
   refine onC_mk _ (AW) ?_
   simp -implicitDefEqProofs [P1, e8, P3]
   refine onC_mk _ (H) ?_
   simp -implicitDefEqProofs [P1, e8, P3]
   refine onC_mk _ (Q) ?_
   simp -implicitDefEqProofs [P1, e8, P3]
  | true =>
   rw [hx] at Q
   have NM := nmL 30 35
   have hk := goal_k hx hl
   have hn := goal_n hl
   obtain ⟨G, hG⟩ : ∃ G : Mt → List (Id × List AV), G = fun s => mxB (lM 30) (lA 30) (lR 30) (lB 30) (.n 35) x (winP x).length (winP x) (kN x) (wN x) s := ⟨_, rfl⟩
   obtain ⟨mt, hmt⟩ : ∃ r : Mt → List (Id × List AV), r = fun s => mtB (lM 30) (lA 30) (lR 30) (lB 30) x (winP x).length (intRows (winP x)) (kN x) (wN x) s.t s.L s.sd := ⟨_, rfl⟩
   have hGm : ∀ s, G s = (.n 35, xC x s.t s.sd s.L) :: mt s := fun s => by rw [hG, hmt]; rfl
   have gu : ∀ s, ∀ p ∈ G s, lkB (G s) p.1 = some p.2 := fun s => by rw [hG]; exact mx_uniq NM x _ _ _ _ s
   have gk : ∀ s s' j, (lkB (G s') j).isSome = (lkB (G s) j).isSome := fun s s' j => by rw [hG]; exact mx_keys x x _ _ _ _ s s' j
   have gX : ∀ s, (lkB (G s) (.n 35)).isSome = true := fun s => by rw [hG]; exact mx_x ..
   have gM : ∀ s, (lkB (G s) (lM 30)).isSome = true := fun s => by rw [hG]; exact lkB_isSome (p := (lM 30, _)) (List.mem_cons_of_mem _ (List.mem_cons_self ..))
   have gi : ∀ s, ∀ p ∈ G s, ∀ i ∈ idsL p.2, (lkB (G s) i).isSome = true := fun s => by rw [hG]; exact mx_ids NM x _ _ _ _ s
   have gw : ∀ s (a : Id) (b : List AV), (a, b) ∈ G s → a.isIt = false ∧ ∀ t, t ≠ 30 → a.isNw t = false := fun s => by rw [hG]; exact lx_nw 30 35 x _ _ _ _ s
   have gn : ∀ s j, j ≠ 35 → lkB (G s) (.n j) = none := fun s j hj => by rw [hG]; exact lx_n 30 35 x _ _ _ _ s j hj
   have mn : ∀ s j, lkB (mt s) (.n j) = none := fun s j => by rw [hmt]; exact lm_n 30 x _ _ _ _ s j
   have mu : ∀ s, ∀ p ∈ mt s, lkB (mt s) p.1 = some p.2 := fun s => by rw [hmt]; exact mt_uq NM.h x _ _ _ _ _ _ _
   have mw : ∀ s (a : Id) (b : List AV), (a, b) ∈ mt s → a.isIt = false ∧ ∀ t, a.isNw t = (30 == t) := fun s => by rw [hmt]; exact lm_nw 30 x _ _ _ _ s
   have mM : ∀ t, (lM 30).isNw t = (30 == t) := fun t => by simp [lM, Id.isNw, Id.isUp]
   have iM : (lM 30).isIt = false := rfl
   have nM : ∀ j, ¬ lM 30 = .n j := fun j => by simp [lM]
   have nM' : ∀ j, ¬ Id.n j = lM 30 := fun j => by simp [lM]
   have nmpa := NM.h.pa
   have gF : ∀ s, ∀ p ∈ G s, inF [4, 7] p.1 = false := fun s => by rw [hG]; exact lx_inF 30 35 x _ _ _ _ s [4, 7] rfl
   have hw := goal_wd hx hl
   obtain ⟨hxt, hxf⟩ := goal_f hx
   have N1 : SpH Tryz.prog gl 35 30 ⟨[.agg x.row], [], []⟩ ⟨.tup [.ptr (lM 30) 0, i6 0], mt mt0, []⟩ := by
    rw [hmt]; exact mnew_spec x hf hl hx (winP x).length hn (goal_n1 hx) rfl (gN x) hw.gg (wdN x) hw.wd 30
   have DO : ∀ s k, k ≤ 1000000 → MtOk x (winP x).length (kN x) (wN x) s k → ∀ a : Ac, a.t < 18446744073709551616 → ∀ e, (lM 30).isNw e = false → SpH Tryz.prog gl 17 e ⟨[.ptr (lM 30) 0, .ptr (.n 35) 0, .agg a.row], G s, [(.b (.n 35) 10, 3)]⟩ ⟨.bool true, G (stS x (winP x).length (kN x) (wN x) s a), [(.b (.n 35) 10, 3)]⟩ := fun s k h1 h2 a ha e he => by
    rw [hG]; exact does_spec _ _ _ _ _ NM x hx hl s k h1 h2 a ha e he
   have R2 : ∀ s k, k ≤ 1000000 → MtOk x (winP x).length (kN x) (wN x) s k → ∀ t, t < 4294967296 → ∀ z : Ru, z.f < 18446744073709551616 → ∃ (b : Bool) (e : Int), (∀ q, (lM 30).isNw q = false →
     SpH Tryz.prog gl 36 q ⟨[.ptr (lM 30) 0, u32 t, .agg z.row], G s, [(.b (.n 35) 10, 3)]⟩ ⟨.tup [.bool b, i6 e], G s, [(.b (.n 35) 10, 3)]⟩ ∧
     SpH Tryz.prog gl 37 q ⟨[.ptr (.n 35) 0, u32 t, .agg z.row], G s, [(.b (.n 35) 10, 3)]⟩ ⟨.tup [.bool b, i6 e], G s, [(.b (.n 35) 10, 3)]⟩) ∧ (z ∈ x.ru → t = x.t → e = if s.sd = true then 17 else 0) := by
    intro s k hk1 hs t ht z hz
    obtain ⟨g1, c1, e1, hV1, q1, p1, o1⟩ := wndV_form3 hs z.l
    obtain ⟨g2, c2, e2, hV2, q2, p2, o2⟩ := wndV_form3 hs z.s
    refine ⟨(ruleN t z.f g1 c1 e1 g2 c2 e2).1, (ruleN t z.f g1 c1 e1 g2 c2 e2).2, fun q hq => ?_, fun hz ht => ?_⟩
    ·rw [hG]
     exact ⟨mrule_spec _ _ _ _ _ NM x hx hl s k hk1 hs t ht z hz g1 c1 e1 hV1 q1 p1 g2 c2 e2 hV2 q2 p2 q hq, xrule_spec _ _ _ _ _ NM x hx hl s k hk1 hs t ht z hz g1 c1 e1 hV1 q1 p1 g2 c2 e2 hV2 q2 p2 q hq⟩
    ·obtain ⟨w1, w2⟩ := ru_win hz
     rw [ht]
     exact ruleN_own hx hz (o1 w1) (o2 w2) q1 q2
   have ZN := fun d => Sp.h (d := d) (zrule t r)
   have hok := fun s k (h : MtOk x (winP x).length (kN x) (wN x) s k) a => stS_ok h a
   have ok0 := mt0_ok x (winP x).length (kN x) (wN x)
   have al := acRows_len l
   have a4 := acRows_4 l
   have aat := acRows_at l
   generalize acRows l = RW at *
   generalize hstS : stS x (winP x).length (kN x) (wN x) = ST at *
   clear hG hstS NM hmt
   generalize lM 30 = FM at *
   simp only [xC] at hGm
   have hxr : x.row = [.str x.n, .int .u32 x.t, i6 x.g, i6 x.a, i6 x.o, i6 x.c, .sl (x.lb.map Lb.row), .sl (x.ru.map Ru.row)] := rfl
   have rul : (x.ru.map Ru.row).length = x.ru.length := by simp
   have ru7 : ∀ z ∈ x.ru.map Ru.row, z.length = 7 := by
    intro z hz
    rw [List.mem_map] at hz
    obtain ⟨y, -, rfl⟩ := hz; rfl
   have ruat : ∀ i (h : i < x.ru.length), (x.ru.map Ru.row)[i]? = some (x.ru[i]).row := fun i h => by simp [h]
   have hru := hf.ru
   generalize x.ru.map Ru.row = RU at *
   generalize hP' : r.row = P' at *
   rw [hxr] at H Q N1 ⊢
   clear hxr P1 P2 P3
   have f7 : List.take 7 P' = P' := List.take_of_length_le (by omega)
   simp -implicitDefEqProofs [c7]
   refine onC_mk _ (AW) ?_
   simp -implicitDefEqProofs
   refine onC_mk _ (H) ?_
   simp -implicitDefEqProofs
   refine onC_mk _ (Q) ?_
   simp -implicitDefEqProofs
   refine onH_mk _ _ N1 ⟨?_, ?_, ?_, ?_, ?_, ?_, ?_⟩ ?_
   iterate 5 (· simp [mn])
   ·simp
    intro a b hm
    obtain ⟨h1, h2⟩ := mw _ a b hm
    exact ⟨by rw [h2]; rfl, h1⟩
   ·simp
   simp -implicitDefEqProofs [mn, lkB_app]
   obtain ⟨XR, hXR⟩ : ∃ XR, XR = [AV.str x.n, .int .u32 x.t, i6 x.g, i6 x.a, i6 x.o, i6 x.c, .sl (x.lb.map Lb.row), .sl RU] := ⟨_, rfl⟩
   have xr2 : idsL XR = [] := by rw [hXR]; rfl
   have GP : ∀ s, ∀ p ∈ G s ++ [(Id.n 7, P'), (Id.n 4, XR)], lkB (G s ++ [(Id.n 7, P'), (Id.n 4, XR)]) p.1 = some p.2 := fun s p hp => by
    rcases List.mem_append.1 hp with hp | hp
    ·rw [lkB_app, gu s p hp]
    ·rcases List.mem_cons.1 hp with rfl | hp
     ·rw [lkB_app, gn _ _ (by omega)]; simp [lkB]
     ·rw [List.mem_singleton] at hp
      subst hp
      rw [lkB_app, gn _ _ (by omega)]; simp [lkB]
   have GK : ∀ s d, (lkB (G s) d).isSome = true → (lkB (G s ++ [(Id.n 7, P'), (Id.n 4, XR)]) d).isSome = true := fun s d h => by
    rw [lkB_app]
    obtain ⟨c, hc⟩ := Option.isSome_iff_exists.1 h
    rw [hc]; rfl
   have GN7 : ∀ s, (lkB (G s ++ [(Id.n 7, P'), (Id.n 4, XR)]) (.n 7)).isSome = true := fun s => by rw [lkB_app, gn _ _ (by omega)]; simp [lkB]
   have GN4 : ∀ s, (lkB (G s ++ [(Id.n 7, P'), (Id.n 4, XR)]) (.n 4)).isSome = true := fun s => by rw [lkB_app, gn _ _ (by omega)]; simp [lkB]
   have g7 := fun s => gn s 7 (by omega)
   have g4 := fun s => gn s 4 (by omega)
   have GW : ∀ s q, q ≠ 30 → ∀ p ∈ G s ++ [(Id.n 7, P'), (Id.n 4, XR)], p.1.isNw q = false := fun s q hq p hp => by
    rcases List.mem_append.1 hp with hp | hp
    ·obtain ⟨a, b⟩ := p
     exact (gw s a b hp).2 q hq
    ·rcases List.mem_cons.1 hp with rfl | hp
     ·rfl
     ·rw [List.mem_singleton] at hp
      subst hp; rfl
   have GB : ∀ s, ∀ p ∈ G s ++ [(Id.n 7, P'), (Id.n 4, XR)], ∀ d ∈ idsL p.2, (lkB (G s ++ [(Id.n 7, P'), (Id.n 4, XR)]) d).isSome = true ∨ d.isUp = true := fun s p hp => by
    rcases List.mem_append.1 hp with hp | hp
    ·exact fun d hd => .inl (GK s d (gi s p hp d hd))
    ·rcases List.mem_cons.1 hp with rfl | hp
     ·intro d hd
      rw [O2] at hd; simp at hd
     ·rw [List.mem_singleton] at hp
      subst hp
      intro d hd
      rw [xr2] at hd; simp at hd
   have lX : ∀ s, lkB (G s) (.n 35) = some [.str x.n, .int .u32 x.t, i6 x.g, i6 x.a, i6 x.o, i6 x.c, .sl (x.lb.map Lb.row), .sl RU, i6 s.t, .bool s.sd, .sl (evRows s.L)] := fun s => by rw [hGm]; simp [lkB]
   rw [← hXR]
   refine wp_lpk (α := Nat × Mt) (fun p => ⟨[(1, .sl RW), (2, u32 t), (4, .ptr (.n 4) 0), (7, .ptr (.n 7) 0), (9, .ptr FM 0), (11, .ptr (.n 35) 0), (12, i6 p.1)], G p.2 ++ [(.n 7, P'), (.n 4, XR)], [(.b (.n 35) 10, 3)]⟩)
    (fun p => p.1 ≤ l.length ∧ p.1 ≤ 100 ∧ MtOk x (winP x).length (kN x) (wN x) p.2 p.1) (fun p => l.length - p.1) ?_ (0, mt0) ?_ ?_
   ·rintro K ⟨k, s⟩ hK ⟨k1, k2, k3⟩
    by_cases c : k < l.length ∧ k < 100
    ·obtain ⟨c1, c2⟩ := c
     have c1' : (k : Int) < l.length := by omega
     have c2' : (k : Int) < 100 := by omega
     have w1 : IntKind.i64.wrap ((k : Int) + 1) = (k + 1 : Nat) := by rw [wr] <;> omega
     have kl : k < RW.length := by omega
     have ew0 := aat k c1
     have ew : RW[k]'kl = l[k].row := by rw [List.getElem?_eq_getElem kl] at ew0; exact Option.some.inj ew0
     have r4 := a4 _ (List.getElem_mem kl)
     have D1 := DO s k (by omega) k3 l[k] (hal _ (List.getElem_mem c1))
     have fin := fun σ' (hσ : Weak σ' _) => hK (k + 1, ST s l[k]) σ' ⟨by simp only; omega, by simp only; omega, hok s k k3 l[k]⟩ (by simp only; omega) hσ
     rw [ew] at r4
     clear hK DO hok aat N1 R2
     generalize ST s l[k] = s' at *
     generalize l[k].row = ar at *
     have e4 : List.take 4 ar = ar := List.take_of_length_le (by omega)
     simp -implicitDefEqProofs [al, c1, c1', c2', c2, kl, ew, ew0, a4, r4, e4]
     refine onH_xs (pre := []) (suf := [(.n 7, P'), (.n 4, XR)]) (q := []) (D1 _ (by rw [mM]; rfl)) rfl rfl (gX _) ?_ ?_ (gu _) (gk _ _) (GW s _ (by omega)) ?_ ?_ ?_
     ·simp
     ·simp [g7, g4]
     ·simp
     ·simp
     simp -implicitDefEqProofs [w1]
     refine fin _ (weak_mk ?_ (wkB_self (GP s')) ?_ ?_ (GB s') ?_)
     ·simp [w1]
     ·simp
     ·simp [GK s' _ (gX s'), GK s' FM (gM s'), GN4, GN7]
     ·simp [GK s' _ (gX s')]
    ·have R2s := R2 s k (by omega) k3
     obtain ⟨RB, RE, RR, -⟩ := R2s t ht r hr
     clear hK DO hok aat N1 R2
     by_cases c2 : k < l.length
     ·have c3 : ¬ (k : Int) < 100 := by omega
      have c2' : (k : Int) < l.length := by omega
      have c3' : ¬ k < 100 := by omega
      simp -implicitDefEqProofs [al, c2, c2', c3, c3', lkB_app, g7, g4, f7, O1, O3]
      subst hP'
      refine onH_xs (pre := []) (suf := [(.n 7, r.row), (.n 4, XR)]) (q := []) (RR _ (by rw [mM]; rfl)).1 rfl rfl (gX _) ?_ ?_ (gu _) (fun _ => rfl) (GW s _ (by omega)) ?_ ?_ ?_
      ·simp
      ·simp [g7, g4]
      ·simp
      ·simp
      simp -implicitDefEqProofs [lkB_app, g7, g4, f7, O1, O3]
      refine onH_xs (pre := []) (suf := [(.n 7, r.row), (.n 4, XR)]) (q := []) (RR _ (by rw [mM]; rfl)).2 rfl rfl (gX _) ?_ ?_ (gu _) (fun _ => rfl) (GW s _ (by omega)) ?_ ?_ ?_
      ·simp
      ·simp [g7, g4]
      ·simp
      ·simp
      simp -implicitDefEqProofs [lkB_app, g7, g4]
      refine wp_lpk (α := Nat) (fun i => ⟨[(2, u32 t), (4, .ptr (.n 4) 0), (7, .ptr (.n 7) 0), (9, .ptr FM 0), (11, .ptr (.n 35) 0), (17, i6 i)], G s ++ [(.n 7, r.row), (.n 4, XR)], [(.b (.n 35) 10, 3)]⟩) (fun i => i ≤ x.ru.length) (fun i => x.ru.length - i) ?_ 0 ?_ ?_
      ·intro K i hK i1
       by_cases c : i < x.ru.length
       ·have c' : (i : Int) < x.ru.length := by omega
        have w1 : IntKind.i64.wrap ((i : Int) + 1) = (i + 1 : Nat) := by rw [wr] <;> omega
        have il : i < RU.length := by omega
        have ez0 := ruat i c
        have ez : RU[i]'il = (x.ru[i]).row := by rw [List.getElem?_eq_getElem il] at ez0; exact Option.some.inj ez0
        have zl : (x.ru[i]).row.length = 7 := rfl
        obtain ⟨b, e, SP, own⟩ := R2s x.t (by omega) x.ru[i] (Nat.lt_of_le_of_lt (hxf _ (List.getElem_mem c)) (by omega))
        have own := own (List.getElem_mem c) rfl
        have fin := fun σ' hσ => hK (i + 1) σ' (by omega) (by omega) hσ
        clear hK R2s ruat
        generalize (x.ru[i]).row = zr at *
        have z7 : List.take 7 zr = zr := List.take_of_length_le (by omega)
        have GWx : ∀ q, q ≠ 30 → ∀ p ∈ G s ++ [(Id.n 7, r.row), (Id.n 4, [AV.str x.n, .int .u32 x.t, i6 x.g, i6 x.a, i6 x.o, i6 x.c, .sl (x.lb.map Lb.row), .sl RU])], p.1.isNw q = false := by rw [← hXR]; exact GW s
        have WXS : ∀ s, ∀ p ∈ G s ++ [(Id.n 7, r.row), (Id.n 4, XR)], wkB (G s ++ [(Id.n 7, r.row), (Id.n 4, [AV.str x.n, .int .u32 x.t, i6 x.g, i6 x.a, i6 x.o, i6 x.c, .sl (x.lb.map Lb.row), .sl RU])]) p.1 p.2 := fun s => by rw [← hXR]; exact wkB_self (GP s)
        rw [hXR]
        simp -implicitDefEqProofs [c, c', il, ez, ez0, rul, ru7, zl, z7, lkB_app, g7, g4]
        refine onQ_xs (pre := []) (suf := [(.n 7, r.row), (.n 4, [AV.str x.n, .int .u32 x.t, i6 x.g, i6 x.a, i6 x.o, i6 x.c, .sl (x.lb.map Lb.row), .sl RU])]) (q := []) (fr := [4, 7]) (SP _ (by rw [mM]; rfl)).1 rfl rfl (gX _) ?_ ?_ (gu _) (fun _ => rfl) (GWx _ (by omega)) ?_ ?_ rfl (gF _) ?_
        ·simp
        ·simp [g7, g4]
        ·simp
        ·simp
        simp -implicitDefEqProofs [c, c', il, ez, ez0, rul, ru7, zl, z7, lkB_app, g7, g4]
        refine onQ_xs (pre := []) (suf := [(.n 7, r.row), (.n 4, [AV.str x.n, .int .u32 x.t, i6 x.g, i6 x.a, i6 x.o, i6 x.c, .sl (x.lb.map Lb.row), .sl RU])]) (q := []) (fr := [4, 7]) (SP _ (by rw [mM]; rfl)).2 rfl rfl (gX _) ?_ ?_ (gu _) (fun _ => rfl) (GWx _ (by omega)) ?_ ?_ rfl (gF _) ?_
        ·simp
        ·simp [g7, g4]
        ·simp
        ·simp
        cases hsd : s.sd with
        | true =>
         rw [hsd, if_pos rfl] at own
         subst own
         simp -implicitDefEqProofs [lkB_app, lX, hsd, w1]
         refine fin _ (weak_mk ?_ (WXS s) ?_ ?_ (GB s) ?_)
         ·simp [w1]
         ·simp
         ·simp [GK s _ (gX s), GK s FM (gM s), GN4, GN7]
         ·simp [GK s _ (gX s)]
        | false =>
         rw [hsd, if_neg (by simp)] at own
         subst own
         simp -implicitDefEqProofs [lkB_app, lX, hsd, w1]
         refine fin _ (weak_mk ?_ (WXS s) ?_ ?_ (GB s) ?_)
         ·simp [w1]
         ·simp
         ·simp [GK s _ (gX s), GK s FM (gM s), GN4, GN7]
         ·simp [GK s _ (gX s)]
       ·obtain rfl : i = x.ru.length := by omega
        have c' : ¬ ((x.ru.length : Int) < x.ru.length) := by omega
        clear hK R2s
        rw [hXR]
        simp -implicitDefEqProofs [c', rul, lkB_app, g7, g4, f7, O1, O3]
        refine onH_mk _ _ (ZN _) ⟨?_, ?_, ?_, ?_, ?_, ?_, ?_⟩ ?_
        iterate 6 (· simp [lkB_app])
        ·simp; exact fun a b hm => GW s _ (by omega) (a, b) (by rw [hXR]; simpa using hm)
        simp -implicitDefEqProofs
      ·exact Nat.zero_le _
      ·refine weak_mk ?_ (wkB_self (GP s)) ?_ ?_ (GB s) ?_
       ·simp
       ·simp
       ·simp [GK s _ (gX s), GK s FM (gM s), GN4, GN7]
       ·simp [GK s _ (gX s)]
     ·have c2' : ¬ (k : Int) < l.length := by omega
      simp -implicitDefEqProofs [al, c2, c2', lkB_app, g7, g4, f7, O1, O3]
      subst hP'
      refine onH_xs (pre := []) (suf := [(.n 7, r.row), (.n 4, XR)]) (q := []) (RR _ (by rw [mM]; rfl)).1 rfl rfl (gX _) ?_ ?_ (gu _) (fun _ => rfl) (GW s _ (by omega)) ?_ ?_ ?_
      ·simp
      ·simp [g7, g4]
      ·simp
      ·simp
      simp -implicitDefEqProofs [lkB_app, g7, g4, f7, O1, O3]
      refine onH_xs (pre := []) (suf := [(.n 7, r.row), (.n 4, XR)]) (q := []) (RR _ (by rw [mM]; rfl)).2 rfl rfl (gX _) ?_ ?_ (gu _) (fun _ => rfl) (GW s _ (by omega)) ?_ ?_ ?_
      ·simp
      ·simp [g7, g4]
      ·simp
      ·simp
      simp -implicitDefEqProofs [lkB_app, g7, g4]
      refine wp_lpk (α := Nat) (fun i => ⟨[(2, u32 t), (4, .ptr (.n 4) 0), (7, .ptr (.n 7) 0), (9, .ptr FM 0), (11, .ptr (.n 35) 0), (17, i6 i)], G s ++ [(.n 7, r.row), (.n 4, XR)], [(.b (.n 35) 10, 3)]⟩) (fun i => i ≤ x.ru.length) (fun i => x.ru.length - i) ?_ 0 ?_ ?_
      ·intro K i hK i1
       by_cases c : i < x.ru.length
       ·have c' : (i : Int) < x.ru.length := by omega
        have w1 : IntKind.i64.wrap ((i : Int) + 1) = (i + 1 : Nat) := by rw [wr] <;> omega
        have il : i < RU.length := by omega
        have ez0 := ruat i c
        have ez : RU[i]'il = (x.ru[i]).row := by rw [List.getElem?_eq_getElem il] at ez0; exact Option.some.inj ez0
        have zl : (x.ru[i]).row.length = 7 := rfl
        obtain ⟨b, e, SP, own⟩ := R2s x.t (by omega) x.ru[i] (Nat.lt_of_le_of_lt (hxf _ (List.getElem_mem c)) (by omega))
        have own := own (List.getElem_mem c) rfl
        have fin := fun σ' hσ => hK (i + 1) σ' (by omega) (by omega) hσ
        clear hK R2s ruat
        generalize (x.ru[i]).row = zr at *
        have z7 : List.take 7 zr = zr := List.take_of_length_le (by omega)
        have GWx : ∀ q, q ≠ 30 → ∀ p ∈ G s ++ [(Id.n 7, r.row), (Id.n 4, [AV.str x.n, .int .u32 x.t, i6 x.g, i6 x.a, i6 x.o, i6 x.c, .sl (x.lb.map Lb.row), .sl RU])], p.1.isNw q = false := by rw [← hXR]; exact GW s
        have WXS : ∀ s, ∀ p ∈ G s ++ [(Id.n 7, r.row), (Id.n 4, XR)], wkB (G s ++ [(Id.n 7, r.row), (Id.n 4, [AV.str x.n, .int .u32 x.t, i6 x.g, i6 x.a, i6 x.o, i6 x.c, .sl (x.lb.map Lb.row), .sl RU])]) p.1 p.2 := fun s => by rw [← hXR]; exact wkB_self (GP s)
        rw [hXR]
        simp -implicitDefEqProofs [c, c', il, ez, ez0, rul, ru7, zl, z7, lkB_app, g7, g4]
        refine onQ_xs (pre := []) (suf := [(.n 7, r.row), (.n 4, [AV.str x.n, .int .u32 x.t, i6 x.g, i6 x.a, i6 x.o, i6 x.c, .sl (x.lb.map Lb.row), .sl RU])]) (q := []) (fr := [4, 7]) (SP _ (by rw [mM]; rfl)).1 rfl rfl (gX _) ?_ ?_ (gu _) (fun _ => rfl) (GWx _ (by omega)) ?_ ?_ rfl (gF _) ?_
        ·simp
        ·simp [g7, g4]
        ·simp
        ·simp
        simp -implicitDefEqProofs [c, c', il, ez, ez0, rul, ru7, zl, z7, lkB_app, g7, g4]
        refine onQ_xs (pre := []) (suf := [(.n 7, r.row), (.n 4, [AV.str x.n, .int .u32 x.t, i6 x.g, i6 x.a, i6 x.o, i6 x.c, .sl (x.lb.map Lb.row), .sl RU])]) (q := []) (fr := [4, 7]) (SP _ (by rw [mM]; rfl)).2 rfl rfl (gX _) ?_ ?_ (gu _) (fun _ => rfl) (GWx _ (by omega)) ?_ ?_ rfl (gF _) ?_
        ·simp
        ·simp [g7, g4]
        ·simp
        ·simp
        cases hsd : s.sd with
        | true =>
         rw [hsd, if_pos rfl] at own
         subst own
         simp -implicitDefEqProofs [lkB_app, lX, hsd, w1]
         refine fin _ (weak_mk ?_ (WXS s) ?_ ?_ (GB s) ?_)
         ·simp [w1]
         ·simp
         ·simp [GK s _ (gX s), GK s FM (gM s), GN4, GN7]
         ·simp [GK s _ (gX s)]
        | false =>
         rw [hsd, if_neg (by simp)] at own
         subst own
         simp -implicitDefEqProofs [lkB_app, lX, hsd, w1]
         refine fin _ (weak_mk ?_ (WXS s) ?_ ?_ (GB s) ?_)
         ·simp [w1]
         ·simp
         ·simp [GK s _ (gX s), GK s FM (gM s), GN4, GN7]
         ·simp [GK s _ (gX s)]
       ·obtain rfl : i = x.ru.length := by omega
        have c' : ¬ ((x.ru.length : Int) < x.ru.length) := by omega
        clear hK R2s
        rw [hXR]
        simp -implicitDefEqProofs [c', rul, lkB_app, g7, g4, f7, O1, O3]
        refine onH_mk _ _ (ZN _) ⟨?_, ?_, ?_, ?_, ?_, ?_, ?_⟩ ?_
        iterate 6 (· simp [lkB_app])
        ·simp; exact fun a b hm => GW s _ (by omega) (a, b) (by rw [hXR]; simpa using hm)
        simp -implicitDefEqProofs
      ·exact Nat.zero_le _
      ·refine weak_mk ?_ (wkB_self (GP s)) ?_ ?_ (GB s) ?_
       ·simp
       ·simp
       ·simp [GK s _ (gX s), GK s FM (gM s), GN4, GN7]
       ·simp [GK s _ (gX s)]
   ·exact ⟨Nat.zero_le _, Nat.zero_le _, ok0⟩
   ·refine weak_mk ?_ ?_ ?_ ?_ (GB mt0) ?_
    ·simp
    ·intro p hp
     rcases List.mem_append.1 hp with hp | hp
     ·rw [hGm] at hp
      rcases List.mem_cons.1 hp with rfl | hp
      ·simp
       exact ⟨rfl, rfl, rfl⟩
      ·have e1 := ne_none hp (mn mt0 35)
       have q := lkB_app (mt mt0) [(Id.n 7, P'), (Id.n 4, XR)] p.1
       rw [mu mt0 p hp] at q
       simp only [wkB, lkB, if_neg e1, q]
       exact wkL_rfl' _
     ·rcases List.mem_cons.1 hp with rfl | hp
      ·simp [mn, lkB_app]
      ·rw [List.mem_singleton] at hp
       subst hp
       simp -implicitDefEqProofs [mn, lkB_app]
    ·simp
    ·simp [GK mt0 _ (gX mt0), GK mt0 FM (gM mt0), GN4, GN7]
    ·simp [GK mt0 _ (gX mt0)]
end Go.Ai
namespace Go.Ai
open Go.Proofs Go.Lib
set_option maxRecDepth 100000
def accCells : List Value := (List.range 32).map fun o => Value.int .u8 (if o % 2 = 0 then (accLo (o / 2) : Int) else (accHi (o / 2) : Int))
def firstCells : List Value := firstTab.map fun z => Value.int .u8 z
theorem first_cell {W : World} (h : VarReads Tryz.prog W "unicode/utf8.first" firstData) (o : Nat) (u : Value) (hu : firstCells[o]? = some u) : W.cell? ⟨2, o, none⟩ = some u ∧ u.oneCell' = true := by
 have hg0 : Tryz.prog.globalNamed "unicode/utf8.first" = some 2 := by kernel_rfl
 have ht0 : (Tryz.prog.globals[2]?).map (·.type) = some 263 := by kernel_rfl
 obtain ⟨g, t, cs, fuel, p, hg, hty, hvar, hd⟩ := h
 obtain rfl := Option.some.inj (hg0.symm.trans hg)
 obtain rfl := Option.some.inj (ht0.symm.trans hty)
 have hcs := cells_of_tab (t := 263) (e := 5) (n := 256) (by kernel_rfl) (by kernel_rfl) (by kernel_rfl) (by kernel_rfl) hd
 refine ⟨?_, ?_⟩
 ·rw [World.var?_cell hg hvar o, ← Array.getElem?_toList, hcs]
  exact hu
 ·obtain ⟨z, _, rfl⟩ := List.mem_map.1 (List.mem_of_getElem? hu)
  rfl
theorem acc_cell {W : World} (h : VarReads Tryz.prog W "unicode/utf8.acceptRanges" acceptData) (o : Nat) (u : Value) (hu : accCells[o]? = some u) : W.cell? ⟨3, o, none⟩ = some u ∧ u.oneCell' = true := by
 have hg0 : Tryz.prog.globalNamed "unicode/utf8.acceptRanges" = some 3 := by kernel_rfl
 have ht0 : (Tryz.prog.globals[3]?).map (·.type) = some 266 := by kernel_rfl
 have hc0 : Tryz.prog.cellsOf 265 = 2 := by kernel_rfl
 obtain ⟨g, t, cs, fuel, p, hg, hty, hvar, hd⟩ := h
 obtain rfl := Option.some.inj (hg0.symm.trans hg)
 obtain rfl := Option.some.inj (ht0.symm.trans hty)
 have ho : o < 32 := by have := (List.getElem?_eq_some_iff.1 hu).1; simpa [accCells] using this
 simp only [accCells, List.getElem?_map, List.getElem?_range ho, Option.map_some, Option.some.injEq] at hu
 subst hu
 refine ⟨?_, by split <;> rfl⟩
 have hi : o / 2 < 16 := by omega
 obtain ⟨fuel', d, q, hdi, he⟩ := array_elem (t := 266) (e := 265) (n := 16) (by kernel_rfl) hd (o / 2) hi
 simp only [List.getElem?_map, List.getElem?_range hi, Option.map_some, Option.some.injEq] at hdi
 subst hdi
 rw [hc0] at he
 obtain ⟨fs, hfs, hsz, hf⟩ : ∃ fs : Array Field, Tryz.prog.underlying 265 = some (.struct fs) ∧ fs.size = 2 ∧ ∀ (i : Nat) (f : Field), fs[i]? = some f → Tryz.prog.underlying f.type = some (.int .u8) ∧ f.offset = i ∧ Tryz.prog.cellsOf f.type = 1 := by
  refine ⟨_, (by kernel_rfl : Tryz.prog.underlying 265 = some (.struct #[Field.mk "lo" 5 0 false "" "unicode/utf8" 0, Field.mk "hi" 5 1 false "" "unicode/utf8" 1])), rfl, fun j f hj => ?_⟩
  match j, hj with
  | 0, hj => simp at hj; subst hj; exact ⟨by kernel_rfl, rfl, by kernel_rfl⟩
  | 1, hj => simp at hj; subst hj; exact ⟨by kernel_rfl, rfl, by kernel_rfl⟩
  | j + 2, hj => simp at hj
 have hcs := ints_of_struct hfs hf (by rw [hc0, hsz]) he
 have e0 := congrArg (·[0]?) hcs
 have e1 := congrArg (·[1]?) hcs
 simp only [List.getElem?_take, List.getElem?_drop] at e0 e1
 rw [World.var?_cell hg hvar o, ← Array.getElem?_toList]
 by_cases hp : o % 2 = 0
 ·rw [if_pos hp]
  have eo : o / 2 * 2 + 0 = o := by omega
  rw [eo] at e0
  simpa using e0
 ·rw [if_neg hp]
  have eo : o / 2 * 2 + 1 = o := by omega
  rw [eo] at e1
  simpa using e1
end Go.Ai
namespace Go.Ai
open Go.Proofs Go.Lib
set_option maxRecDepth 100000
theorem gl_is : gl = [(2, firstCells), (3, accCells)] := by kernel_rfl
theorem u8_glo (W : World) (h : laidMet Tryz.prog [("unicode/utf8.acceptRanges", acceptData), ("unicode/utf8.first", firstData)] W) : ∀ i us, List.lookup i gl = some us → ∀ (o : Nat) (u : Value), us[o]? = some u → W.cell? ⟨i, o, none⟩ = some u ∧ u.oneCell' = true := by
 intro i us hi o u hu
 rw [gl_is] at hi
 simp only [List.lookup] at hi
 split at hi
 ·rename_i e
  have e := eq_of_beq e
  subst e
  obtain rfl := Option.some.inj hi
  exact first_cell (laidMet.reads h (by simp)) o u hu
 ·split at hi
  ·rename_i e
   have e := eq_of_beq e
   subst e
   obtain rfl := Option.some.inj hi
   exact acc_cell (laidMet.reads h (by simp)) o u hu
  ·cases hi
end Go.Ai
