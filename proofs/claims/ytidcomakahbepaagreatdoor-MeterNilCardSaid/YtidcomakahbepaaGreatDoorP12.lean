/- P12: a part of the proof: the rules, or what functions compute. Conditions: as each theorem says. -/
import Derived.Test.YtidcomakahbepaaGreatDoorP10
import Derived.Test.YtidcomakahbepaaGreatDoorP11
import Derived.Test.YtidcomakahbepaaGreatDoorP6
import Derived.Test.YtidcomakahbepaaGreatDoorP9
import Derived.Test.YtidcomakahbepaaGreatDoorP7
set_option linter.unusedSimpArgs false
set_option linter.unusedVariables false
set_option maxRecDepth 20000
namespace Go.Ai
open Go.Proofs
open Go.Proofs
end Go.Ai
namespace Go.Ai
open Go.Proofs
theorem ne_none {l : List (Id × List AV)} {p : Id × List AV} {j : Id} (hp : p ∈ l) (h : lkB l j = none) : ¬ j = p.1 := by
 rintro rfl
 have := lkB_isSome hp
 rw [h] at this; cases this
open Go.Proofs
end Go.Ai
namespace Go.Ai
open Go.Proofs
open Go.Proofs
def R0 (i : Nat) : Id := .ix (.n 1) i
def B0 (i : Nat) : Id := .ix (.n 2) i
theorem ring_rn (a b : Id) (k : Nat) (ha : a = .nw 30 (.n 23)) (hb : b = .nw 30 (.n 21)) : ∃ f g : Id → Id, RnOk f g ∧ f a = R0 k ∧ f b = B0 k ∧ (∀ j, f (.n j) = .n j) ∧ (∀ j, f (.up j) = .up j) ∧ ∀ i, i < k → f (R0 i) = R0 i ∧ f (B0 i) = B0 i := by
 subst ha hb
 have s1 := swp_ok (a := .nw 30 (.n 23)) (b := R0 k) rfl rfl rfl rfl
 have s2 := swp_ok (a := .nw 30 (.n 21)) (b := B0 k) rfl rfl rfl rfl
 refine ⟨_, _, s1.comp s2, ?_, ?_, fun j => ?_, fun j => ?_, fun i hi => ⟨?_, ?_⟩⟩
 ·simp [swp, R0, B0]
 ·simp [swp, R0, B0]
 ·simp [swp, R0, B0]
 ·simp [swp, R0, B0]
 ·have : ¬ i = k := by omega
  simp [swp, R0, B0, this]
 ·have : ¬ i = k := by omega
  simp [swp, R0, B0, this]
theorem nms0 (d : Nat) : Nms (.nw d (.n 16)) (.nw d (.n 40)) (fun i => .nw d (R0 i)) (fun i => .nw d (B0 i)) := by
 refine ⟨rfl, rfl, fun _ => rfl, fun _ => rfl, ?_, ?_, ?_, ?_, ?_, ?_, ?_, ?_, fun _ => rfl, fun _ _ => rfl, fun _ _ => rfl⟩
 ·intro i j e; simp [R0] at e; exact e
 ·intro i j e; simp [B0] at e; exact e
 ·intro i j e; simp [R0, B0] at e
 ·intro i e; simp [R0] at e
 ·intro i e; simp [B0] at e
 ·intro i e; simp [R0] at e
 ·intro i e; simp [B0] at e
 ·intro e; simp at e
theorem nms1 : Nms (.n 16) (.n 40) R0 B0 := by
 refine ⟨rfl, rfl, fun _ => rfl, fun _ => rfl, ?_, ?_, ?_, ?_, ?_, ?_, ?_, ?_, fun _ => rfl, fun _ _ => rfl, fun _ _ => rfl⟩
 ·intro i j e; simp [R0] at e; exact e
 ·intro i j e; simp [B0] at e; exact e
 ·intro i j e; simp [R0, B0] at e
 ·intro i e; simp [R0] at e
 ·intro i e; simp [B0] at e
 ·intro i e; simp [R0] at e
 ·intro i e; simp [B0] at e
 ·intro e; simp at e
theorem mnew_bad (x : Gl) (hf : x.Fit) (hx : goalP x = false) (d : Nat) : SpH Tryz.prog gl 35 d ⟨[.agg x.row], [], []⟩ ⟨.tup [.nilp, i6 2], [], []⟩ := by
 refine h35 rfl ?_
 have G := goal_spec x hf
 rw [hx] at G
 have hids : idsL x.row = [] := rfl
 simp only [Gl.row] at G ⊢
 simp only [inSt, mpL, mpB, mpP, AV.mp]
 simp -implicitDefEqProofs [c35]
 refine onC_mk _ G ?_
 simp -implicitDefEqProofs
 refine postH_r ⟨?_, ?_, ?_, ?_, ?_, ?_⟩ <;> simp -implicitDefEqProofs
theorem purB_app (b : Id) (l m : List (Id × List AV)) : purB (l ++ m) b = purB l b ++ purB m b := by simp [purB]
theorem purB_rgs {b : Id} {R B : Nat → Id} {C : Nat → Id → List AV} {D : Nat → List AV} (hC : ∀ i x, idsL (C i x) = [x]) (hD : ∀ i, idsL (D i) = []) (hb : ∀ i, b ≠ B i) : ∀ n, purB (rgsB R B C D n) b = rgsB R B C D n
 | 0 => rfl
 | n + 1 => by
  rw [rgsB_succ, purB_app, purB_rgs hC hD hb n]
  have e1 : purC b (C n (B n)) = C n (B n) := purC_same (by rw [hC]; simp [hb n])
  have e2 : purC b (D n) = D n := purC_same (by rw [hD]; simp)
  simp only [purB, List.map_cons, List.map_nil, e1, e2]
theorem purB_cons (b d : Id) (c : List AV) (r : List (Id × List AV)) : purB ((d, c) :: r) b = (d, purC b c) :: purB r b := rfl
theorem purC_cons (b : Id) (v : AV) (r : List AV) : purC b (v :: r) = (if b ∈ v.ids then .undef else v) :: purC b r := rfl
theorem purC_nil (b : Id) : purC b [] = [] := rfl
def rgV (k : Nat) : AV := if k = 0 then .nils else .ms (.n 40) 0 k 1
def abx (k : Nat) : List (Id × List AV) := if k = 0 then [] else [(.n 40, ptrC R0 k)]
theorem mpL_app (f : Id → Id) : ∀ a b : List AV, mpL f (a ++ b) = mpL f a ++ mpL f b
 | [], b => rfl
 | x :: r, b => by simp only [List.cons_append, mpL, mpL_app f r b]
theorem ptrC_succ (R : Nat → Id) (n : Nat) : ptrC R (n + 1) = ptrC R n ++ [.ptr (R n) 0] := by unfold ptrC; rw [List.range_succ]; simp
theorem ptrC_congr {R R' : Nat → Id} {n : Nat} (h : ∀ i, i < n → R i = R' i) : ptrC R n = ptrC R' n := by
 unfold ptrC
 exact List.map_congr_left fun i hi => by rw [h i (List.mem_range.1 hi)]
theorem rgsB_names {R B R' B' : Nat → Id} {C : Nat → Id → List AV} {D : Nat → List AV} : ∀ {n : Nat}, (∀ i, i < n → R i = R' i ∧ B i = B' i) → rgsB R B C D n = rgsB R' B' C D n
 | 0, _ => rfl
 | n + 1, h => by rw [rgsB_succ, rgsB_succ, rgsB_names (fun i hi => h i (by omega)), (h n (by omega)).1, (h n (by omega)).2]
theorem mnew_spec (x : Gl) (hf : x.Fit) (hl : x.ru.length ≤ 10) (hx : goalP x = true) (n : Nat) (hn : n ≤ 1000000) (hn1 : 1 ≤ n) (hW : (winP x).length = n) (g : Nat) (hg : x.g = (g : Nat)) (wd : Nat → Nat) (hwd : ∀ i, i < n → (winP x)[i]? = some ((wd i : Nat) : Int) ∧ Wd (wd i) g) (d : Nat) :
  SpH Tryz.prog gl 35 d ⟨[.agg x.row], [], []⟩ ⟨.tup [.ptr (.nw d (.n 16)) 0, i6 0], mtB (.nw d (.n 16)) (.nw d (.n 40)) (fun i => .nw d (R0 i)) (fun i => .nw d (B0 i)) x n (intRows (winP x)) (fun i => wK (wd i) g) (fun i => wW (wd i) g) 0 [] false, []⟩ := by
 refine h35 rfl ?_
 have G := goal_spec x hf
 rw [hx] at G
 have WS := win_spec x hl
 have hrow : x.row = [.str x.n, .int .u32 x.t, i6 x.g, i6 x.a, i6 x.o, i6 x.c, .sl (x.lb.map Lb.row), .sl (x.ru.map Ru.row)] := rfl
 have hWl : (intRows (winP x)).length = n := by rw [intRows_len]; exact hW
 have hW1 := intRows_one (winP x)
 have hWa : ∀ k, (hk : k < n) → (intRows (winP x))[k]'(hWl ▸ hk) = [i6 ((wd k : Nat) : Int)] := fun k hk => by
  have h1 := (hwd k hk).1
  have hk' : k < (winP x).length := by omega
  rw [List.getElem?_eq_getElem hk'] at h1
  simp only [intRows, List.getElem_map, Option.some.inj h1]
 have RN := fun k (hk : k < n) e => rnew_spec (wd k) g (hwd k hk).2 e
 generalize intRows (winP x) = W at *
 rw [hrow, hg] at G WS ⊢
 simp only [inSt, mpL, mpB, mpP, AV.mp]
 simp -implicitDefEqProofs [c35]
 refine onC_mk _ G ?_
 simp -implicitDefEqProofs
 refine onC_mk _ WS ?_
 simp -implicitDefEqProofs
 refine wp_lpr (α := Nat) (fun k => ⟨[(1, .ptr (.n 1) 0), (4, .ptr (.n 16) 0), (20, .sl W), (21, i6 n), (22, i6 k)], (.n 1, [.str x.n, .int .u32 x.t, i6 g, i6 x.a, i6 x.o, i6 x.c, .sl (x.lb.map Lb.row), .sl (x.ru.map Ru.row)]) :: (.n 16, [.str x.n, .int .u32 x.t, i6 g, i6 x.a, i6 x.o, i6 x.c, .sl (x.lb.map Lb.row), .sl (x.ru.map Ru.row), .sl W, rgV k, i6 0, i6 0, u 0, u 0, i6 0, .bool false]) :: (abx k ++ rgsB R0 B0 (rgC (fun i => wK (wd i) g) (fun i => wW (wd i) g) 0 []) (rgD (fun i => wK (wd i) g) (fun i => wW (wd i) g) 0 []) k), []⟩) (fun k => k ≤ n) (fun k => n - k) ?_ 0 ?_ ?_
 ·intro K' k hK' k1
  by_cases c : k < n
  ·have c' : (k : Int) < n := by omega
   have w1 : IntKind.i64.wrap ((k : Int) + 1) = (k + 1 : Nat) := by rw [wr] <;> omega
   have wl : k < W.length := by omega
   have ew := hWa k c
   have ew0 : W[k]? = some [i6 ((wd k : Nat) : Int)] := by rw [List.getElem?_eq_getElem wl, ew]
   have RNk := RN k c 30
   obtain ⟨f, f', hok, fa, fb, fn, fu, fR⟩ := ring_rn _ _ k rfl rfl
   have hRR : ∀ i j, (R0 i = R0 j) = (i = j) := fun i j => by simp [R0]
   have hBB : ∀ i j, (B0 i = B0 j) = (i = j) := fun i j => by simp [B0]
   have hRB : ∀ i j, ¬ R0 i = B0 j := fun i j => nms1.rb i j
   have hBR : ∀ i j, ¬ B0 i = R0 j := fun i j e => nms1.rb j i e.symm
   have hnR : ∀ s i, ¬ Id.n s = R0 i := fun s i e => by simp [R0] at e
   have hnB : ∀ s i, ¬ Id.n s = B0 i := fun s i e => by simp [B0] at e
   have hRn : ∀ s i, ¬ R0 i = Id.n s := fun s i e => by simp [R0] at e
   have hBn : ∀ s i, ¬ B0 i = Id.n s := fun s i e => by simp [B0] at e
   have hnn : ∀ C D s, lkB (rgsB R0 B0 C D k) (.n s) = none := fun C D s => rgsB_none (hnR s) (hnB s) k
   have hmr : mpL f (rgL (.nw 30 (.n 21)) (wK (wd k) g) (wW (wd k) g) 0 0 0 0) = rgL (B0 k) (wK (wd k) g) (wW (wd k) g) 0 0 0 0 := by
    simp only [rgL, mpL, AV.mp, fb]
   have hrg : ∀ b, ringC b (wK (wd k) g) (wW (wd k) g) 0 [] = rgL b (wK (wd k) g) (wW (wd k) g) 0 0 0 0 := fun b => by
    rw [ringC_nil, Nat.zero_div]
   have hbk : bkC (wK (wd k) g) (wW (wd k) g) 0 [] = bkC (wK (wd k) g) (wW (wd k) g) (0 / wW (wd k) g) [] := by rw [Nat.zero_div]
   have hbi : idsL (bkC (wK (wd k) g) (wW (wd k) g) 0 []) = [] := cellsF_ids _ _ _
   have hbm := mpL_noids (f := f) hbi
   have lt' : ∀ i, i < k + 1 → lkB (rgsB R0 B0 (rgC (fun i => wK (wd i) g) (fun i => wW (wd i) g) 0 []) (rgD (fun i => wK (wd i) g) (fun i => wW (wd i) g) 0 []) (k + 1)) (R0 i) = some (rgC (fun i => wK (wd i) g) (fun i => wW (wd i) g) 0 [] i (B0 i)) ∧ lkB (rgsB R0 B0 (rgC (fun i => wK (wd i) g) (fun i => wW (wd i) g) 0 []) (rgD (fun i => wK (wd i) g) (fun i => wW (wd i) g) 0 []) (k + 1)) (B0 i) = some (rgD (fun i => wK (wd i) g) (fun i => wW (wd i) g) 0 [] i) :=
    fun i hi => ⟨rgsB_R nms1 (k + 1) hi, rgsB_B nms1 (k + 1) hi⟩
   have hab : abx (k + 1) = [(.n 40, ptrC R0 (k + 1))] := if_neg (by omega)
   have hrv : rgV (k + 1) = .ms (.n 40) 0 (k + 1) 1 := if_neg (by omega)
   have fin := fun σ' hσ => hK' (k + 1) σ' (by omega) (by omega) (.inr ⟨f, f', hok, hσ⟩)
   simp only [hab, hrv] at fin
   have rC : rgC (fun i => wK (wd i) g) (fun i => wW (wd i) g) 0 [] k (B0 k) = rgL (B0 k) (wK (wd k) g) (wW (wd k) g) 0 0 0 0 := hrg _
   have rD : rgD (fun i => wK (wd i) g) (fun i => wW (wd i) g) 0 [] k = bkC (wK (wd k) g) (wW (wd k) g) 0 [] := hbk.symm
   have cids := rgC_ids (fun i => wK (wd i) g) (fun i => wW (wd i) g) 0 []
   have dids := rgD_ids (fun i => wK (wd i) g) (fun i => wW (wd i) g) 0 []
   have cmp := fun f i b => rgC_mp f (fun i => wK (wd i) g) (fun i => wW (wd i) g) 0 [] i b
   have dmp := fun f i => rgD_mp f (fun i => wK (wd i) g) (fun i => wW (wd i) g) 0 [] i
   simp only [hrg] at RNk
   clear hK' RN hWa hwd hbk
   generalize rgC (fun i => wK (wd i) g) (fun i => wW (wd i) g) 0 [] = C at *
   generalize rgD (fun i => wK (wd i) g) (fun i => wW (wd i) g) 0 [] = D at *
   generalize bkC (wK (wd k) g) (wW (wd k) g) 0 [] = X at *
   have hpt : mpL f (ptrC R0 k ++ [.ptr (.nw 30 (.n 23)) 0]) = ptrC R0 (k + 1) := by
    rw [mpL_app, ptrC_mp, ptrC_succ, ptrC_congr (fun i hi => (fR i hi).1)]
    simp only [mpL, AV.mp, fa]
   have hmb : mpB f (rgsB R0 B0 C D k) = rgsB R0 B0 C D k := by rw [mpB_rgs (cmp f) (dmp f), rgsB_names fR]
   have hlim : lim = 140737488355328 := rfl
   by_cases k0 : k = 0
   ·subst k0
    have rg0 : rgsB R0 B0 C D 0 = [] := rfl
    have pt0 : ptrC R0 0 = [] := rfl
    rw [pt0] at hpt
    simp only [List.nil_append] at hpt
    simp -implicitDefEqProofs [c, c', ew, ew0, wl, hWl, hW1, rgV, abx, rg0]
    refine onH_mk _ _ RNk ⟨?_, ?_, ?_, ?_, ?_, ?_, ?_⟩ ?_
    iterate 7 (· simp)
    have p1 : ptrC R0 1 = [.ptr (R0 0) 0] := rfl
    simp -implicitDefEqProofs [rg0, hlim, w1]
    refine fin _ (weak_mk ?_ ?_ ?_ ?_ ?_ ?_)
    ·simp [St.rn, fn, fu, fa, fb, hnR, hnB, hRn, hBn, hRR, hBB, hRB, hBR, hmr, hbm, hpt, rC, rD, w1, w64_1]
    ·intro p hp
     rcases List.mem_cons.1 hp with rfl | hp
     ·simp [St.rn, fn, fu, fa, fb, hnR, hnB, hRn, hBn, hRR, hBB, hRB, hBR, hmr, hbm, hpt, rC, rD]
     ·rcases List.mem_cons.1 hp with rfl | hp
      ·simp [St.rn, fn, fu, fa, fb, hnR, hnB, hRn, hBn, hRR, hBB, hRB, hBR, hmr, hbm, hpt, rC, rD]
      ·rcases List.mem_cons.1 hp with rfl | hp
       ·simp [St.rn, fn, fu, fa, fb, hnR, hnB, hRn, hBn, hRR, hBB, hRB, hBR, hmr, hbm, hpt, p1, rC, rD]
       ·obtain ⟨i, hi, e⟩ := mem_rgsB.1 hp
        by_cases hik : i = 0
        ·subst hik
         rcases e with rfl | rfl
         ·simp [St.rn, fn, fu, fa, fb, hnR, hnB, hRn, hBn, hRR, hBB, hRB, hBR, hmr, hbm, hpt, rC, rD, hmb, lkB_rmB]
         ·simp [St.rn, fn, fu, fa, fb, hnR, hnB, hRn, hBn, hRR, hBB, hRB, hBR, hmr, hbm, hpt, rC, rD, hmb, lkB_rmB]
        ·exfalso; omega
    ·simp
    ·simp [hnR, hnB]
    ·intro p hp
     rcases List.mem_cons.1 hp with rfl | hp
     ·simp
     ·rcases List.mem_cons.1 hp with rfl | hp
      ·simp
      ·rcases List.mem_cons.1 hp with rfl | hp
       ·intro j hj
        obtain ⟨i, hi, rfl⟩ := ptrC_ids hj
        simp -implicitDefEqProofs [hnR, lt' i hi]
       ·obtain ⟨i, hi, e⟩ := mem_rgsB.1 hp
        intro j hj
        rcases e with rfl | rfl
        ·simp only [cids, List.mem_singleton] at hj
         subst hj
         simp -implicitDefEqProofs [hnB, lt' i hi]
        ·simp only [dids] at hj
         simp at hj
    ·simp
   ·have rv : rgV k = .ms (.n 40) 0 k 1 := if_neg k0
    have ab : abx k = [(.n 40, ptrC R0 k)] := if_neg k0
    have pl := ptrC_len R0 k
    have hpu := purB_rgs (b := .n 40) (n := k) cids dids (R := R0) (B := B0) (hnB 40)
    have pi : ∀ s, ¬ Id.n s ∈ idsL (ptrC R0 k) := fun s q => by
     obtain ⟨i, _, e⟩ := ptrC_ids q
     exact hnR _ _ e
    have l1 : (k + 1) * 8 ≤ 140737488355328 := by omega
    simp only [rv, ab]
    simp -implicitDefEqProofs [c, c', ew, ew0, wl, hWl, hW1, hnn]
    refine onH_mk _ _ RNk ⟨?_, ?_, ?_, ?_, ?_, ?_, ?_⟩ ?_
    iterate 6 (· simp)
    ·simp
     intro a b hm
     obtain ⟨i, _, e | e⟩ := mem_rgsB.1 hm <;> cases e <;> rfl
    have hpr : purC (.n 40) (rgL (.nw 30 (.n 21)) (wK (wd k) g) (wW (wd k) g) 0 0 0 0) = rgL (.nw 30 (.n 21)) (wK (wd k) g) (wW (wd k) g) 0 0 0 0 := purC_same (by simp [rgL, idsL, AV.ids])
    have hpX : purC (.n 40) X = X := purC_same (by rw [hbi]; simp)
    have hpP : purC (.n 40) (ptrC R0 k) = ptrC R0 k := purC_same (pi 40)
    have hrm : rmB (rgsB R0 B0 C D k) (.n 40) = rgsB R0 B0 C D k := rgsB_rm (hnR 40) (hnB 40) k
    simp -implicitDefEqProofs [hlim, w1, hnn]
    simp -implicitDefEqProofs [purB_cons, purC_cons, purC_nil, hpr, hpX, hpP, hpu, hrm, hnn, pl, pi 40, l1, AV.ids]
    refine fin _ (weak_mk ?_ ?_ ?_ ?_ ?_ ?_)
    ·simp [St.rn, fn, fu, fa, fb, hnR, hnB, hRn, hBn, hRR, hBB, hRB, hBR, hmr, hbm, hpt, rC, rD, w1, w64_1]
    ·intro p hp
     rcases List.mem_cons.1 hp with rfl | hp
     ·simp [St.rn, fn, fu, fa, fb, hnR, hnB, hRn, hBn, hRR, hBB, hRB, hBR, hmr, hbm, hpt, rC, rD]
     ·rcases List.mem_cons.1 hp with rfl | hp
      ·simp [St.rn, fn, fu, fa, fb, hnR, hnB, hRn, hBn, hRR, hBB, hRB, hBR, hmr, hbm, hpt, rC, rD]
      ·rcases List.mem_cons.1 hp with rfl | hp
       ·simp [St.rn, fn, fu, fa, fb, hnR, hnB, hRn, hBn, hRR, hBB, hRB, hBR, hmr, hbm, hpt, rC, rD]
       ·obtain ⟨i, hi, e⟩ := mem_rgsB.1 hp
        by_cases hik : i = k
        ·subst hik
         rcases e with rfl | rfl
         ·simp [St.rn, fn, fu, fa, fb, hnR, hnB, hRn, hBn, hRR, hBB, hRB, hBR, hmr, hbm, hpt, rC, rD, hmb, lkB_rmB]
         ·simp [St.rn, fn, fu, fa, fb, hnR, hnB, hRn, hBn, hRR, hBB, hRB, hBR, hmr, hbm, hpt, rC, rD, hmb, lkB_rmB]
        ·have hi2 : i < k := by omega
         have hik' : ¬ k = i := fun q => hik q.symm
         rcases e with rfl | rfl
         ·simp [St.rn, fn, fu, fa, fb, hnR, hnB, hRn, hBn, hRR, hBB, hRB, hBR, hmr, hbm, hpt, rC, rD, hmb, lkB_rmB, hik, hik', rgsB_R nms1 k hi2]
         ·simp [St.rn, fn, fu, fa, fb, hnR, hnB, hRn, hBn, hRR, hBB, hRB, hBR, hmr, hbm, hpt, rC, rD, hmb, lkB_rmB, hik, hik', rgsB_B nms1 k hi2]
    ·simp
    ·simp [hnR, hnB]
    ·intro p hp
     rcases List.mem_cons.1 hp with rfl | hp
     ·simp
     ·rcases List.mem_cons.1 hp with rfl | hp
      ·simp
      ·rcases List.mem_cons.1 hp with rfl | hp
       ·intro j hj
        obtain ⟨i, hi, rfl⟩ := ptrC_ids hj
        simp -implicitDefEqProofs [hnR, lt' i hi]
       ·obtain ⟨i, hi, e⟩ := mem_rgsB.1 hp
        intro j hj
        rcases e with rfl | rfl
        ·simp only [cids, List.mem_singleton] at hj
         subst hj
         simp -implicitDefEqProofs [hnB, lt' i hi]
        ·simp only [dids] at hj
         simp at hj
    ·simp
  ·obtain rfl : k = n := by omega
   have c' : ¬ (k : Int) < k := by omega
   have c2 : ¬ k < k := Nat.lt_irrefl _
   have rv : rgV k = .ms (.n 40) 0 k 1 := if_neg (by omega)
   have ab : abx k = [(.n 40, ptrC R0 k)] := if_neg (by omega)
   have PS := mperiod_spec (.n 16) (.n 40) ⟨rfl, rfl, by simp, fun _ => rfl⟩ x k W 0 0 0 0 0 false 0 (by omega) 48 rfl
   simp only [mtC, hg] at PS
   have cids := rgC_ids (fun i => wK (wd i) g) (fun i => wW (wd i) g) 0 []
   have dids := rgD_ids (fun i => wK (wd i) g) (fun i => wW (wd i) g) 0 []
   have cmp := fun f i b => rgC_mp f (fun i => wK (wd i) g) (fun i => wW (wd i) g) 0 [] i b
   have dmp := fun f i => rgD_mp f (fun i => wK (wd i) g) (fun i => wW (wd i) g) 0 [] i
   have hpz : pcG x.c 0 [] = 0 ∧ pcT x.c 0 [] = 0 := by unfold pcG pcT; split <;> exact ⟨rfl, rfl⟩
   simp only [rv, ab]
   simp only [mtB, mtC, hpz, hg]
   clear hK' RN hWa hwd
   generalize rgC (fun i => wK (wd i) g) (fun i => wW (wd i) g) 0 [] = C at *
   generalize rgD (fun i => wK (wd i) g) (fun i => wW (wd i) g) 0 [] = D at *
   simp -implicitDefEqProofs [c', c2]
   refine onH_mk _ _ PS ⟨?_, ?_, ?_, ?_, ?_, ?_, ?_⟩ ?_
   iterate 6 (· simp)
   ·simp
    intro a b hm
    obtain ⟨i, _, e | e⟩ := mem_rgsB.1 hm <;> cases e <;> rfl
   have hrm := rgsB_rm (R := R0) (B := B0) (C := C) (D := D) (x := .n 16) (nms1.mr) (nms1.mb) k
   have i1 : ∀ i, (Id.nw d (R0 i)).inn d = R0 i := fun i => by simp [R0]
   have i2 : ∀ i, (Id.nw d (B0 i)).inn d = B0 i := fun i => by simp [B0]
   have hpi : mpL (Id.inn d) (ptrC (fun i => .nw d (R0 i)) k) = ptrC R0 k := by
    rw [ptrC_mp]; exact ptrC_congr fun i _ => i1 i
   have hnR : ∀ s i, ¬ Id.n s = R0 i := fun s i e => by simp [R0] at e
   have hnB : ∀ s i, ¬ Id.n s = B0 i := fun s i e => by simp [B0] at e
   have n0 := nms0 d
   have o1 := n0.mr
   have o2 := n0.mb
   have o3 := n0.ar
   have o4 := n0.ab
   simp -implicitDefEqProofs [hrm]
   refine postH_r ⟨?_, ?_, ?_, ?_, ?_, ?_⟩
   ·simp
   ·simp
   ·intro p hp
    rcases List.mem_cons.1 hp with rfl | hp
    ·simp
    ·rcases List.mem_cons.1 hp with rfl | hp
     ·simp [hpi]
     ·obtain ⟨i, hi, e⟩ := mem_rgsB.1 hp
      rcases e with rfl | rfl
      ·refine ⟨by rw [i1]; rfl, ?_⟩
       simp only [obx, i1]
       simp -implicitDefEqProofs [hnR, rgsB_R nms1 k hi, cmp, i2]
      ·refine ⟨by rw [i2]; rfl, ?_⟩
       simp only [obx, i2]
       simp -implicitDefEqProofs [hnB, rgsB_B nms1 k hi, dmp]
   ·intro p hp
    rcases List.mem_cons.1 hp with rfl | hp
    ·simp
    ·rcases List.mem_cons.1 hp with rfl | hp
     ·intro j hj
      obtain ⟨i, hi, rfl⟩ := ptrC_ids hj
      refine ⟨rfl, fun _ => ?_⟩
      have := rgsB_R n0 (C := C) (D := D) k hi
      simp only [lkB]
      rw [if_neg (o1 i), if_neg (o3 i), this]; rfl
     ·obtain ⟨i, hi, e⟩ := mem_rgsB.1 hp
      intro j hj
      rcases e with rfl | rfl
      ·simp only [cids, List.mem_singleton] at hj
       subst hj
       refine ⟨rfl, fun _ => ?_⟩
       have := rgsB_B n0 (C := C) (D := D) k hi
       simp only [lkB]
       rw [if_neg (o2 i), if_neg (o4 i), this]; rfl
      ·simp only [dids] at hj
       simp at hj
   ·simp
   ·simp
 ·exact Nat.zero_le _
 ·have rg0 : rgsB R0 B0 (rgC (fun i => wK (wd i) g) (fun i => wW (wd i) g) 0 []) (rgD (fun i => wK (wd i) g) (fun i => wW (wd i) g) 0 []) 0 = [] := rfl
  simp only [rg0, rgV, abx, if_true, List.append_nil]
  refine weak_mk ?_ ?_ ?_ ?_ ?_ ?_ <;> simp -implicitDefEqProofs [hWl]
end Go.Ai
