/- P13: a part of the proof: the rules, or what functions compute. Conditions: as each theorem says. -/
import Derived.Test.YtidcomakahbepaaGreatDoorP12
import Derived.Test.YtidcomakahbepaaGreatDoorP8
import Derived.Test.YtidcomakahbepaaGreatDoorP11
import Derived.Test.YtidcomakahbepaaGreatDoorP9
set_option linter.unusedSimpArgs false
set_option linter.unusedVariables false
set_option maxRecDepth 20000
namespace Go.Ai
open Go.Proofs
def fR (d : Nat) (i : Nat) : Id := .nw d (.nw 9 (R0 i))
theorem mt_n {M A : Id} {R B : Nat → Id} (x : Gl) (n : Nat) (W : List (List AV)) (K w : Nat → Nat) (t : Nat) (L : List Ev) (sd : Bool) (j : Id) (h1 : M ≠ j) (h2 : A ≠ j) (h3 : ∀ i, j ≠ R i) (h4 : ∀ i, j ≠ B i) : lkB (mtB M A R B x n W K w t L sd) j = none := by
 unfold mtB
 simp only [lkB]
 rw [if_neg h1, if_neg h2]
 exact rgsB_none h3 h4 n
open Go.Proofs
def xa : Gl := ⟨[97], 5, 10, 10, 0, 0, [], [⟨[114], false, 100, 10, 1, 0, 0⟩]⟩
theorem xa_goal : goalP xa = true := by decide +kernel
theorem xa_win : winP xa = [10, 100] := by
 refine rising_ext (winP_rising xa) (by unfold Rising; decide) fun z => ?_
 rw [winP_mem]
 have e : allW xa = [100, 10] := by decide +kernel
 rw [e]
 simp only [List.mem_cons, List.not_mem_nil, or_false]
 exact or_comm
theorem xa_k : kN xa 0 = 1 ∧ kN xa 1 = 10 ∧ wN xa 0 = 10 ∧ wN xa 1 = 10 := by
 unfold kN wN wdN gN
 rw [xa_win]
 decide +kernel
theorem xa_fit : xa.Fit := ⟨by decide, by decide, by decide, fun y hy => by simp [xa] at hy, fun y hy => by
 simp only [xa, List.mem_singleton] at hy
 subst hy; simp [ruFit]⟩
theorem xa_room : roomB 0 2 (kN xa) (wN xa) 100 [] 90 2 = true := by
 obtain ⟨k0, k1, w0, w1⟩ := xa_k
 have e : List.range 2 = [0, 1] := rfl
 unfold roomB okW
 rw [e]
 simp only [List.all_cons, List.all_nil, k0, k1, w0, w1]
 decide +kernel
theorem xa_see : wndV (winP xa) (kN xa) (wN xa) 100 [(90, 1, 2)] false 100 = .tup [.agg [u 1, u 2], i6 0] := by
 obtain ⟨k0, k1, w0, w1⟩ := xa_k
 have b : bsI [10, 100] 100 = 1 := by decide +kernel
 have m : (100 : Int) ∈ ([10, 100] : List Int) := by decide
 have g : sumG 10 10 (100 / 10) [(90, 1, 2)] = 1 := by decide +kernel
 have t : sumT 10 10 (100 / 10) [(90, 1, 2)] = 2 := by decide +kernel
 unfold wndV
 rw [xa_win, b, k1, w1, if_pos m, if_neg (by simp), g, t]
theorem xa_ok0 : MtOk xa 2 (kN xa) (wN xa) ⟨100, [], false⟩ 0 := by
 have := mvT_ok (mt0_ok xa 2 (kN xa) (wN xa)) 100
 exact this
open Go.Proofs
theorem rmBs_ps {pre l suf : List (Id × List AV)} (h1 : ∀ p ∈ pre, lkB l p.1 = none) (h2 : ∀ p ∈ suf, lkB l p.1 = none) : rmBs (pre ++ (l ++ suf)) l = pre ++ suf := by
 rw [rmBs_filter, List.filter_append, List.filter_append]
 have e1 : pre.filter (fun p => !(lkB l p.1).isSome) = pre := List.filter_eq_self.2 fun p hp => by rw [h1 p hp]; rfl
 have e3 : suf.filter (fun p => !(lkB l p.1).isSome) = suf := List.filter_eq_self.2 fun p hp => by rw [h2 p hp]; rfl
 have e2 : l.filter (fun p => !(lkB l p.1).isSome) = [] := List.filter_eq_nil_iff.2 fun p hp => by
  have : (lkB l p.1).isSome := lkB_isSome hp
  simp [this]
 rw [e1, e2, e3, List.nil_append]
section
variable {P : Program} {GL : List (Nat × List Value)} {K : St → Prop} {σ : St} {f d : Nat} {xs : List X} {pre l l' suf : List (Id × List AV)} {vs : List AV} {r : AV} {X : Id} {q : List (Pl × Nat)}
theorem lk_ps (hpre : ∀ p ∈ pre, lkB l p.1 = none) (hu : ∀ p ∈ l, lkB l p.1 = some p.2) : ∀ p ∈ l, lkB (pre ++ (l ++ suf)) p.1 = some p.2 := by
 intro p hp
 rw [← List.append_assoc]
 exact lk_mid hu hpre p hp
theorem callOk_ps (hσ : σ.bx = pre ++ (l ++ suf)) (hpre : ∀ p ∈ pre, lkB l p.1 = none) (hu : ∀ p ∈ l, lkB l p.1 = some p.2) (hkeep : ∀ i, (lkB l' i).isSome = (lkB l i).isSome) (hf : ∀ p ∈ σ.bx, p.1.isNw d = false) (hv : wkL (xs.map σ.v) vs) :
  CallOk d σ xs ⟨vs, l, []⟩ ⟨r, l', []⟩ := by
 refine ⟨hv, fun p hp => ?_, by simp, trivial, fun p hp => ?_, fun p hp => ?_, hf⟩
 ·have h3 := lk_ps (suf := suf) hpre hu p hp
  rw [← hσ] at h3
  simp only [wkB, h3]; exact wkL_rfl' _
 ·simp only [hkeep, hu p hp]; rfl
 ·left; simp only [← hkeep]; exact lkB_isSome hp
theorem callSt_ps (hσ : σ.bx = pre ++ (l ++ suf)) (hpre : ∀ p ∈ pre, lkB l p.1 = none) (hsuf : ∀ p ∈ suf, lkB l p.1 = none) (hpm : ∀ p ∈ σ.pm, ∀ e ∈ p.1.ids, lkB l e = none) : callSt d σ xs ⟨vs, l, []⟩ ⟨r, l', []⟩ = ⟨(d, r) :: σ.e, l' ++ (pre ++ suf), dlS σ.pm d⟩ := by
 simp only [callSt, retP, dlXs, List.nil_append]
 rw [hσ, rmBs_ps hpre hsuf, dlBs_off hpm]
theorem onH_ps (S : SpH P GL f d ⟨vs, l, []⟩ ⟨r, l', []⟩) (hσ : σ.bx = pre ++ (l ++ suf)) (hpre : ∀ p ∈ pre, lkB l p.1 = none) (hsuf : ∀ p ∈ suf, lkB l p.1 = none) (hu : ∀ p ∈ l, lkB l p.1 = some p.2) (hkeep : ∀ i, (lkB l' i).isSome = (lkB l i).isSome)
  (hf : ∀ p ∈ σ.bx, p.1.isNw d = false) (hpm : ∀ p ∈ σ.pm, ∀ e ∈ p.1.ids, lkB l e = none) (hv : wkL (xs.map σ.v) vs) (hk : K ⟨(d, r) :: σ.e, l' ++ (pre ++ suf), dlS σ.pm d⟩) : onH (SpH P GL) f d xs K σ := by
 refine onH_mk _ _ S (callOk_ps hσ hpre hu hkeep hf hv) ?_
 rw [callSt_ps hσ hpre hsuf hpm]; exact hk
theorem lkB_filter (q : Id → Bool) (i : Id) : ∀ l : List (Id × List AV), lkB (l.filter fun p => q p.1) i = if q i = true then lkB l i else none
 | [] => by simp [lkB]
 | (d, c) :: l => by
  rw [List.filter_cons]
  have ih := lkB_filter q i l
  by_cases h : q d = true
  ·simp only [h, if_true, lkB]
   by_cases e : d = i
   ·subst e; simp [h]
   ·rw [if_neg e, if_neg e, ih]
  ·simp only [h, Bool.false_eq_true, if_false]
   rw [ih]
   by_cases e : d = i
   ·subst e; simp [h]
   ·simp only [lkB]; rw [if_neg e]
theorem onH_any (S : SpH P GL f d ⟨vs, l, []⟩ ⟨r, l, []⟩) (hb : ∀ p ∈ l, lkB σ.bx p.1 = some p.2) (hf : ∀ p ∈ σ.bx, p.1.isNw d = false) (hpm : ∀ p ∈ σ.pm, ∀ e ∈ p.1.ids, lkB l e = none) (hv : wkL (xs.map σ.v) vs)
  (hk : ∀ bx', (∀ i, lkB bx' i = lkB σ.bx i) → (∀ p ∈ bx', p ∈ σ.bx) → K ⟨(d, r) :: σ.e, bx', dlS σ.pm d⟩) : onH (SpH P GL) f d xs K σ := by
 refine onH_mk _ _ S ⟨hv, fun p hp => ?_, by simp, trivial, fun p hp => lkB_isSome hp, fun p hp => .inl (lkB_isSome hp), hf⟩ ?_
 ·simp only [wkB, hb p hp]; exact wkL_rfl' _
 ·simp only [callSt, retP, dlXs, List.nil_append]
  rw [dlBs_off hpm]
  refine hk _ (fun i => ?_) fun p hp => ?_
  rotate_left
  ·rcases List.mem_append.1 hp with hp | hp
   ·exact lkB_mem _ _ _ (hb p hp)
   ·rw [rmBs_filter] at hp
    exact (List.mem_filter.1 hp).1
  rw [lkB_app, rmBs_filter, lkB_filter (fun j => !(lkB l j).isSome)]
  cases h : lkB l i with
  | some c => exact (hb _ (lkB_mem _ _ _ h)).symm
  | none => simp
end
open Go.Proofs
theorem sph_nz {P : Program} {GL : List (Nat × List Value)} {f d : Nat} {vs us : List AV} {bx : List (Id × List AV)} {pm : List (Pl × Nat)} {O : Out} (h : SpH P GL f d ⟨us, bx, pm⟩ O) (e : nzL vs = us) : SpH P GL f d ⟨vs, bx, pm⟩ O := by
 subst e
 rw [sph_eq] at h ⊢
 intro S gb w ws hp hr hg hn
 have this := h S gb w ws (PRlist_nz _ _ hp) hr hg hn
 have hm : ∀ v w', (∃ S' gb', PostR d ⟨nzL vs, bx, pm⟩ O S gb (fun t => ws.getD t undef) w S' gb' v w') → ∃ S' gb', PostR d ⟨vs, bx, pm⟩ O S gb (fun t => ws.getD t undef) w S' gb' v w' := by
  rintro v w' ⟨S', gb', q⟩
  exact ⟨S', gb', q.bw, q.ext, q.le, q.same, q.nw, q.r, q.hr, q.newb, q.newo⟩
 unfold Does at this ⊢
 split at this
 ·exact hm _ _ this
 ·exact this.mono (fun e w' ⟨v, h1, h2⟩ => ⟨v, h1, hm _ _ h2⟩)
 ·exact this
theorem mawake_spec : Sp Tryz.prog gl 12 [] (.bool true) := by
 refine s12 rfl rfl ?_
 have hk : KwOk 2 (kN xa) (wN xa) := by
  have := goal_k xa_goal (by decide)
  rw [xa_win] at this; exact this
 have hw := goal_wd xa_goal (by decide)
 have hn2 : (winP xa).length = 2 := by rw [xa_win]; rfl
 have N1 : SpH Tryz.prog gl 35 14 ⟨[.agg xa.row], [], []⟩ ⟨.tup [.ptr (.nw 14 (.n 16)) 0, i6 0], mtB (.nw 14 (.n 16)) (.nw 14 (.n 40)) (fun i => .nw 14 (R0 i)) (fun i => .nw 14 (B0 i)) xa 2 (intRows (winP xa)) (kN xa) (wN xa) 0 [] false, []⟩ :=
  mnew_spec xa xa_fit (by decide) xa_goal 2 (by omega) (by omega) hn2 (gN xa) hw.gg (wdN xa) (by have := hw.wd; rw [hn2] at this; exact this) 14
 have nm := nms0 14
 have O0 := (mt0_ok xa 2 (kN xa) (wN xa))
 have M1 := mmove_spec (.nw 14 (.n 16)) (.nw 14 (.n 40)) _ _ nm xa 2 (by omega) (intRows (winP xa)) (kN xa) (wN xa) hk 0 100 [] O0.L false (by omega) (by omega) 18 rfl
 have A1 := madd_spec (.nw 14 (.n 16)) (.nw 14 (.n 40)) _ _ nm xa (by decide) 2 (by omega) (intRows (winP xa)) (kN xa) (wN xa) hk 100 [] xa_ok0.L xa_ok0.P (by omega) 90 1 2 (by omega) (by decide +kernel) xa_room 21 rfl
 have A2 := madd_bad (.nw 14 (.n 16)) (.nw 14 (.n 40)) nm.pa xa (by decide) 2 (intRows (winP xa)) (pF xa.c 100) (pT xa.c 100) (pcG xa.c 100 [(90, 1, 2)]) (pcT xa.c 100 [(90, 1, 2)]) 100 (by omega) false 89 0 0 (by decide +kernel) 24 rfl
 have A3 := madd_bad (.nw 14 (.n 16)) (.nw 14 (.n 40)) nm.pa xa (by decide) 2 (intRows (winP xa)) (pF xa.c 100) (pT xa.c 100) (pcG xa.c 100 [(90, 1, 2)]) (pcT xa.c 100 [(90, 1, 2)]) 100 (by omega) false 101 0 0 (by decide +kernel) 27 rfl
 have W1 := mwindow_spec (.nw 14 (.n 16)) (.nw 14 (.n 40)) _ _ nm xa 2 (by omega) (winP xa) hn2 (winP_rising xa) (kN xa) (wN xa) 100 [(90, 1, 2)] false 100 30 rfl
 rw [xa_see] at W1
 have e2 : addE xa.a 100 89 0 0 = 13 := by decide +kernel
 have e3 : addE xa.a 100 101 0 0 = 14 := by decide +kernel
 rw [e2] at A2
 rw [e3] at A3
 have huq := fun t L sd => mt_uq nm xa 2 (intRows (winP xa)) (kN xa) (wN xa) t L sd
 have hks := fun t t' L L' sd sd' j => mt_ks (M := .nw 14 (.n 16)) (A := .nw 14 (.n 40)) (R := fun i => .nw 14 (R0 i)) (B := fun i => .nw 14 (B0 i)) xa xa 2 (intRows (winP xa)) (kN xa) (wN xa) t t' L L' sd sd' j
 have hnn := fun t L sd j => mt_n (M := .nw 14 (.n 16)) (A := .nw 14 (.n 40)) (R := fun i => .nw 14 (R0 i)) (B := fun i => .nw 14 (B0 i)) xa 2 (intRows (winP xa)) (kN xa) (wN xa) t L sd (.n j) (by simp) (by simp) (fun i => by simp) (fun i => by simp)
 have hnw : ∀ t L sd (a : Id) (b : List AV), (a, b) ∈ mtB (.nw 14 (.n 16)) (.nw 14 (.n 40)) (fun i => .nw 14 (R0 i)) (fun i => .nw 14 (B0 i)) xa 2 (intRows (winP xa)) (kN xa) (wN xa) t L sd → a.isIt = false ∧ ∀ s, a.isNw s = (14 == s) := by
  intro t L sd a b hp
  unfold mtB at hp
  rcases List.mem_cons.1 hp with e | hp
  ·cases e; exact ⟨rfl, fun s => by simp [Id.isNw, Id.isUp]⟩
  ·rcases List.mem_cons.1 hp with e | hp
   ·cases e; exact ⟨rfl, fun s => by simp [Id.isNw, Id.isUp]⟩
   ·obtain ⟨i, _, e | e⟩ := mem_rgsB.1 hp
    ·cases e; exact ⟨rfl, fun s => by simp [Id.isNw, Id.isUp, R0]⟩
    ·cases e; exact ⟨rfl, fun s => by simp [Id.isNw, Id.isUp, B0]⟩
 have hex : xa.row = [.str [97], .int .u32 5, i6 10, i6 10, i6 0, i6 0, .sl [], .sl [[.str [114], .bool false, i6 100, i6 10, .int .u64 1, i6 0, i6 0]]] := rfl
 rw [hex] at N1
 have N1 := sph_nz (vs := [.agg [.str [97], .int .u32 5, i6 10, i6 10, i6 0, i6 0, .nils, .sl [[.str [114], .bool false, i6 100, i6 10, .int .u64 1, i6 0, i6 0]]]]) N1 rfl
 have q1 : ((100 : Nat) : Int) = 100 := rfl
 have q2 : ((90 : Nat) : Int) = 90 := rfl
 rw [q1] at M1
 rw [q2, List.nil_append] at A1
 have u0 := huq 0 [] false
 have u1 := huq 100 [] false
 have u2 := huq 100 [(90, 1, 2)] false
 have k1 := hks 0 100 [] [] false false
 have k2 := hks 100 100 [] [(90, 1, 2)] false false
 have n0 := hnn 0 [] false
 have n1 := hnn 100 [] false
 have n2 := hnn 100 [(90, 1, 2)] false
 have f0 := hnw 0 [] false
 have f1 := hnw 100 [] false
 have f2 := hnw 100 [(90, 1, 2)] false
 obtain ⟨m2, h2⟩ : ∃ m, m = mtB (.nw 14 (.n 16)) (.nw 14 (.n 40)) (fun i => .nw 14 (R0 i)) (fun i => .nw 14 (B0 i)) xa 2 (intRows (winP xa)) (kN xa) (wN xa) 100 [(90, 1, 2)] false := ⟨_, rfl⟩
 obtain ⟨rest, hr⟩ : ∃ r, r = (Id.nw 14 (.n 40), ptrC (fun i => .nw 14 (R0 i)) 2) :: rgsB (fun i => .nw 14 (R0 i)) (fun i => .nw 14 (B0 i)) (rgC (kN xa) (wN xa) 100 [(90, 1, 2)]) (rgD (kN xa) (wN xa) 100 [(90, 1, 2)]) 2 := ⟨_, rfl⟩
 have e4 : m2 = (.nw 14 (.n 16), mtC xa (.nw 14 (.n 40)) 2 (intRows (winP xa)) (pF xa.c 100) (pT xa.c 100) (pcG xa.c 100 [(90, 1, 2)]) (pcT xa.c 100 [(90, 1, 2)]) 100 false) :: rest := by rw [h2, hr]; rfl
 have hMr : ∀ p ∈ rest, ¬ Id.nw 14 (.n 16) = p.1 := by
  intro p hp
  rw [hr] at hp
  rcases List.mem_cons.1 hp with rfl | hp
  ·simp
  ·obtain ⟨i, _, e | e⟩ := mem_rgsB.1 hp
   ·subst e; simp [R0]
   ·subst e; simp [B0]
 rw [← h2] at u2 k2 n2 f2 A1 W1
 generalize mtC xa (.nw 14 (.n 40)) 2 (intRows (winP xa)) (pF xa.c 100) (pT xa.c 100) (pcG xa.c 100 [(90, 1, 2)]) (pcT xa.c 100 [(90, 1, 2)]) 100 false = mc at *
 generalize mtB (.nw 14 (.n 16)) (.nw 14 (.n 40)) (fun i => .nw 14 (R0 i)) (fun i => .nw 14 (B0 i)) xa 2 (intRows (winP xa)) (kN xa) (wN xa) 0 [] false = m0 at *
 generalize mtB (.nw 14 (.n 16)) (.nw 14 (.n 40)) (fun i => .nw 14 (R0 i)) (fun i => .nw 14 (B0 i)) xa 2 (intRows (winP xa)) (kN xa) (wN xa) 100 [] false = m1 at *
 clear huq hks hnn hnw h2 hr O0 hk hw hn2 e2 e3
 obtain ⟨gc, hgc⟩ : ∃ c, c = [AV.str [97], .int .u32 5, i6 10, i6 10, i6 0, i6 0, .nils, .sl [[.str [114], .bool false, i6 100, i6 10, u 1, i6 0, i6 0]]] := ⟨_, rfl⟩
 simp -implicitDefEqProofs [c12]
 refine onH_mk _ _ N1 ⟨?_, ?_, ?_, ?_, ?_, ?_, ?_⟩ ?_
 iterate 5 (· simp [n0])
 ·simp
  intro a b hm
  obtain ⟨h1, h2⟩ := f0 a b hm
  exact ⟨by rw [h2]; rfl, h1⟩
 ·simp
 simp -implicitDefEqProofs [n0, lkB_app]
 refine onH_ps (pre := []) (suf := [(.n 1, gc)]) M1 (by rw [hgc]; rfl) ?_ ?_ u0 k1 ?_ ?_ ?_ ?_
 ·simp
 ·simp [n0]
 ·simp
  intro a b hm
  rcases hm with hm | hm
  ·rw [(f0 a b hm).2]; rfl
  ·rw [hm.1]; rfl
 ·simp
 ·simp
 simp -implicitDefEqProofs [n1, lkB_app]
 refine onH_ps (pre := []) (suf := [(.n 1, gc)]) A1 rfl ?_ ?_ u1 k2 ?_ ?_ ?_ ?_
 ·simp
 ·simp [n1]
 ·simp
  intro a b hm
  rcases hm with hm | hm
  ·rw [(f1 a b hm).2]; rfl
  ·rw [hm.1]; rfl
 ·simp
 ·simp
 simp -implicitDefEqProofs [n2, lkB_app]
 refine onH_ps (pre := []) (suf := rest ++ [(.n 1, gc)]) A2 (by simp only [e4]; rfl) ?_ ?_ ?_ (fun _ => rfl) ?_ ?_ ?_ ?_
 ·simp
 ·simp
  intro a b hm
  rcases hm with hm | hm
  ·intro e; exact hMr _ hm e
  ·rw [hm.1]; simp
 ·simp
 ·simp
  intro a b hm
  rcases hm with hm | hm
  ·rw [(f2 a b hm).2]; rfl
  ·rw [hm.1]; rfl
 ·simp
 ·simp
 simp -implicitDefEqProofs [n2, lkB_app]
 refine onH_ps (pre := []) (suf := rest ++ [(.n 1, gc)]) A3 rfl ?_ ?_ ?_ (fun _ => rfl) ?_ ?_ ?_ ?_
 ·simp
 ·simp
  intro a b hm
  rcases hm with hm | hm
  ·intro e; exact hMr _ hm e
  ·rw [hm.1]; simp
 ·simp
 ·simp
  intro a b hm
  rcases hm with hm | hm
  ·rw [(f2 a b (by rw [e4]; exact List.mem_cons_of_mem _ hm)).2]; rfl
  ·rw [hm.1]; rfl
 ·simp
 ·simp
 simp -implicitDefEqProofs [n2, lkB_app]
 refine onH_ps (pre := []) (suf := [(.n 1, gc)]) W1 (by simp only [e4]; rfl) ?_ ?_ u2 (fun _ => rfl) ?_ ?_ ?_ ?_
 ·simp
 ·simp [n2]
 ·simp
  intro a b hm
  rcases hm with hm | hm
  ·rw [(f2 a b (by rw [e4]; exact List.mem_cons_of_mem _ hm)).2]; rfl
  ·rw [hm.1]; rfl
 ·simp
 ·simp
 simp -implicitDefEqProofs [n2, lkB_app]
open Go.Proofs
end Go.Ai
namespace Go.Ai
open Go.Proofs
end Go.Ai
