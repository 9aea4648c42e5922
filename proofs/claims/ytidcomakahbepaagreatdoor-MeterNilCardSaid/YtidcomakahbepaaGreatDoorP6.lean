/- P6: a part of the proof: the rules, or what functions compute. Conditions: as each theorem says. -/
import Derived.Test.YtidcomakahbepaaGreatDoorP5
import Derived.Test.YtidcomakahbepaaGreatDoorCode
import Derived.Test.YtidcomakahbepaaGreatDoorAiShelf2
import Derived.Shelf.SlicesE.Compact
import Derived.Shelf.SortM.Plain
import Derived.Shelf.SortM.SortNone
import Derived.Test.YtidcomakahbepaaGreatDoorP3
set_option linter.unusedSimpArgs false
set_option linter.unusedVariables false
set_option maxRecDepth 20000
namespace Go.Ai
open Go.Proofs
open Go.Proofs
theorem rmBs_filter : ∀ (r l : List (Id × List AV)), rmBs l r = l.filter fun p => !(lkB r p.1).isSome
 | [], l => by
  simp only [rmBs, lkB]
  exact (List.filter_eq_self.2 fun _ _ => rfl).symm
 | (d, c) :: r, l => by
  have e : ∀ (l : List (Id × List AV)), rmB l d = l.filter fun p => !decide (p.1 = d) := by
   intro l
   induction l with
   | nil => rfl
   | cons x l ih =>
    obtain ⟨k, v⟩ := x
    simp only [rmB, List.filter_cons]
    by_cases h : k = d <;> simp [h, ih]
  simp only [rmBs]
  rw [rmBs_filter r, e, List.filter_filter]
  apply List.filter_congr
  intro p _
  simp only [lkB]
  by_cases h : d = p.1
  ·rw [if_pos h]; simp [h]
  ·have h' : ¬ p.1 = d := fun q => h q.symm
   rw [if_neg h]; simp [h']
theorem rmBs_pre {pre l : List (Id × List AV)} (h : ∀ p ∈ pre, lkB l p.1 = none) : rmBs (pre ++ l) l = pre := by
 rw [rmBs_filter, List.filter_append]
 have e1 : pre.filter (fun p => !(lkB l p.1).isSome) = pre := List.filter_eq_self.2 fun p hp => by rw [h p hp]; rfl
 have e2 : l.filter (fun p => !(lkB l p.1).isSome) = [] := List.filter_eq_nil_iff.2 fun p hp => by
  have : (lkB l p.1).isSome := lkB_isSome hp
  simp [this]
 rw [e1, e2, List.append_nil]
theorem dlBs_off {l : List (Id × List AV)} : ∀ {pm : List (Pl × Nat)}, (∀ p ∈ pm, ∀ e ∈ p.1.ids, lkB l e = none) → dlBs pm l = pm := by
 have one : ∀ (d : Id) (pm : List (Pl × Nat)), (∀ p ∈ pm, ∀ e ∈ p.1.ids, e ≠ d) → dlB pm d = pm := by
  intro d pm
  induction pm with
  | nil => intro _; rfl
  | cons x r ih =>
   intro h
   obtain ⟨q, k⟩ := x
   have ih := ih fun p hp => h p (List.mem_cons_of_mem _ hp)
   have hx := h _ (List.mem_cons_self ..)
   cases q with
   | s t => simp only [dlB, ih]
   | t t i => simp only [dlB, ih]
   | b e o =>
    simp only [Pl.ids, List.mem_singleton] at hx
    simp only [dlB, ih, if_neg (hx e rfl)]
 induction l with
 | nil => intro pm _; rfl
 | cons x l ih =>
  intro pm h
  obtain ⟨d, c⟩ := x
  simp only [dlBs]
  rw [one d pm fun p hp e he q => by
   have := h p hp e he
   simp only [lkB] at this
   rw [if_pos q.symm] at this; cases this]
  refine ih fun p hp e he => ?_
  have := h p hp e he
  simp only [lkB] at this
  split at this
  ·cases this
  ·exact this
section
variable {P : Program} {GL : List (Nat × List Value)} {K : St → Prop} {σ : St} {f d : Nat} {xs : List X} {pre l l' : List (Id × List AV)} {vs : List AV} {r : AV}
theorem callOk_pre (hσ : σ.bx = pre ++ l) (hpre : ∀ p ∈ pre, lkB l p.1 = none) (hu : ∀ p ∈ l, lkB l p.1 = some p.2) (hkeep : ∀ i, (lkB l' i).isSome = (lkB l i).isSome) (hf : ∀ p ∈ σ.bx, p.1.isNw d = false) (hv : wkL (xs.map σ.v) vs) :
  CallOk d σ xs ⟨vs, l, []⟩ ⟨r, l', []⟩ := by
 refine ⟨hv, fun p hp => ?_, by simp, trivial, fun p hp => ?_, fun p hp => ?_, hf⟩
 ·have h2 := hu p hp
  have h3 : lkB σ.bx p.1 = some p.2 := by
   rw [hσ, lkB_app]
   cases h4 : lkB pre p.1 with
   | none => exact h2
   | some c =>
    have := hpre _ (lkB_mem _ _ _ h4)
    simp only at this
    rw [h2] at this; cases this
  simp only [wkB, h3]; exact wkL_rfl' _
 ·simp only [hkeep, hu p hp]; rfl
 ·left; simp only [← hkeep]; exact lkB_isSome hp
theorem callSt_pre (hσ : σ.bx = pre ++ l) (hpre : ∀ p ∈ pre, lkB l p.1 = none) (hpm : ∀ p ∈ σ.pm, ∀ e ∈ p.1.ids, lkB l e = none) : callSt d σ xs ⟨vs, l, []⟩ ⟨r, l', []⟩ = ⟨(d, r) :: σ.e, l' ++ pre, dlS σ.pm d⟩ := by
 simp only [callSt, retP, dlXs, List.nil_append]
 rw [hσ, rmBs_pre hpre, dlBs_off hpm]
theorem onH_pre (S : SpH P GL f d ⟨vs, l, []⟩ ⟨r, l', []⟩) (hσ : σ.bx = pre ++ l) (hpre : ∀ p ∈ pre, lkB l p.1 = none) (hu : ∀ p ∈ l, lkB l p.1 = some p.2) (hkeep : ∀ i, (lkB l' i).isSome = (lkB l i).isSome)
  (hf : ∀ p ∈ σ.bx, p.1.isNw d = false) (hpm : ∀ p ∈ σ.pm, ∀ e ∈ p.1.ids, lkB l e = none) (hv : wkL (xs.map σ.v) vs) (hk : K ⟨(d, r) :: σ.e, l' ++ pre, dlS σ.pm d⟩) : onH (SpH P GL) f d xs K σ := by
 refine onH_mk _ _ S (callOk_pre hσ hpre hu hkeep hf hv) ?_
 rw [callSt_pre hσ hpre hpm]; exact hk
end
theorem mt_uniq {M A : Id} {R B : Nat → Id} (h : Nms M A R B) (mc ac : List AV) (C : Nat → Id → List AV) (D : Nat → List AV) (n : Nat) : ∀ p ∈ (M, mc) :: (A, ac) :: rgsB R B C D n, lkB ((M, mc) :: (A, ac) :: rgsB R B C D n) p.1 = some p.2 := by
 intro p hp
 rcases List.mem_cons.1 hp with rfl | hp
 ·simp [lkB]
 ·rcases List.mem_cons.1 hp with rfl | hp
  ·simp only [lkB]
   rw [if_neg h.ma]; simp
  ·obtain ⟨i, hi, e | e⟩ := mem_rgsB.1 hp
   ·subst e
    simp only [lkB]
    rw [if_neg (h.mr i), if_neg (h.ar i)]
    exact rgsB_R h n hi
   ·subst e
    simp only [lkB]
    rw [if_neg (h.mb i), if_neg (h.ab i)]
    exact rgsB_B h n hi
theorem rgs_keys {R B : Nat → Id} (C C' : Nat → Id → List AV) (D D' : Nat → List AV) (j : Id) : ∀ n, (lkB (rgsB R B C' D' n) j).isSome = (lkB (rgsB R B C D n) j).isSome
 | 0 => rfl
 | n + 1 => by
  have ih := rgs_keys (R := R) (B := B) C C' D D' j n
  rw [rgsB_succ, rgsB_succ, lkB_app, lkB_app]
  cases h1 : lkB (rgsB R B C' D' n) j with
  | some c =>
   rw [h1] at ih
   obtain ⟨c', h2⟩ := Option.isSome_iff_exists.1 ih.symm
   rw [h2]; rfl
  | none =>
   rw [h1] at ih
   have h2 : lkB (rgsB R B C D n) j = none := by
    cases h3 : lkB (rgsB R B C D n) j with
    | none => rfl
    | some c => rw [h3] at ih; cases ih
   rw [h2]
   simp only [lkB]
   split
   ·rfl
   ·split <;> rfl
theorem mt_keys {M A : Id} {R B : Nat → Id} (mc mc' ac ac' : List AV) (C C' : Nat → Id → List AV) (D D' : Nat → List AV) (n : Nat) (j : Id) :
  (lkB ((M, mc') :: (A, ac') :: rgsB R B C' D' n) j).isSome = (lkB ((M, mc) :: (A, ac) :: rgsB R B C D n) j).isSome := by
 simp only [lkB]
 split
 ·rfl
 ·split
  ·rfl
  ·exact rgs_keys C C' D D' j n
theorem mt_none {M A : Id} {R B : Nat → Id} {mc ac : List AV} {C : Nat → Id → List AV} {D : Nat → List AV} {n s : Nat} : lkB ((Id.up M, mc) :: (Id.up A, ac) :: rgsB (fun i => .up (R i)) (fun i => .up (B i)) C D n) (.n s) = none := by
 simp only [lkB]
 rw [if_neg (fun e => by cases e), if_neg (fun e => by cases e)]
 exact rgsB_none (fun i e => by cases e) (fun i e => by cases e) n
theorem mt_free {M A : Id} {R B : Nat → Id} {mc ac : List AV} {C : Nat → Id → List AV} {D : Nat → List AV} {n s : Nat} : ∀ p ∈ (Id.up M, mc) :: (Id.up A, ac) :: rgsB (fun i => .up (R i)) (fun i => .up (B i)) C D n, p.1.isNw s = false := by
 intro p hp
 rcases List.mem_cons.1 hp with rfl | hp
 ·rfl
 ·rcases List.mem_cons.1 hp with rfl | hp
  ·rfl
  ·exact rgs_free p.1 p.2 hp
open Go.Proofs
def addE (late : Int) (t : Nat) (a : Int) (cg ct : Nat) : Int := if ct < cg then 16 else if ¬ (0 ≤ a ∧ a ≤ 253402300799) then 8 else if (t : Int) < a then 14 else if a < t - late then 13 else 0
theorem madd_bad (M A : Id) (h : Pr2 M A) (x : Gl) (hx : 0 ≤ x.a ∧ x.a ≤ 86400) (n : Nat) (W : List (List AV)) (fr to cg0 ct0 t : Nat) (ht : t ≤ 253402300799) (sd : Bool) (a : Int) (cg ct : Nat) (hb : addE x.a t a cg ct ≠ 0) (d : Nat) (hd : M.isNw d = false) :
  SpH Tryz.prog gl 23 d ⟨[.ptr M 0, i6 a, .agg [u cg, u ct]], [(M, mtC x A n W fr to cg0 ct0 t sd)], []⟩ ⟨i6 (addE x.a t a cg ct), [(M, mtC x A n W fr to cg0 ct0 t sd)], []⟩ := by
 refine h23 rfl ?_
 have hi := inn_notNw hd
 have hdA : A.isNw d = false := by rw [← h.nw]; exact hd
 have hiA := inn_notNw hdA
 have r1 := h.ri
 have b1 := h.bi
 have TK := mtick_spec a
 have w1 : IntKind.i64.wrap ((t : Int) - x.a) = (t : Int) - x.a := wr (by omega) (by omega)
 simp only [mtC]
 simp only [inSt, mpL, mpB, mpP, AV.mp]
 unfold addE at hb ⊢
 by_cases g1 : ct < cg
 ·have g1' : (ct : Int) < cg := by omega
  rw [if_pos g1]
  simp -implicitDefEqProofs [c23, g1, g1']
  refine postH_r ⟨?_, ?_, ?_, ?_, ?_, ?_⟩ <;> simp -implicitDefEqProofs [hi, hiA, r1, b1, hd, hdA]
 ·have g1' : ¬ (ct : Int) < cg := by omega
  rw [if_neg g1] at hb ⊢
  by_cases g : 0 ≤ a ∧ a ≤ 253402300799
  ·have tk : (decide (0 ≤ a) && decide (a ≤ 253402300799)) = true := by simp [g]
   rw [tk] at TK
   rw [if_neg (fun e => e g)] at hb ⊢
   by_cases g2 : (t : Int) < a
   ·rw [if_pos g2]
    simp -implicitDefEqProofs [c23, g1, g1']
    refine onC_mk _ TK ?_
    simp -implicitDefEqProofs [g2]
    refine postH_r ⟨?_, ?_, ?_, ?_, ?_, ?_⟩ <;> simp -implicitDefEqProofs [hi, hiA, r1, b1, hd, hdA]
   ·rw [if_neg g2] at hb ⊢
    by_cases g3 : a < t - x.a
    ·rw [if_pos g3]
     simp -implicitDefEqProofs [c23, g1, g1']
     refine onC_mk _ TK ?_
     simp -implicitDefEqProofs [g2]
     simp -implicitDefEqProofs [w1, g3]
     refine postH_r ⟨?_, ?_, ?_, ?_, ?_, ?_⟩ <;> simp -implicitDefEqProofs [hi, hiA, r1, b1, hd, hdA]
    ·rw [if_neg g3] at hb; exact absurd rfl hb
  ·rw [if_pos g]
   have tk : (decide (0 ≤ a) && decide (a ≤ 253402300799)) = false := by
    rw [Bool.and_eq_false_iff, decide_eq_false_iff_not, decide_eq_false_iff_not]
    by_cases h : 0 ≤ a
    ·exact .inr fun e => g ⟨h, e⟩
    ·exact .inl h
   rw [tk] at TK
   simp -implicitDefEqProofs [c23, g1, g1']
   refine onC_mk _ TK ?_
   simp -implicitDefEqProofs
   refine postH_r ⟨?_, ?_, ?_, ?_, ?_, ?_⟩ <;> simp -implicitDefEqProofs [hi, hiA, r1, b1, hd, hdA]
theorem add_ok {K w : Nat → Nat} {t : Nat} {L : List Ev} {a cg ct i : Nat} (h : okW K w t L a ct i = true) (b : Id) :
  ringC b (K i) (w i) t (addL (K i) (w i) t L a cg ct) = ringC b (K i) (w i) t (L ++ [(a, cg, ct)]) ∧ bkC (K i) (w i) (t / w i) (addL (K i) (w i) t L a cg ct) = bkC (K i) (w i) (t / w i) (L ++ [(a, cg, ct)]) := by
 unfold okW at h
 by_cases g : a / w i + K i ≤ t / w i
 ·have e : addL (K i) (w i) t L a cg ct = L := by unfold addL addC; rw [if_pos g]; rfl
  rw [e]
  obtain ⟨e1, e2⟩ := ringC_out (B := b) (K := K i) (w := w i) (t := t) (L := L) (e := (a, cg, ct)) g
  exact ⟨e1.symm, e2.symm⟩
 ·have hw : inW (K i) (t / w i) (a / w i) = true := decide_eq_true (by omega)
  rw [hw] at h
  simp only [Bool.not_true, Bool.false_or, fitB, decide_eq_true_eq] at h
  have e : addL (K i) (w i) t L a cg ct = L ++ [(a, cg, ct)] := by unfold addL addC; rw [if_neg g, if_pos h]; rfl
  rw [e]; exact ⟨rfl, rfl⟩
theorem pc_add {c : Int} {t : Nat} {L : List Ev} {a cg ct : Nat} (hc : c ≠ 0) : pcG c t (L ++ [(a, cg, ct)]) = pcG c t L + (if pF c t ≤ a then cg else 0) ∧ pcT c t (L ++ [(a, cg, ct)]) = pcT c t L + (if pF c t ≤ a then ct else 0) := by
 unfold pcG pcT
 rw [if_neg hc, if_neg hc, if_neg hc, if_neg hc, sm_one, sm_one]
 simp only [Nat.div_one, decide_eq_true_eq, eG, eT]
 exact ⟨trivial, trivial⟩
theorem pc_zero {t : Nat} {L : List Ev} : pcG 0 t L = 0 ∧ pcT 0 t L = 0 := ⟨rfl, rfl⟩
theorem pc_GT {c : Int} {t : Nat} {L : List Ev} (h : EvOk L) : pcG c t L ≤ pcT c t L := by
 unfold pcG pcT
 split
 ·exact Nat.le_refl _
 ·exact sm_GT h
open Go.Proofs
end Go.Ai
namespace Go.Ai
open Go.Proofs Go.Shelf
def ren_laysSort : Ren := {
 f := fun x => match x with
  | 5 => 119
  | 8 => 174
  | 7 => 173
  | 19 => 204
  | 20 => 205
  | 10 => 196
  | 11 => 197
  | 12 => 198
  | 13 => 199
  | 14 => 200
  | 15 => 201
  | 16 => 102
  | 17 => 202
  | 18 => 203
  | 30 => 214
  | 31 => 215
  | 32 => 216
  | 33 => 217
  | 34 => 218
  | 35 => 160
  | 40 => 221
  | n => n
 t := fun x => match x with
  | 23 => 34
  | 25 => 2
  | 3 => 3
  | 32 => 145
  | 22 => 34
  | 0 => 0
  | 44 => 22
  | 46 => 37
  | 4 => 4
  | 36 => 249
  | 35 => 248
  | 41 => 61
  | 5 => 5
  | 9 => 9
  | 53 => 267
  | 57 => 270
  | 63 => 273
  | 64 => 274
  | n => n
 g := fun x => x }
set_option maxRecDepth 100000 in
theorem laysSort : SlLaysM.n5 Tryz.prog ren_laysSort where
 mixed := by kernel_rfl
 f5 := ⟨Tryz.f119.name, by kernel_rfl, Eq.trans Tryz.func119 (congrArg some (show Tryz.f119 = { SlBodyM.n5 ren_laysSort with name := Tryz.f119.name } by kernel_rfl))⟩
 f7 := ⟨Tryz.f173.name, by kernel_rfl, Eq.trans Tryz.func173 (congrArg some (show Tryz.f173 = { SlBodyM.n7 ren_laysSort with name := Tryz.f173.name } by kernel_rfl))⟩
 f8 := Eq.trans Tryz.func174 (congrArg some (show Tryz.f174 = SlBodyM.n8 ren_laysSort by kernel_rfl))
 f10 := ⟨Tryz.f196.name, by kernel_rfl, Eq.trans Tryz.func196 (congrArg some (show Tryz.f196 = { SlBodyM.n10 ren_laysSort with name := Tryz.f196.name } by kernel_rfl))⟩
 f11 := ⟨Tryz.f197.name, by kernel_rfl, Eq.trans Tryz.func197 (congrArg some (show Tryz.f197 = { SlBodyM.n11 ren_laysSort with name := Tryz.f197.name } by kernel_rfl))⟩
 f12 := ⟨Tryz.f198.name, by kernel_rfl, Eq.trans Tryz.func198 (congrArg some (show Tryz.f198 = { SlBodyM.n12 ren_laysSort with name := Tryz.f198.name } by kernel_rfl))⟩
 f13 := ⟨Tryz.f199.name, by kernel_rfl, Eq.trans Tryz.func199 (congrArg some (show Tryz.f199 = { SlBodyM.n13 ren_laysSort with name := Tryz.f199.name } by kernel_rfl))⟩
 f14 := ⟨Tryz.f200.name, by kernel_rfl, Eq.trans Tryz.func200 (congrArg some (show Tryz.f200 = { SlBodyM.n14 ren_laysSort with name := Tryz.f200.name } by kernel_rfl))⟩
 f15 := ⟨Tryz.f201.name, by kernel_rfl, Eq.trans Tryz.func201 (congrArg some (show Tryz.f201 = { SlBodyM.n15 ren_laysSort with name := Tryz.f201.name } by kernel_rfl))⟩
 f16 := ⟨Tryz.f102.name, by kernel_rfl, Eq.trans Tryz.func102 (congrArg some (show Tryz.f102 = { SlBodyM.n16 ren_laysSort with name := Tryz.f102.name } by kernel_rfl))⟩
 f17 := ⟨Tryz.f202.name, by kernel_rfl, Eq.trans Tryz.func202 (congrArg some (show Tryz.f202 = { SlBodyM.n17 ren_laysSort with name := Tryz.f202.name } by kernel_rfl))⟩
 f18 := ⟨Tryz.f203.name, by kernel_rfl, Eq.trans Tryz.func203 (congrArg some (show Tryz.f203 = { SlBodyM.n18 ren_laysSort with name := Tryz.f203.name } by kernel_rfl))⟩
 f19 := Eq.trans Tryz.func204 (congrArg some (show Tryz.f204 = SlBodyM.n19 ren_laysSort by kernel_rfl))
 f20 := Eq.trans Tryz.func205 (congrArg some (show Tryz.f205 = SlBodyM.n20 ren_laysSort by kernel_rfl))
 f30 := ⟨Tryz.f214.name, by kernel_rfl, Eq.trans Tryz.func214 (congrArg some (show Tryz.f214 = { SlBodyM.n30 ren_laysSort with name := Tryz.f214.name } by kernel_rfl))⟩
 f31 := Eq.trans Tryz.func215 (congrArg some (show Tryz.f215 = SlBodyM.n31 ren_laysSort by kernel_rfl))
 f32 := Eq.trans Tryz.func216 (congrArg some (show Tryz.f216 = SlBodyM.n32 ren_laysSort by kernel_rfl))
 f33 := ⟨Tryz.f217.name, by kernel_rfl, Eq.trans Tryz.func217 (congrArg some (show Tryz.f217 = { SlBodyM.n33 ren_laysSort with name := Tryz.f217.name } by kernel_rfl))⟩
 f34 := ⟨Tryz.f218.name, by kernel_rfl, Eq.trans Tryz.func218 (congrArg some (show Tryz.f218 = { SlBodyM.n34 ren_laysSort with name := Tryz.f218.name } by kernel_rfl))⟩
 f35 := ⟨Tryz.f160.name, by kernel_rfl, Eq.trans Tryz.func160 (congrArg some (show Tryz.f160 = { SlBodyM.n35 ren_laysSort with name := Tryz.f160.name } by kernel_rfl))⟩
 f40 := ⟨Tryz.f221.name, by kernel_rfl, Eq.trans Tryz.func221 (congrArg some (show Tryz.f221 = { SlBodyM.n40 ren_laysSort with name := Tryz.f221.name } by kernel_rfl))⟩
 t0 := Tryz.underlying0
 a0 := Tryz.isAgg0
 z0 := Tryz.sizeOf0
 v0 := Tryz.zeroValue0
 t3 := Tryz.underlying3
 a3 := Tryz.isAgg3
 z3 := Tryz.sizeOf3
 v3 := Tryz.zeroValue3
 t4 := Tryz.underlying4
 a4 := Tryz.isAgg4
 z4 := Tryz.sizeOf4
 v4 := Tryz.zeroValue4
 t5 := Tryz.underlying5
 a5 := Tryz.isAgg5
 z5 := Tryz.sizeOf5
 v5 := Tryz.zeroValue5
 t9 := Tryz.underlying9
 a9 := Tryz.isAgg9
 z9 := Tryz.sizeOf9
 v9 := Tryz.zeroValue9
 t22 := Tryz.underlying34
 a22 := Tryz.isAgg34
 z22 := Tryz.sizeOf34
 v22 := Tryz.zeroValue34
 t23 := Tryz.underlying34
 a23 := Tryz.isAgg34
 z23 := Tryz.sizeOf34
 v23 := Tryz.zeroValue34
 t25 := Tryz.underlying2
 a25 := Tryz.isAgg2
 z25 := Tryz.sizeOf2
 v25 := Tryz.zeroValue2
 t32 := Tryz.underlying145
 a32 := Tryz.isAgg145
 z32 := Tryz.sizeOf145
 v32 := Tryz.zeroValue145
 t35 := Tryz.underlying248
 a35 := Tryz.isAgg248
 z35 := Tryz.sizeOf248
 v35 := Tryz.zeroValue248
 t36 := Tryz.underlying249
 a36 := Tryz.isAgg249
 z36 := Tryz.sizeOf249
 v36 := Tryz.zeroValue249
 t41 := Tryz.underlying61
 a41 := Tryz.isAgg61
 z41 := Tryz.sizeOf61
 v41 := Tryz.zeroValue61
 t44 := Tryz.underlying22
 a44 := Tryz.isAgg22
 z44 := Tryz.sizeOf22
 v44 := Tryz.zeroValue22
 t46 := Tryz.underlying37
 a46 := Tryz.isAgg37
 z46 := Tryz.sizeOf37
 v46 := Tryz.zeroValue37
 t53 := Tryz.underlying267
 a53 := Tryz.isAgg267
 z53 := Tryz.sizeOf267
 v53 := Tryz.zeroValue267
 t57 := Tryz.underlying270
 a57 := Tryz.isAgg270
 z57 := Tryz.sizeOf270
 v57 := Tryz.zeroValue270
 t63 := Tryz.underlying273
 a63 := Tryz.isAgg273
 z63 := Tryz.sizeOf273
 v63 := Tryz.zeroValue273
 t64 := Tryz.underlying274
 a64 := Tryz.isAgg274
 z64 := Tryz.sizeOf274
 v64 := Tryz.zeroValue274
def ren_laysCompact : Ren := {
 f := fun x => match x with
  | 43 => 120
  | n => n
 t := fun x => match x with
  | 22 => 34
  | 23 => 2
  | 3 => 3
  | 4 => 4
  | 0 => 0
  | n => n
 g := fun x => x }
set_option maxRecDepth 100000 in
theorem laysCompact : SlLaysE.n43 Tryz.prog ren_laysCompact where
 mixed := by kernel_rfl
 f43 := ⟨Tryz.f120.name, by kernel_rfl, Eq.trans Tryz.func120 (congrArg some (show Tryz.f120 = { SlBodyN.n43 ren_laysCompact with name := Tryz.f120.name } by kernel_rfl))⟩
 t0 := Tryz.underlying0
 a0 := Tryz.isAgg0
 z0 := Tryz.sizeOf0
 v0 := Tryz.zeroValue0
 t3 := Tryz.underlying3
 a3 := Tryz.isAgg3
 z3 := Tryz.sizeOf3
 v3 := Tryz.zeroValue3
 t4 := Tryz.underlying4
 a4 := Tryz.isAgg4
 z4 := Tryz.sizeOf4
 v4 := Tryz.zeroValue4
 t22 := Tryz.underlying34
 a22 := Tryz.isAgg34
 z22 := Tryz.sizeOf34
 v22 := Tryz.zeroValue34
 a23 := Tryz.isAgg2
 z23 := Tryz.sizeOf2
open Go.Proofs
def cUnlike (sz : Nat) (z : List AV) : AC :=
 (.sq (.rg [.mv 4 (.c (.bool false))])
  (.sq (.rg [.mkp 8,
   .mv 5 (.s 8)])
  (.sq (.sq (.rg [.mv 9 (.s 0),
   .ln 10 (.s 9),
   .mv 11 (.c (.int .i64 0))])
  (.bl 0 (.lp (.sq (.rg [.bi 12 .lss (.s 11) (.s 10)])
  (.sq (.cd (.s 12) .sk (.ex 0))
  (.sq (.bl 1 (.sq (.rg [.ia 13 sz (.s 9) (.s 11),
   .lda 14 sz (.s 13),
   .al 7 z,
   .st sz (.s 7) (.s 14)])
  (.rg [.mv 15 (.s 5),
   .mv 16 (.s 1),
   .lda 17 sz (.s 7),
   .cd 18 (.s 16) [(.s 17)],
   .mlk 19 .s (.i .i64 0) (.s 15) (.s 18) false,
   .bi 20 .add (.s 19) (.c (.int .i64 1)),
   .mup .s (.s 15) (.s 18) (.s 20)])))
  (.rg [.bi 21 .add (.s 11) (.c (.int .i64 1)),
   .mv 11 (.s 21)])))))))
  (.sq (.rg [.mv 22 (.s 5),
   .mpl 23 (.s 22),
   .mv 24 (.s 0),
   .ln 25 (.s 24),
   .bi 26 .eql (.s 23) (.s 25),
   .mv 4 (.s 26)])
  .rt))))
theorem unl_eq2 : c168 = cUnlike 2 [(.str []), (.str [])] := rfl
theorem unl_eq3 : c171 = cUnlike 7 [(.str []), (.bool false), (.int .i64 0), (.int .i64 0), (.int .u64 0), (.int .i64 0), (.int .i64 0)] := rfl
theorem nameL_spec (x : Lb) : Sp Tryz.prog gl 169 [.agg x.row] (.str x.n) := by
  refine s169 rfl rfl ?_
  unfold Lb.row
  simp -implicitDefEqProofs [c169]
theorem nameR_spec (x : Ru) : Sp Tryz.prog gl 172 [.agg x.row] (.str x.n) := by
  refine s172 rfl rfl ?_
  unfold Ru.row
  simp -implicitDefEqProofs [c172]
theorem unlike_code (sz : Nat) (z : List AV) (f : Nat) (rows : List (List AV)) (names : List (List UInt8)) (hz : z.length = sz) (hl : names.length = rows.length) (hn : rows.length ≤ 1000000)
    (hr : ∀ i (h : i < rows.length), rows[i].length = sz ∧ idsL rows[i] = [] ∧ Sp Tryz.prog gl f [.agg rows[i]] (.str (names[i]'(by omega)))) :
    wpA (SpH Tryz.prog gl) (cUnlike sz z) (postA [.t 4] (.bool (uniq names))) ⟨initE 0 [.sl rows, .fn f []], [], []⟩ := by
  unfold cUnlike
  have w1 : IntKind.i64.wrap 1 = 1 := by rw [wrap_i64] <;> omega
  simp -implicitDefEqProofs
  refine wp_lpk (α := Nat × List (List UInt8 × Nat)) (fun x => ⟨[(0, .sl rows), (1, .fn f []), (5, .mref (.it 8)), (9, .sl rows), (10, i6 rows.length), (11, i6 x.1)], [(.it 8, [.mpv (cntV x.2)])], []⟩)
    (fun x => x.1 ≤ rows.length ∧ x.2.length = distR (names.take x.1).reverse ∧ (∀ n, n ∈ x.2.map Prod.fst ↔ n ∈ names.take x.1) ∧ ∀ p ∈ x.2, p.2 ≤ x.1) (fun x => rows.length - x.1) ?_ (0, []) ?_ ?_
  · rintro K ⟨i, l⟩ hK ⟨h1, h2, h3, h4⟩
    simp only at h1 h2 h3 h4
    by_cases g : i < rows.length
    · obtain ⟨r1, r2, r3⟩ := hr i g
      have r3 := Sp.h (d := 18) r3
      have hi : i < names.length := by omega
      have et : names.take (i + 1) = names.take i ++ [names[i]] := by rw [List.take_succ_eq_append_getElem hi]
      have fin : ∀ σ', Weak σ' ⟨[(0, .sl rows), (1, .fn f []), (5, .mref (.it 8)), (9, .sl rows), (10, i6 rows.length), (11, i6 (i + 1 : Nat))], [(.it 8, [.mpv (cntV (bump l names[i]))])], []⟩ → K σ' :=
        fun σ' hσ => hK (i + 1, bump l names[i]) σ' ⟨by simp only; omega, by
          simp only
          rw [bump_len, et, List.reverse_append, h2]
          simp only [List.reverse_cons, List.reverse_nil, List.nil_append, List.singleton_append, distR, h3, List.mem_reverse], by
          intro n
          rw [bump_mem, et, List.mem_append, h3]
          simp only [List.mem_singleton]
          exact Or.comm, bump_le _ _ _ h4⟩ (by simp only; omega) hσ
      have t1 : IntKind.i64.wrap ((i : Int) + 1) = (i + 1 : Nat) := by rw [wrap_i64] <;> omega
      obtain ⟨row, hrow⟩ : ∃ row, row = rows[i] := ⟨_, rfl⟩
      rw [← hrow] at r1 r2 r3
      have e1 : List.take sz row = row := List.take_of_length_le (by omega)
      have e2 : List.drop sz z = [] := List.drop_eq_nil_of_le (by omega)
      have hat : ∀ h, rows[i]'h = row := fun _ => hrow.symm
      rcases cnt_find names[i] l 0 with ⟨q1, q2⟩ | ⟨j, c, q0, q1, q2⟩
      · rw [q2] at fin
        generalize names[i] = nm at *
        clear hK hr hrow h2 h3 h4 et
        simp -implicitDefEqProofs [g, hat, r1, e1, hz, e2]
        refine onH_mk _ _ r3 ⟨?_, ?_, ?_, ?_, ?_, ?_, ?_⟩ ?_
        iterate 7 (· simp)
        simp -implicitDefEqProofs [q1]
        refine fin _ (weak_mk ?_ ?_ ?_ ?_ ?_ ?_) <;> simp -implicitDefEqProofs [t1, w1]
      · rw [← q2] at fin
        have w2 : IntKind.i64.wrap ((c : Int) + 1) = ((c + 1 : Nat) : Int) := by have := h4 _ q0; simp only at this; rw [wrap_i64] <;> omega
        generalize names[i] = nm at *
        clear hK hr hrow h2 h3 h4 et
        rw [Nat.zero_add] at q1
        simp -implicitDefEqProofs [g, hat, r1, e1, hz, e2]
        refine onH_mk _ _ r3 ⟨?_, ?_, ?_, ?_, ?_, ?_, ?_⟩ ?_
        iterate 7 (· simp)
        simp -implicitDefEqProofs [q1]
        refine fin _ (weak_mk ?_ ?_ ?_ ?_ ?_ ?_) <;> simp -implicitDefEqProofs [t1, w2]
    · obtain rfl : i = rows.length := by omega
      have ud := uniq_dist names
      rw [List.take_of_length_le (by omega)] at h2
      rw [← h2, hl] at ud
      have cl : (cntV l).length = l.length := by simp [cntV]
      clear hK hr h3 h4
      generalize uniq names = R at *
      simp -implicitDefEqProofs [cl, ud]
  · exact ⟨Nat.zero_le _, by simp [distR], by simp, by simp⟩
  · refine weak_mk ?_ ?_ ?_ ?_ ?_ ?_ <;> simp -implicitDefEqProofs [cntV]
theorem unlL_spec (l : List Lb) (hn : l.length ≤ 1000000) : Sp Tryz.prog gl 168 [.sl (l.map Lb.row), .fn 169 []] (.bool (uniq (l.map Lb.n))) := by
  refine s168 rfl rfl ?_
  rw [unl_eq2]
  refine unlike_code 2 _ _ (l.map Lb.row) (l.map Lb.n) rfl (by simp) (by simpa using hn) (fun i h => ?_)
  simp only [List.getElem_map]
  exact ⟨rfl, rfl, nameL_spec _⟩
theorem unlR_spec (l : List Ru) (hn : l.length ≤ 1000000) : Sp Tryz.prog gl 171 [.sl (l.map Ru.row), .fn 172 []] (.bool (uniq (l.map Ru.n))) := by
  refine s171 rfl rfl ?_
  rw [unl_eq3]
  refine unlike_code 7 _ _ (l.map Ru.row) (l.map Ru.n) rfl (by simp) (by simpa using hn) (fun i h => ?_)
  simp only [List.getElem_map]
  exact ⟨rfl, rfl, nameR_spec _⟩
end Go.Ai
