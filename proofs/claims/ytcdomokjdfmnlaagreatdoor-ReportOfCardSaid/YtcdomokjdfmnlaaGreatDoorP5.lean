/- YtcdomokjdfmnlaaGreatDoorP5: part of the abstract interpreter library (values, rules, soundness against the model) or of what a function of the seat computes. Conditions: as each theorem says. -/
import Derived.Test.YtcdomokjdfmnlaaGreatDoorP4
import Derived.Test.YtcdomokjdfmnlaaGreatDoorP1
set_option linter.unusedSimpArgs false
set_option linter.unusedVariables false
namespace Go.Ai
open Go.Proofs
def calOf (x : GV) : Int := if x.g.c = 0 then 0 else leftZ x.g.t x.cg x.cn
def rolOf (x : GV) : Int := if x.g.o = 0 then 0 else leftZ x.g.t (cntOf x.ws x.g.o).1 (cntOf x.ws x.g.o).2
def lftOf (x : GV) : Int := if x.g.o = 0 then calOf x else rolOf x
def hasB (x : GV) : Bool := decide (x.g.o ≠ 0) || decide (x.g.c ≠ 0)
theorem sgi_cells (z : Int) : ∃ b h l, sgi z = .agg [.bool b, u h, u l] ∧ sgC z = [.bool b, u h, u l] := ⟨_, _, _, rfl, rfl⟩
theorem sgC_zero : sgC 0 = [.bool false, u 0, u 0] := rfl
set_option maxRecDepth 20000 in
theorem budgets_spec (x : GV) (ok : GVok x) (d : Nat) (b : Id) (hb : b.isIt = false) (hbd : b.isNw d = false) (n : List UInt8) (st : Bool) (RS : List (List AV)) :
    SpH Tryz.prog gl 103 d ⟨[.agg x.row, .ptr b 0], [(b, [.str n, .bool st, .bool false, u 0, u 0, .bool false, u 0, u 0, i6 0, u 0, u 0, .sl RS])], []⟩
      ⟨.tup [.agg (sgC (lftOf x)), .bool (hasB x)], [(b, [.str n, .bool st] ++ sgC (rolOf x) ++ sgC (calOf x) ++ [i6 0, u 0, u 0, .sl RS])], []⟩ := by
  refine h103 rfl ?_
  have hic := inn_notNw hbd
  have CS := count_spec x x.g.o ok.nw
  have L1 := left_spec x.g.t x.cg x.cn ok.t ok.cn
  have L2 := left_spec x.g.t (cntOf x.ws x.g.o).1 (cntOf x.ws x.g.o).2 ok.t (cntOf_ok ok.ws x.g.o).2
  obtain ⟨M, hM⟩ : ∃ M, M = x.row := ⟨_, rfl⟩
  rw [← hM] at CS ⊢
  have hM1 : ∀ h : 1 < M.length, M[1] = (u32 x.g.t) := by intro h; subst hM; rfl
  have hM4 : ∀ h : 4 < M.length, M[4] = (i6 x.g.o) := by intro h; subst hM; rfl
  have hM5 : ∀ h : 5 < M.length, M[5] = (i6 x.g.c) := by intro h; subst hM; rfl
  have hMc : List.take 2 (List.drop 12 M) = [u x.cg, u x.cn] := by subst hM; rfl
  have hMl : M.length = 15 := by subst hM; rfl
  have hMt : M.take 15 = M := List.take_of_length_le (by omega)
  have hM0 : idsL M = [] := by subst hM; rfl
  have hMs : shutL M = some M := by subst hM; rfl
  have hmp : ∀ f, mpL f M = M := fun f => mpL_noids hM0
  clear hM
  unfold lftOf rolOf calOf hasB
  generalize (leftZ x.g.t x.cg x.cn) = Z1 at *
  generalize (leftZ x.g.t (cntOf x.ws x.g.o).1 (cntOf x.ws x.g.o).2) = Z2 at *
  generalize mayN x.g.t x.cg x.cn = y1 at *
  generalize mayN x.g.t (cntOf x.ws x.g.o).1 (cntOf x.ws x.g.o).2 = y2 at *
  generalize cntOf x.ws x.g.o = cc at *
  obtain ⟨b1, h1, l1, e1, e1'⟩ := sgi_cells Z1
  obtain ⟨b2, h2, l2, e2, e2'⟩ := sgi_cells Z2
  rw [e1] at L1
  rw [e2] at L2
  simp only [cnt] at L1
  simp only [inSt, mpB, mpL, AV.mp, mpP, hmp]
  by_cases c0 : x.g.c = 0
  · have c0' : (x.g.c != 0) = false := by simp [c0]
    by_cases o0 : x.g.o = 0
    · have o0' : (x.g.o != 0) = false := by simp [o0]
      rw [if_pos o0, if_pos c0, if_pos o0, sgC_zero]
      have hd : (decide (x.g.o ≠ 0) || decide (x.g.c ≠ 0)) = false := by simp [c0, o0]
      rw [hd]
      simp -implicitDefEqProofs [c103, hM4, hM5, hMl, c0', o0']
      refine postH_n ⟨?_, ?_, ?_, ?_, ?_, ?_⟩ <;> simp -implicitDefEqProofs [hic, hb, hmp]
    · have o0' : (x.g.o != 0) = true := by simp [o0]
      rw [if_neg o0, if_pos c0, if_neg o0, sgC_zero, e2']
      have hd : (decide (x.g.o ≠ 0) || decide (x.g.c ≠ 0)) = true := by simp [c0, o0]
      rw [hd]
      simp -implicitDefEqProofs [c103, hM4, hM5, hM1, hMl, hMt, hMs, c0', o0']
      refine onC_mk _ CS ?_
      simp -implicitDefEqProofs
      refine onC_mk _ L2 ?_
      simp -implicitDefEqProofs
      refine postH_r ⟨?_, ?_, ?_, ?_, ?_, ?_⟩ <;> simp -implicitDefEqProofs [hic, hb, hmp]
  · have c0' : (x.g.c != 0) = true := by simp [c0]
    by_cases o0 : x.g.o = 0
    · have o0' : (x.g.o != 0) = false := by simp [o0]
      rw [if_pos o0, if_neg c0, if_pos o0, sgC_zero, e1']
      have hd : (decide (x.g.o ≠ 0) || decide (x.g.c ≠ 0)) = true := by simp [c0, o0]
      rw [hd]
      simp -implicitDefEqProofs [c103, hM4, hM5, hM1, hMl, hMc, c0', o0']
      refine onC_mk _ L1 ?_
      simp -implicitDefEqProofs [hM4, hM5, hMl, o0', c0']
      refine postH_r ⟨?_, ?_, ?_, ?_, ?_, ?_⟩ <;> simp -implicitDefEqProofs [hic, hb, hmp]
    · have o0' : (x.g.o != 0) = true := by simp [o0]
      rw [if_neg o0, if_neg c0, if_neg o0, e1', e2']
      have hd : (decide (x.g.o ≠ 0) || decide (x.g.c ≠ 0)) = true := by simp [c0, o0]
      rw [hd]
      simp -implicitDefEqProofs [c103, hM4, hM5, hM1, hMl, hMc, c0', o0']
      refine onC_mk _ L1 ?_
      simp -implicitDefEqProofs [hM4, hM5, hM1, hMl, hMt, hMs, o0', c0']
      refine onC_mk _ CS ?_
      simp -implicitDefEqProofs
      refine onC_mk _ L2 ?_
      simp -implicitDefEqProofs
      refine postH_r ⟨?_, ?_, ?_, ?_, ?_, ?_⟩ <;> simp -implicitDefEqProofs [hic, hb, hmp]
end Go.Ai
set_option linter.unusedSimpArgs false
set_option linter.unusedVariables false
namespace Go.Ai
open Go.Proofs
def outOf (x : GV) : Nat × Nat := (outN (decide (lftOf x < 0)) (lftOf x).natAbs ((cntOf x.ws (leastOf x.g.ru)).2 - (cntOf x.ws (leastOf x.g.ru)).1) (leastOf x.g.ru)).1
def goalOf (x : GV) : GRp :=
  if x.st = true then ⟨x.g.n, true, 0, 0, 0, 0, rulesOf x⟩
  else if hasB x = false then ⟨x.g.n, false, 0, 0, 1, 0, rulesOf x⟩
  else ⟨x.g.n, false, rolOf x, calOf x, (outOf x).1, (outOf x).2, rulesOf x⟩
theorem GRp_row (x : GRp) : x.row = [.str x.n, .bool x.st] ++ sgC x.ro ++ sgC x.ca ++ [i6 x.ok, u (x.ot / 18446744073709551616), u (x.ot % 18446744073709551616), .sl (x.rs.map RRp.row)] := rfl
theorem absub (a b c : Nat) (ha : a ≤ c) (hb : b ≤ c) : ((a : Int) - (b : Int)).natAbs ≤ c := by omega
theorem leftZ_b (t g n : Nat) (hn : n < 18446744073709551616) : (leftZ t g n).natAbs < 340282366920938463463374607431768211456 := by
  unfold leftZ
  split
  · refine Nat.lt_of_le_of_lt (absub _ _ (n * 1000000) (Nat.mul_le_mul_left n (Nat.sub_le 1000000 t)) (Nat.mul_le_mul_right 1000000 (Nat.sub_le n g))) ?_
    omega
  · decide
theorem lftOf_b (x : GV) (ok : GVok x) : (lftOf x).natAbs < 340282366920938463463374607431768211456 := by
  unfold lftOf calOf rolOf
  split
  · split
    · decide
    · exact leftZ_b _ _ _ ok.cn
  · exact leftZ_b _ _ _ (cntOf_ok ok.ws _).2
theorem has_zero {x : GV} (h : hasB x = false) : rolOf x = 0 ∧ calOf x = 0 := by
  rw [hasB, Bool.or_eq_false_iff] at h
  have h1 : x.g.o = 0 := by simpa using h.1
  have h2 : x.g.c = 0 := by simpa using h.2
  unfold rolOf calOf
  rw [if_pos h1, if_pos h2]
  exact ⟨rfl, rfl⟩
set_option maxRecDepth 40000 in
theorem goal_spec (x : GV) (ok : GVok x) : Sp Tryz.prog gl 47 [.agg x.row] (.agg (goalOf x).row) := by
  refine s47 rfl rfl ?_
  obtain ⟨R, hR⟩ : ∃ R, R = (goalOf x).row := ⟨_, rfl⟩
  rw [← hR]
  have RU := rules_spec x ok
  have LS := least_spec x.g.ru (by have := ok.nr; omega) ok.ru
  have CS := count_spec x (leastOf x.g.ru) ok.nw
  have cc := cntOf_ok ok.ws (leastOf x.g.ru)
  have lb := leastOf_b x.g.ru ok.ru
  have FS := forecast_spec (decide (lftOf x < 0)) (lftOf x).natAbs ((cntOf x.ws (leastOf x.g.ru)).2 - (cntOf x.ws (leastOf x.g.ru)).1) (leastOf x.g.ru) (lftOf_b x ok) (by omega) lb.1 lb.2
  have BU := fun d (h : (Id.n 3).isNw d = false) n st RS => budgets_spec x ok d (.n 3) rfl h n st RS
  have hz := @has_zero x
  unfold goalOf outOf at hR
  obtain ⟨M, hM⟩ : ∃ M, M = x.row := ⟨_, rfl⟩
  rw [← hM] at RU CS BU ⊢
  have hM0' : ∀ h : 0 < M.length, M[0] = (.str x.g.n) := by intro h; subst hM; rfl
  have hM7 : ∀ h : 7 < M.length, M[7] = (.sl (x.g.ru.map Ru.row)) := by intro h; subst hM; rfl
  have hM8 : ∀ h : 8 < M.length, M[8] = (.bool x.st) := by intro h; subst hM; rfl
  have hMl : M.length = 15 := by subst hM; rfl
  have hMt : M.take 15 = M := List.take_of_length_le (by omega)
  have hM0 : idsL M = [] := by subst hM; rfl
  have hMs : shutL M = some M := by subst hM; rfl
  clear hM
  generalize (outN (decide (lftOf x < 0)) (lftOf x).natAbs ((cntOf x.ws (leastOf x.g.ru)).2 - (cntOf x.ws (leastOf x.g.ru)).1) (leastOf x.g.ru)) = ou at *
  have w1 : IntKind.u64.wrap (((cntOf x.ws (leastOf x.g.ru)).2 : Int) - (cntOf x.ws (leastOf x.g.ru)).1) = (((cntOf x.ws (leastOf x.g.ru)).2 - (cntOf x.ws (leastOf x.g.ru)).1 : Nat) : Int) := by rw [wrap_u64] <;> omega
  have FS : Sp Tryz.prog gl 106 [sgi (lftOf x), u (((cntOf x.ws (leastOf x.g.ru)).2 - (cntOf x.ws (leastOf x.g.ru)).1 : Nat)), i6 (leastOf x.g.ru)] (.tup [outw ou.1.1 ou.1.2, i6 ou.2]) := FS
  obtain ⟨b3, h3, l3, e3, e3'⟩ := sgi_cells (lftOf x)
  obtain ⟨b2, h2, l2, e2, e2'⟩ := sgi_cells (rolOf x)
  obtain ⟨b1, h1, l1, e1, e1'⟩ := sgi_cells (calOf x)
  rw [e3] at FS
  have BU := fun d (h : (Id.n 3).isNw d = false) n st RS => BU d h n st RS
  simp only [e1', e2', e3'] at BU
  simp only [outw, outl] at FS
  generalize (cntOf x.ws (leastOf x.g.ru)).2 - (cntOf x.ws (leastOf x.g.ru)).1 = bad at *
  simp only [cnt] at CS
  cases hst : x.st
  · rw [hst] at hM8 hR
    simp only [Bool.false_eq_true, if_false] at hR
    cases hh : hasB x
    · rw [if_pos hh] at hR
      obtain ⟨z1, z2⟩ := hz hh
      simp only [hh] at BU
      rw [z1, sgC_zero] at e2'
      rw [z2, sgC_zero] at e1'
      obtain ⟨rfl, rfl, rfl⟩ : b2 = false ∧ h2 = 0 ∧ l2 = 0 := by
        simp at e2'
        exact ⟨e2'.1, by omega, by omega⟩
      obtain ⟨rfl, rfl, rfl⟩ : b1 = false ∧ h1 = 0 ∧ l1 = 0 := by
        simp at e1'
        exact ⟨e1'.1, by omega, by omega⟩
      subst hR
      rw [GRp_row]
      simp only [sgC_zero]
      generalize (rulesOf x).map RRp.row = RW at *
      have B1 := fun d h => BU d h x.g.n false RW
      clear FS CS LS hz BU
      simp -implicitDefEqProofs [c47, hM0', hM8, hMl, hMt, hMs]
      refine onC_mk _ RU ?_
      simp -implicitDefEqProofs [hM8, hMl, hMt]
      refine onH_mk _ _ (B1 _ rfl) ⟨?_, ?_, ?_, ?_, ?_, ?_, ?_⟩ ?_
      iterate 7 (· simp -implicitDefEqProofs)
      simp -implicitDefEqProofs
    · rw [if_neg (by rw [hh]; simp)] at hR
      simp only [hh] at BU
      subst hR
      rw [GRp_row]
      simp only [e1', e2']
      generalize (rulesOf x).map RRp.row = RW at *
      have B1 := fun d h => BU d h x.g.n false RW
      clear hz BU
      simp -implicitDefEqProofs [c47, hM0', hM8, hMl, hMt, hMs]
      refine onC_mk _ RU ?_
      simp -implicitDefEqProofs [hM8, hMl, hMt]
      refine onH_mk _ _ (B1 _ rfl) ⟨?_, ?_, ?_, ?_, ?_, ?_, ?_⟩ ?_
      iterate 7 (· simp -implicitDefEqProofs)
      simp -implicitDefEqProofs [hM7, hMl]
      refine onC_mk _ LS ?_
      simp -implicitDefEqProofs [hMl, hMt, hMs]
      refine onC_mk _ CS ?_
      simp -implicitDefEqProofs [w1]
      refine onC_mk _ FS ?_
      simp -implicitDefEqProofs
  · rw [hst] at hM8 hR
    simp only [if_true] at hR
    subst hR
    rw [GRp_row]
    simp only [sgC_zero]
    generalize (rulesOf x).map RRp.row = RW at *
    clear FS CS LS hz BU
    simp -implicitDefEqProofs [c47, hM0', hM8, hMl, hMt, hMs]
    refine onC_mk _ RU ?_
    simp -implicitDefEqProofs [hM8, hMl, hMt]
end Go.Ai
set_option linter.unusedSimpArgs false
set_option linter.unusedVariables false
namespace Go.Ai
open Go.Proofs
theorem leastOf_take (l : List Ru) (i : Nat) (h : i < l.length) : leastOf (l.take (i + 1)) = if i = 0 ∨ l[i].s < leastOf (l.take i) then l[i].s else leastOf (l.take i) := by
  cases l with
  | nil => simp at h
  | cons x r =>
    cases i with
    | zero => simp [leastOf, leastGo]
    | succ i =>
      have hi : i < r.length := by simpa using h
      simp only [List.take_succ_cons, leastOf, List.getElem_cons_succ]
      rw [leastGo_take x.s r i hi]
      simp
def z12 : List AV := [.str [], .bool false, .bool false, u 0, u 0, .bool false, u 0, u 0, i6 0, u 0, u 0, .nils]
set_option maxRecDepth 40000 in
theorem rgoal_tail (x : GV) (ok : GVok x) (RW : List (List AV)) (hRW : RW = (rulesOf x).map RRp.row) (M : List AV) (hM : M = x.row) (e : List (Nat × AV))
    (e1 : lk e 1 = .ptr (.n 1) 0) (e2 : lk e 2 = .ptr (.n 2) 0) (e3 : lk e 3 = .ptr (.n 3) 0) (e4 : lk e 4 = i6 (leastOf x.g.ru)) :
    wpA (SpH Tryz.prog gl) (AC.tl 4 c48) (postA [.ca 2 12] (.agg (goalOf x).row)) ⟨e, [(.n 1, M), (.n 2, [.str [], .bool false, .bool false, u 0, u 0, .bool false, u 0, u 0, i6 0, u 0, u 0, .nils]), (.n 3, [.str x.g.n, .bool x.st, .bool false, u 0, u 0, .bool false, u 0, u 0, i6 0, u 0, u 0, .sl RW])], [(.b (.n 3) 11, 5)]⟩ := by
  simp only [c48, AC.tl]
  obtain ⟨R, hR⟩ : ∃ R, R = (goalOf x).row := ⟨_, rfl⟩
  rw [← hR]
  have C0 := rcount_spec x x.g.o ok.nw
  have CS := rcount_spec x (leastOf x.g.ru) ok.nw
  have cc := cntOf_ok ok.ws (leastOf x.g.ru)
  have lb := leastOf_b x.g.ru ok.ru
  have FS := rforecast_spec (decide (lftOf x < 0)) (lftOf x).natAbs ((cntOf x.ws (leastOf x.g.ru)).2 - (cntOf x.ws (leastOf x.g.ru)).1) (leastOf x.g.ru) (lftOf_b x ok) (by omega) lb.1 lb.2
  have L1 := rleft_spec x.g.t x.cg x.cn ok.t ok.cn
  have L2 := rleft_spec x.g.t (cntOf x.ws x.g.o).1 (cntOf x.ws x.g.o).2 ok.t (cntOf_ok ok.ws x.g.o).2
  have FS : Sp Tryz.prog gl 110 [sgi (lftOf x), u (((cntOf x.ws (leastOf x.g.ru)).2 - (cntOf x.ws (leastOf x.g.ru)).1 : Nat)), i6 (leastOf x.g.ru)] (.tup [outw (outOf x).1 (outOf x).2, i6 (outN (decide (lftOf x < 0)) (lftOf x).natAbs ((cntOf x.ws (leastOf x.g.ru)).2 - (cntOf x.ws (leastOf x.g.ru)).1) (leastOf x.g.ru)).2]) := FS
  unfold goalOf hasB at hR
  rw [← hM] at CS C0
  have hM1 : ∀ h : 1 < M.length, M[1] = (u32 x.g.t) := by intro h; subst hM; rfl
  have hM4 : ∀ h : 4 < M.length, M[4] = (i6 x.g.o) := by intro h; subst hM; rfl
  have hM5 : ∀ h : 5 < M.length, M[5] = (i6 x.g.c) := by intro h; subst hM; rfl
  have hM8 : ∀ h : 8 < M.length, M[8] = (.bool x.st) := by intro h; subst hM; rfl
  have hMc : List.take 2 (List.drop 12 M) = [u x.cg, u x.cn] := by subst hM; rfl
  have hMl : M.length = 15 := by subst hM; rfl
  have hMt : M.take 15 = M := List.take_of_length_le (by omega)
  have hM0 : idsL M = [] := by subst hM; rfl
  have hMs : shutL M = some M := by subst hM; rfl
  clear hM
  have w1 : IntKind.u64.wrap (((cntOf x.ws (leastOf x.g.ru)).2 : Int) - (cntOf x.ws (leastOf x.g.ru)).1) = (((cntOf x.ws (leastOf x.g.ru)).2 - (cntOf x.ws (leastOf x.g.ru)).1 : Nat) : Int) := by rw [wrap_u64] <;> omega
  generalize (outN (decide (lftOf x < 0)) (lftOf x).natAbs ((cntOf x.ws (leastOf x.g.ru)).2 - (cntOf x.ws (leastOf x.g.ru)).1) (leastOf x.g.ru)).2 = oc at *
  generalize outOf x = ou at *
  simp only [outw, outl] at FS
  generalize (cntOf x.ws (leastOf x.g.ru)).2 - (cntOf x.ws (leastOf x.g.ru)).1 = bad at *
  simp only [cnt] at CS L1
  cases hst : x.st
  · rw [hst] at hM8 hR
    simp only [Bool.false_eq_true, if_false] at hR
    unfold lftOf rolOf calOf at *
    obtain ⟨b1, h1, l1, q1, q1'⟩ := sgi_cells (leftZ x.g.t x.cg x.cn)
    obtain ⟨b2, h2, l2, q2, q2'⟩ := sgi_cells (leftZ x.g.t (cntOf x.ws x.g.o).1 (cntOf x.ws x.g.o).2)
    rw [q1] at L1
    rw [q2] at L2
    by_cases o0 : x.g.o = 0
    · have o0' : (x.g.o != 0) = false := by simp [o0]
      have o0'' : (x.g.o == 0) = true := by simp [o0]
      simp only [if_pos o0] at FS hR
      by_cases c0 : x.g.c = 0
      · have c0' : (x.g.c != 0) = false := by simp [c0]
        have c0'' : (x.g.c == 0) = true := by simp [c0]
        have hd : (decide (x.g.o ≠ 0) || decide (x.g.c ≠ 0)) = false := by simp [c0, o0]
        rw [if_pos hd] at hR
        subst hR
        rw [GRp_row]
        simp only [sgC_zero, ← hRW]
        clear FS CS C0 L1 L2
        simp -implicitDefEqProofs [e1, e2, e3, e4, hM8, hM4, hM5, hMl, o0', o0'', c0', c0'']
      · have c0' : (x.g.c != 0) = true := by simp [c0]
        have c0'' : (x.g.c == 0) = false := by simp [c0]
        have hd : ¬ (decide (x.g.o ≠ 0) || decide (x.g.c ≠ 0)) = false := by simp [c0, o0]
        rw [if_neg hd] at hR
        simp only [if_neg c0, q1] at FS hR
        subst hR
        rw [GRp_row]
        simp only [sgC_zero, q1', ← hRW]
        clear C0 L2
        simp -implicitDefEqProofs [e1, e2, e3, e4, hM8, hM4, hM5, hM1, hMc, hMl, hMt, hMs, o0', o0'', c0', c0'']
        refine onC_mk _ L1 ?_
        simp -implicitDefEqProofs [e1, e2, e3, e4, hM8, hM4, hM5, hM1, hMc, hMl, hMt, hMs, o0', o0'', c0', c0'']
        refine onC_mk _ CS ?_
        simp -implicitDefEqProofs [w1, e1, e2, e3, e4]
        refine onC_mk _ FS ?_
        simp -implicitDefEqProofs [e1, e2, e3, e4]
    · have o0' : (x.g.o != 0) = true := by simp [o0]
      have o0'' : (x.g.o == 0) = false := by simp [o0]
      have hd : ¬ (decide (x.g.o ≠ 0) || decide (x.g.c ≠ 0)) = false := by simp [o0]
      rw [if_neg hd] at hR
      simp only [if_neg o0, q2] at FS hR
      by_cases c0 : x.g.c = 0
      · have c0' : (x.g.c != 0) = false := by simp [c0]
        simp only [if_pos c0] at hR
        subst hR
        rw [GRp_row]
        simp only [sgC_zero, q2', ← hRW]
        clear L1
        simp -implicitDefEqProofs [e1, e2, e3, e4, hM8, hM4, hM5, hM1, hMc, hMl, hMt, hMs, o0', o0'', c0']
        refine onC_mk _ C0 ?_
        simp -implicitDefEqProofs [e1, e2, e3, e4]
        refine onC_mk _ L2 ?_
        simp -implicitDefEqProofs [e1, e2, e3, e4, hM8, hM4, hM5, hM1, hMc, hMl, hMt, hMs, o0', o0'', c0']
        refine onC_mk _ CS ?_
        simp -implicitDefEqProofs [w1, e1, e2, e3, e4]
        refine onC_mk _ FS ?_
        simp -implicitDefEqProofs [e1, e2, e3, e4]
      · have c0' : (x.g.c != 0) = true := by simp [c0]
        simp only [if_neg c0, q1] at hR
        subst hR
        rw [GRp_row]
        simp only [q1', q2', ← hRW]
        simp -implicitDefEqProofs [e1, e2, e3, e4, hM8, hM4, hM5, hM1, hMc, hMl, hMt, hMs, o0', o0'', c0']
        refine onC_mk _ C0 ?_
        simp -implicitDefEqProofs [e1, e2, e3, e4]
        refine onC_mk _ L2 ?_
        simp -implicitDefEqProofs [e1, e2, e3, e4, hM8, hM4, hM5, hM1, hMc, hMl, hMt, hMs, o0', o0'', c0']
        refine onC_mk _ L1 ?_
        simp -implicitDefEqProofs [e1, e2, e3, e4, hM8, hM4, hM5, hM1, hMc, hMl, hMt, hMs, o0', o0'', c0']
        refine onC_mk _ CS ?_
        simp -implicitDefEqProofs [w1, e1, e2, e3, e4]
        refine onC_mk _ FS ?_
        simp -implicitDefEqProofs [e1, e2, e3, e4]
  · rw [hst] at hM8 hR
    simp only [if_true] at hR
    subst hR
    rw [GRp_row]
    simp only [sgC_zero, ← hRW]
    clear FS CS C0 L1 L2
    simp -implicitDefEqProofs [e1, e2, e3, e4, hM8, hMl]
end Go.Ai
set_option linter.unusedSimpArgs false
set_option linter.unusedVariables false
namespace Go.Ai
open Go.Proofs
set_option maxRecDepth 40000 in
theorem rgoal_spec (x : GV) (ok : GVok x) : Sp Tryz.prog gl 48 [.agg x.row] (.agg (goalOf x).row) := by
  refine s48 rfl rfl ?_
  have T := fun e e1 e2 e3 e4 => rgoal_tail x ok ((rulesOf x).map RRp.row) rfl x.row rfl e e1 e2 e3 e4
  obtain ⟨R, hR⟩ : ∃ R, R = (goalOf x).row := ⟨_, rfl⟩
  rw [← hR] at T ⊢
  clear hR
  have CS := fun w => rcount_spec x w ok.nw
  have RS := fun w => rrate_spec x.g.t (cntOf x.ws w).1 (cntOf x.ws w).2 ok.t (by have := cntOf_ok ok.ws w; omega) (cntOf_ok ok.ws w).2
  obtain ⟨M, hM⟩ : ∃ M, M = x.row := ⟨_, rfl⟩
  rw [← hM] at CS T ⊢
  have hM0' : ∀ h : 0 < M.length, M[0] = (.str x.g.n) := by intro h; subst hM; rfl
  have hM1 : ∀ h : 1 < M.length, M[1] = (u32 x.g.t) := by intro h; subst hM; rfl
  have hM7 : ∀ h : 7 < M.length, M[7] = (.sl (x.g.ru.map Ru.row)) := by intro h; subst hM; rfl
  have hM8 : ∀ h : 8 < M.length, M[8] = (.bool x.st) := by intro h; subst hM; rfl
  have hM14 : ∀ h : 14 < M.length, M[14] = (.sl (x.al.map Al.row)) := by intro h; subst hM; rfl
  have hMl : M.length = 15 := by subst hM; rfl
  have hMt : M.take 15 = M := List.take_of_length_le (by omega)
  have hM0 : idsL M = [] := by subst hM; rfl
  have hMs : shutL M = some M := by subst hM; rfl
  have hlim : lim = 140737488355328 := rfl
  have nr := ok.nr
  have na := ok.na
  clear hM
  have ec : c48 = AC.cutAt 4 (AC.tl 4 c48) c48 := rfl
  rw [ec]
  generalize AC.tl 4 c48 = t at T ⊢
  simp only [c48, AC.cutAt]
  have rlw : (x.g.ru.map Ru.row).length = x.g.ru.length := by simp
  simp -implicitDefEqProofs [hM0', hM8, hMl]
  refine wp_lpk (α := Nat) (fun i => ⟨[(1, .ptr (.n 1) 0), (2, .ptr (.n 2) 0), (3, .ptr (.n 3) 0), (4, i6 (leastOf (x.g.ru.take i))), (5, i6 i)], [(.n 1, M), (.n 2, [.str [], .bool false, .bool false, u 0, u 0, .bool false, u 0, u 0, i6 0, u 0, u 0, .nils]), (.n 3, [.str x.g.n, .bool x.st, .bool false, u 0, u 0, .bool false, u 0, u 0, i6 0, u 0, u 0, .sl ((rulesTo x i).map RRp.row)])], [(.b (.n 3) 11, 5)]⟩)
    (fun i => i ≤ x.g.ru.length) (fun i => x.g.ru.length - i) ?_ 0 ?_ ?_
  · rintro K i hK h1
    by_cases gi : i < x.g.ru.length
    · have t1 : IntKind.i64.wrap ((i : Int) + 1) = (i + 1 : Nat) := by rw [wrap_i64] <;> omega
      have gR : i < (x.g.ru.map Ru.row).length := by simpa using gi
      have ra := ru_at x.g.ru i gi gR
      have r5 := rr5 (rulesTo x i)
      have rln : ((rulesTo x i).map RRp.row).length = i := by simp [rulesTo_len]
      have q3 : (i + 1) * 48 ≤ 140737488355328 := by omega
      have fin : ∀ σ', Weak σ' ⟨[(1, .ptr (.n 1) 0), (2, .ptr (.n 2) 0), (3, .ptr (.n 3) 0), (4, i6 (leastOf (x.g.ru.take (i + 1)))), (5, i6 (i + 1 : Nat))], [(.n 1, M), (.n 2, [.str [], .bool false, .bool false, u 0, u 0, .bool false, u 0, u 0, i6 0, u 0, u 0, .nils]), (.n 3, [.str x.g.n, .bool x.st, .bool false, u 0, u 0, .bool false, u 0, u 0, i6 0, u 0, u 0, .sl ((rulesTo x (i + 1)).map RRp.row)])], [(.b (.n 3) 11, 5)]⟩ → K σ' :=
        fun σ' hσ => hK (i + 1) σ' (by omega) (by omega) hσ
      have hnx : (rulesTo x (i + 1)).map RRp.row = (rulesTo x i).map RRp.row ++ [[.str x.g.ru[i].n, .bool x.g.ru[i].p, i6 (phOf x.al i), u (if x.st = true then 0 else (rateN x.g.t (cntOf x.ws x.g.ru[i].l).1 (cntOf x.ws x.g.ru[i].l).2).1), u (if x.st = true then 0 else (rateN x.g.t (cntOf x.ws x.g.ru[i].s).1 (cntOf x.ws x.g.ru[i].s).2).1)]] := by
        simp only [rulesTo, List.map_append, List.map_cons, List.map_nil, ruleOf, RRp_row, ruAt_get x.g.ru i gi]
      rw [hnx, leastOf_take x.g.ru i gi] at fin
      clear hnx hK T
      have C1 := CS x.g.ru[i].l
      have C2 := CS x.g.ru[i].s
      have R1 := RS x.g.ru[i].l
      have R2 := RS x.g.ru[i].s
      clear CS RS
      generalize rateN x.g.t (cntOf x.ws x.g.ru[i].l).1 (cntOf x.ws x.g.ru[i].l).2 = ra1 at *
      generalize rateN x.g.t (cntOf x.ws x.g.ru[i].s).1 (cntOf x.ws x.g.ru[i].s).2 = ra2 at *
      generalize cntOf x.ws x.g.ru[i].l = cc1 at *
      generalize cntOf x.ws x.g.ru[i].s = cc2 at *
      generalize leastOf (x.g.ru.take i) = W at *
      generalize x.g.ru[i] = a at *
      generalize (rulesTo x i).map RRp.row = AC0 at *
      generalize x.g.ru.map Ru.row = RW at *
      by_cases z : i = 0
      · rw [if_pos (Or.inl z)] at fin
        have z' : ((i : Int) == 0) = true := by simp [z]
        by_cases ga : i < x.al.length
        · have gA : i < (x.al.map Al.row).length := by simpa using ga
          have aa := al_at x.al i ga gA
          have hph : phOf x.al i = x.al[i].ph := by simp [phOf, ga]
          rw [hph] at fin
          clear hph
          have alen : (x.al.map Al.row).length = x.al.length := by simp
          generalize x.al[i] = b at *
          generalize x.al.map Al.row = AW at *
          cases hst : x.st
          · rw [hst] at hM8 fin
            simp only [Bool.false_eq_true, if_false] at fin
            simp -implicitDefEqProofs [gi, gR, ra, hM1, hM7, hM8, hM14, hMl, hMt, hMs, rlw, alen, z', ga, gA, aa]
            refine onC_mk _ C1 ?_
            simp -implicitDefEqProofs
            refine onC_mk _ R1 ?_
            simp -implicitDefEqProofs [hMl, hMt, hMs, hM1]
            refine onC_mk _ C2 ?_
            simp -implicitDefEqProofs
            refine onC_mk _ R2 ?_
            simp -implicitDefEqProofs [hlim, rln, q3]
            refine ⟨r5, fin _ (weak_mk ?_ ?_ ?_ ?_ ?_ ?_)⟩ <;> simp -implicitDefEqProofs [t1, hM0]
          · rw [hst] at hM8 fin
            simp only [if_true] at fin
            simp -implicitDefEqProofs [gi, gR, ra, hM1, hM7, hM8, hM14, hMl, hMt, hMs, rlw, alen, z', ga, gA, aa, hlim, rln, q3]
            refine ⟨r5, fin _ (weak_mk ?_ ?_ ?_ ?_ ?_ ?_)⟩ <;> simp -implicitDefEqProofs [t1, hM0]
        · have ga' : ¬ (i : Int) < x.al.length := by omega
          have hph : phOf x.al i = 0 := by
            unfold phOf
            rw [List.getElem?_eq_none (by omega)]
          rw [hph] at fin
          clear hph
          have alen : (x.al.map Al.row).length = x.al.length := by simp
          generalize x.al.map Al.row = AW at *
          cases hst : x.st
          · rw [hst] at hM8 fin
            simp only [Bool.false_eq_true, if_false] at fin
            simp -implicitDefEqProofs [gi, gR, ra, hM1, hM7, hM8, hM14, hMl, hMt, hMs, rlw, alen, z', ga, ga']
            refine onC_mk _ C1 ?_
            simp -implicitDefEqProofs
            refine onC_mk _ R1 ?_
            simp -implicitDefEqProofs [hMl, hMt, hMs, hM1]
            refine onC_mk _ C2 ?_
            simp -implicitDefEqProofs
            refine onC_mk _ R2 ?_
            simp -implicitDefEqProofs [hlim, rln, q3]
            refine ⟨r5, fin _ (weak_mk ?_ ?_ ?_ ?_ ?_ ?_)⟩ <;> simp -implicitDefEqProofs [t1, hM0]
          · rw [hst] at hM8 fin
            simp only [if_true] at fin
            simp -implicitDefEqProofs [gi, gR, ra, hM1, hM7, hM8, hM14, hMl, hMt, hMs, rlw, alen, z', ga, ga', hlim, rln, q3]
            refine ⟨r5, fin _ (weak_mk ?_ ?_ ?_ ?_ ?_ ?_)⟩ <;> simp -implicitDefEqProofs [t1, hM0]
      · have z' : ((i : Int) == 0) = false := by simp [z]
        by_cases s0 : a.s < W
        · rw [if_pos (Or.inr s0)] at fin
          by_cases ga : i < x.al.length
          · have gA : i < (x.al.map Al.row).length := by simpa using ga
            have aa := al_at x.al i ga gA
            have hph : phOf x.al i = x.al[i].ph := by simp [phOf, ga]
            rw [hph] at fin
            clear hph
            have alen : (x.al.map Al.row).length = x.al.length := by simp
            generalize x.al[i] = b at *
            generalize x.al.map Al.row = AW at *
            cases hst : x.st
            · rw [hst] at hM8 fin
              simp only [Bool.false_eq_true, if_false] at fin
              simp -implicitDefEqProofs [gi, gR, ra, hM1, hM7, hM8, hM14, hMl, hMt, hMs, rlw, alen, z', s0, ga, gA, aa]
              refine onC_mk _ C1 ?_
              simp -implicitDefEqProofs
              refine onC_mk _ R1 ?_
              simp -implicitDefEqProofs [hMl, hMt, hMs, hM1]
              refine onC_mk _ C2 ?_
              simp -implicitDefEqProofs
              refine onC_mk _ R2 ?_
              simp -implicitDefEqProofs [hlim, rln, q3]
              refine ⟨r5, fin _ (weak_mk ?_ ?_ ?_ ?_ ?_ ?_)⟩ <;> simp -implicitDefEqProofs [t1, hM0]
            · rw [hst] at hM8 fin
              simp only [if_true] at fin
              simp -implicitDefEqProofs [gi, gR, ra, hM1, hM7, hM8, hM14, hMl, hMt, hMs, rlw, alen, z', s0, ga, gA, aa, hlim, rln, q3]
              refine ⟨r5, fin _ (weak_mk ?_ ?_ ?_ ?_ ?_ ?_)⟩ <;> simp -implicitDefEqProofs [t1, hM0]
          · have ga' : ¬ (i : Int) < x.al.length := by omega
            have hph : phOf x.al i = 0 := by
              unfold phOf
              rw [List.getElem?_eq_none (by omega)]
            rw [hph] at fin
            clear hph
            have alen : (x.al.map Al.row).length = x.al.length := by simp
            generalize x.al.map Al.row = AW at *
            cases hst : x.st
            · rw [hst] at hM8 fin
              simp only [Bool.false_eq_true, if_false] at fin
              simp -implicitDefEqProofs [gi, gR, ra, hM1, hM7, hM8, hM14, hMl, hMt, hMs, rlw, alen, z', s0, ga, ga']
              refine onC_mk _ C1 ?_
              simp -implicitDefEqProofs
              refine onC_mk _ R1 ?_
              simp -implicitDefEqProofs [hMl, hMt, hMs, hM1]
              refine onC_mk _ C2 ?_
              simp -implicitDefEqProofs
              refine onC_mk _ R2 ?_
              simp -implicitDefEqProofs [hlim, rln, q3]
              refine ⟨r5, fin _ (weak_mk ?_ ?_ ?_ ?_ ?_ ?_)⟩ <;> simp -implicitDefEqProofs [t1, hM0]
            · rw [hst] at hM8 fin
              simp only [if_true] at fin
              simp -implicitDefEqProofs [gi, gR, ra, hM1, hM7, hM8, hM14, hMl, hMt, hMs, rlw, alen, z', s0, ga, ga', hlim, rln, q3]
              refine ⟨r5, fin _ (weak_mk ?_ ?_ ?_ ?_ ?_ ?_)⟩ <;> simp -implicitDefEqProofs [t1, hM0]
        · rw [if_neg (fun h => h.elim z s0)] at fin
          by_cases ga : i < x.al.length
          · have gA : i < (x.al.map Al.row).length := by simpa using ga
            have aa := al_at x.al i ga gA
            have hph : phOf x.al i = x.al[i].ph := by simp [phOf, ga]
            rw [hph] at fin
            clear hph
            have alen : (x.al.map Al.row).length = x.al.length := by simp
            generalize x.al[i] = b at *
            generalize x.al.map Al.row = AW at *
            cases hst : x.st
            · rw [hst] at hM8 fin
              simp only [Bool.false_eq_true, if_false] at fin
              simp -implicitDefEqProofs [gi, gR, ra, hM1, hM7, hM8, hM14, hMl, hMt, hMs, rlw, alen, z', s0, ga, gA, aa]
              refine onC_mk _ C1 ?_
              simp -implicitDefEqProofs
              refine onC_mk _ R1 ?_
              simp -implicitDefEqProofs [hMl, hMt, hMs, hM1]
              refine onC_mk _ C2 ?_
              simp -implicitDefEqProofs
              refine onC_mk _ R2 ?_
              simp -implicitDefEqProofs [hlim, rln, q3]
              refine ⟨r5, fin _ (weak_mk ?_ ?_ ?_ ?_ ?_ ?_)⟩ <;> simp -implicitDefEqProofs [t1, hM0]
            · rw [hst] at hM8 fin
              simp only [if_true] at fin
              simp -implicitDefEqProofs [gi, gR, ra, hM1, hM7, hM8, hM14, hMl, hMt, hMs, rlw, alen, z', s0, ga, gA, aa, hlim, rln, q3]
              refine ⟨r5, fin _ (weak_mk ?_ ?_ ?_ ?_ ?_ ?_)⟩ <;> simp -implicitDefEqProofs [t1, hM0]
          · have ga' : ¬ (i : Int) < x.al.length := by omega
            have hph : phOf x.al i = 0 := by
              unfold phOf
              rw [List.getElem?_eq_none (by omega)]
            rw [hph] at fin
            clear hph
            have alen : (x.al.map Al.row).length = x.al.length := by simp
            generalize x.al.map Al.row = AW at *
            cases hst : x.st
            · rw [hst] at hM8 fin
              simp only [Bool.false_eq_true, if_false] at fin
              simp -implicitDefEqProofs [gi, gR, ra, hM1, hM7, hM8, hM14, hMl, hMt, hMs, rlw, alen, z', s0, ga, ga']
              refine onC_mk _ C1 ?_
              simp -implicitDefEqProofs
              refine onC_mk _ R1 ?_
              simp -implicitDefEqProofs [hMl, hMt, hMs, hM1]
              refine onC_mk _ C2 ?_
              simp -implicitDefEqProofs
              refine onC_mk _ R2 ?_
              simp -implicitDefEqProofs [hlim, rln, q3]
              refine ⟨r5, fin _ (weak_mk ?_ ?_ ?_ ?_ ?_ ?_)⟩ <;> simp -implicitDefEqProofs [t1, hM0]
            · rw [hst] at hM8 fin
              simp only [if_true] at fin
              simp -implicitDefEqProofs [gi, gR, ra, hM1, hM7, hM8, hM14, hMl, hMt, hMs, rlw, alen, z', s0, ga, ga', hlim, rln, q3]
              refine ⟨r5, fin _ (weak_mk ?_ ?_ ?_ ?_ ?_ ?_)⟩ <;> simp -implicitDefEqProofs [t1, hM0]
    · obtain rfl : i = x.g.ru.length := by omega
      have hR' : (rulesTo x x.g.ru.length) = rulesOf x := rfl
      rw [hR', List.take_length]
      clear hK CS RS hR'
      generalize (rulesOf x).map RRp.row = RF at *
      generalize leastOf x.g.ru = W at *
      simp -implicitDefEqProofs [hM7, hMl, rlw]
      refine T _ ?_ ?_ ?_ ?_ <;> simp -implicitDefEqProofs
  · exact Nat.zero_le _
  · refine weak_mk ?_ ?_ ?_ ?_ ?_ ?_ <;> simp -implicitDefEqProofs [hM0, rulesTo, leastOf]
end Go.Ai
set_option linter.unusedSimpArgs false
set_option linter.unusedVariables false
namespace Go.Ai
open Go.Proofs
/-! ### Keys and messages, no program in sight -/
structure Ky where
  g : List UInt8
  r : List UInt8
  p : Bool
  e : Nat
  f : Bool
  deriving DecidableEq
structure Ms where
  g : List UInt8
  p : Bool
  ks : List Ky
  deriving DecidableEq
def Ky.row (k : Ky) : List AV := [.str k.g, .str k.r, .bool k.p, u k.e, .bool k.f]
def Ms.row (m : Ms) : List AV := [.str m.g, .bool m.p, .sl (m.ks.map Ky.row)]
def goes (m : Ms) (k : Ky) : Bool := m.g == k.g && m.p == k.p && decide (m.ks.length < 8)
/-- Where a key goes; below 0: nowhere. -/
def goIx : List Ms → Ky → Nat → Int
  | [], _, _ => -1
  | m :: r, k, i => if goes m k = true then i else goIx r k (i + 1)
def addK : List Ms → Ky → List Ms
  | [], k => [⟨k.g, k.p, [k]⟩]
  | m :: r, k => if goes m k = true then { m with ks := m.ks ++ [k] } :: r else m :: addK r k
def grp (l : List Ky) (pg : Bool) : List Ms := (l.filter fun k => k.p == pg).foldl addK []
def grpAll (l : List Ky) : List Ms := grp l true ++ grp l false
def keysOf (l : List Ms) : List Ky := (l.map Ms.ks).flatten

theorem goIx_none {k : Ky} : ∀ {l : List Ms} {i : Nat}, goIx l k i = -1 ↔ ∀ m ∈ l, goes m k = false
  | [], i => by simp [goIx]
  | m :: r, i => by
    simp only [goIx]
    split
    · rename_i h
      constructor
      · intro h2; omega
      · intro h2; have := h2 m (by simp); rw [h] at this; cases this
    · rename_i h
      rw [goIx_none]
      simp only [List.mem_cons, forall_eq_or_imp]
      constructor
      · intro h2; exact ⟨by simpa using h, h2⟩
      · intro h2; exact h2.2
theorem addK_none {k : Ky} : ∀ {l : List Ms}, (∀ m ∈ l, goes m k = false) → addK l k = l ++ [⟨k.g, k.p, [k]⟩]
  | [], _ => rfl
  | m :: r, h => by
    simp only [addK]
    rw [if_neg (by rw [h m (by simp)]; simp), addK_none (fun m hm => h m (by simp [hm]))]
    rfl
theorem goIx_some {k : Ky} : ∀ {l : List Ms} {i : Nat}, (∀ m ∈ l, goes m k = false) ∨ ∃ j m, l[j]? = some m ∧ goes m k = true ∧ goIx l k i = ((i + j : Nat) : Int) ∧ addK l k = l.set j { m with ks := m.ks ++ [k] }
  | [], i => .inl (by simp)
  | m :: r, i => by
    by_cases h : goes m k = true
    · right
      refine ⟨0, m, rfl, h, ?_, ?_⟩
      · simp only [goIx, if_pos h, Nat.add_zero]
      · simp only [addK, if_pos h, List.set_cons_zero]
    · rcases goIx_some (l := r) (i := i + 1) (k := k) with h2 | ⟨j, m', h2, h3, h4, h5⟩
      · left
        intro m' hm
        simp only [List.mem_cons] at hm
        rcases hm with rfl | hm
        · simpa using h
        · exact h2 m' hm
      · right
        refine ⟨j + 1, m', by simpa using h2, h3, ?_, ?_⟩
        · simp only [goIx, if_neg h, h4]
          congr 1; omega
        · simp only [addK, if_neg h, h5, List.set_cons_succ]
/-- The cells of messages, one behind the other. -/
def cellsM (l : List Ms) : List AV := (l.map Ms.row).flatten
theorem cellsM_len (l : List Ms) : (cellsM l).length = l.length * 3 := by
  unfold cellsM
  rw [flatten_length (k := 3)]
  · simp
  · intro r hr
    obtain ⟨m, _, rfl⟩ := List.mem_map.1 hr
    rfl
theorem flat_drop {k : Nat} : ∀ {l : List (List AV)}, (∀ r ∈ l, r.length = k) → ∀ j, l.flatten.drop (j * k) = (l.drop j).flatten
  | [], _, j => by simp
  | r :: l, h, 0 => by simp
  | r :: l, h, j + 1 => by
    have hr := h r (by simp)
    have : (j + 1) * k = r.length + j * k := by rw [hr, Nat.add_mul]; omega
    rw [List.flatten_cons, this, List.drop_append]
    have e1 : List.drop (r.length + j * k) r = [] := List.drop_eq_nil_of_le (by omega)
    rw [e1, List.nil_append, show r.length + j * k - r.length = j * k by omega, flat_drop (fun r hr => h r (by simp [hr]))]
    rfl
theorem cellsM_drop (l : List Ms) (j : Nat) : (cellsM l).drop (j * 3) = cellsM (l.drop j) := by
  unfold cellsM
  rw [flat_drop, List.map_drop]
  intro r hr
  obtain ⟨m, _, rfl⟩ := List.mem_map.1 hr
  rfl
theorem cellsM_row (l : List Ms) (j : Nat) (h : j < l.length) : ((cellsM l).drop (j * 3)).take 3 = (l[j]).row := by
  rw [cellsM_drop, List.drop_eq_getElem_cons h]
  rfl
theorem cellsM_ks (l : List Ms) (j : Nat) (h : j < l.length) : (cellsM l)[j * 3 + 2]? = some (.sl ((l[j]).ks.map Ky.row)) := by
  have e : (cellsM l)[j * 3 + 2]? = ((cellsM l).drop (j * 3))[2]? := by rw [List.getElem?_drop]
  rw [e, cellsM_drop, List.drop_eq_getElem_cons h]
  rfl
theorem cellsM_cons (m : Ms) (l : List Ms) : cellsM (m :: l) = m.row ++ cellsM l := rfl
theorem cellsM_app (a b : List Ms) : cellsM (a ++ b) = cellsM a ++ cellsM b := by simp [cellsM]
theorem cellsM_set (v : List Ky) : ∀ (l : List Ms) (j : Nat) (h : j < l.length), (cellsM l).set (j * 3 + 2) (.sl (v.map Ky.row)) = cellsM (l.set j { l[j] with ks := v })
  | m :: l, 0, _ => rfl
  | m :: l, j + 1, h => by
    simp only [List.set_cons_succ, cellsM_cons, List.getElem_cons_succ]
    rw [← cellsM_set v l j (by simpa using h), show (j + 1) * 3 + 2 = m.row.length + (j * 3 + 2) by simp [Ms.row]; omega, List.set_append_right _ _ (by omega)]
    congr 2; omega
theorem cellsM_new (l : List Ms) (g : List UInt8) (p : Bool) (v : List Ky) : (cellsM l ++ [AV.str g, AV.bool p, AV.nils]).set (l.length * 3 + 2) (.sl (v.map Ky.row)) = cellsM (l ++ [⟨g, p, v⟩]) := by
  rw [cellsM_app, List.set_append_right _ _ (by rw [cellsM_len]; omega), cellsM_len, show l.length * 3 + 2 - l.length * 3 = 2 by omega]
  rfl
theorem row_ids (k : Ky) : idsL k.row = [] := rfl
theorem mrow_ids (m : Ms) : idsL m.row = [] := rfl
theorem idsL_appB (a b : List AV) : idsL (a ++ b) = idsL a ++ idsL b := by
  induction a with
  | nil => rfl
  | cons x r ih => simp only [List.cons_append, idsL, ih, List.append_assoc]
theorem cellsM_ids : ∀ (l : List Ms), idsL (cellsM l) = []
  | [] => rfl
  | m :: l => by rw [cellsM_cons, idsL_appB, mrow_ids, cellsM_ids l]; rfl
theorem addK_length (l : List Ms) (k : Ky) : (addK l k).length ≤ l.length + 1 := by
  induction l with
  | nil => simp [addK]
  | cons m r ih =>
    simp only [addK]
    split
    · simp
    · simp only [List.length_cons]; omega

/-- The permissions of messages' keys in box 'b'. -/
def kPm (b : Id) (n : Nat) : List (Pl × Nat) := (List.range n).map fun i => (.b b (i * 3 + 2), 5)
theorem kPm_lk (b : Id) (n j : Nat) (h : j < n) : lkP (kPm b n) (.b b (j * 3 + 2)) = some 5 := by
  have : ∀ (l : List Nat), j ∈ l → lkP (l.map fun i => (Pl.b b (i * 3 + 2), 5)) (.b b (j * 3 + 2)) = some 5 := by
    intro l
    induction l with
    | nil => intro h; simp at h
    | cons x r ih =>
      intro h
      simp only [List.map_cons, lkP]
      split
      · rfl
      · rename_i hne
        simp only [List.mem_cons] at h
        rcases h with rfl | h
        · exact absurd rfl hne
        · exact ih h
  exact this _ (List.mem_range.2 h)
theorem kPm_mem {b : Id} {n : Nat} {p : Pl × Nat} (h : p ∈ kPm b n) : ∃ j, j < n ∧ p = (.b b (j * 3 + 2), 5) := by
  unfold kPm at h
  obtain ⟨j, hj, rfl⟩ := List.mem_map.1 h
  exact ⟨j, List.mem_range.1 hj, rfl⟩
theorem kPm_self {b : Id} {n : Nat} : ∀ p ∈ kPm b n, lkP (kPm b n) p.1 = some p.2 := by
  intro p hp
  obtain ⟨j, hj, rfl⟩ := kPm_mem hp
  exact kPm_lk b n j hj
theorem kPm_ids {b : Id} {n : Nat} {p : Pl × Nat} (hp : p ∈ kPm b n) {d : Id} (hd : d ∈ p.1.ids) : d = b := by
  obtain ⟨j, hj, rfl⟩ := kPm_mem hp
  simpa [Pl.ids] using hd
theorem mpP_kPm (f : Id → Id) (b : Id) (n : Nat) : mpP f (kPm b n) = kPm (f b) n := by
  unfold kPm
  induction List.range n with
  | nil => rfl
  | cons x r ih => simp only [List.map_cons, mpP, Pl.mp, ih]
theorem dlS_kPm (b : Id) (n d : Nat) : dlS (kPm b n) d = kPm b n := by
  unfold kPm
  induction List.range n with
  | nil => rfl
  | cons x r ih => simp only [List.map_cons, dlS, ih]
theorem dlB_kPm (b c : Id) (n : Nat) (h : b ≠ c) : dlB (kPm b n) c = kPm b n := by
  unfold kPm
  induction List.range n with
  | nil => rfl
  | cons x r ih => simp only [List.map_cons, dlB, ih, if_neg h]
theorem dlB_kPm_self (b : Id) (n : Nat) : dlB (kPm b n) b = [] := by
  unfold kPm
  induction List.range n with
  | nil => rfl
  | cons x r ih => simp only [List.map_cons, dlB, ih, if_true]
theorem rnP_kPm (b c : Id) (n : Nat) : rnP (kPm b n) b c = kPm c n := by
  unfold kPm
  induction List.range n with
  | nil => rfl
  | cons x r ih => simp only [List.map_cons, rnP, ih, if_true]
theorem dlXs_kPm (xs : List X) (b : Id) (n : Nat) (l : List (Pl × Nat)) : dlXs xs l (kPm b n) = l := by
  unfold kPm
  induction List.range n generalizing l with
  | nil => rfl
  | cons x r ih => simp only [List.map_cons, dlXs, ih]
theorem retP_kPm (d : Nat) (b : Id) (n : Nat) : retP d (kPm b n) = kPm b n := by
  unfold kPm
  induction List.range n with
  | nil => rfl
  | cons x r ih => simp only [List.map_cons, retP, ih]
theorem pmOne_kPm (xs : List X) (b : Id) (n : Nat) : pmOne xs (kPm b n) := by
  unfold kPm
  induction List.range n with
  | nil => trivial
  | cons x r ih => exact ih
theorem dlr_kPm (b c : Id) (n o m : Nat) (h : b ≠ c) : dlr (kPm b n) c o m = kPm b n := by
  unfold kPm
  induction List.range n with
  | nil => rfl
  | cons x r ih =>
    simp only [List.map_cons, dlr, ih]
    rw [if_neg (fun e => h e.1)]
theorem dl_kPm (b : Id) (n t : Nat) : dl (kPm b n) (.s t) = kPm b n := by
  unfold kPm
  induction List.range n with
  | nil => rfl
  | cons x r ih => simp only [List.map_cons, dl, ih]; rfl
theorem lkP_kPm (b : Id) (n t : Nat) : lkP (kPm b n) (.s t) = none := by
  unfold kPm
  induction List.range n with
  | nil => rfl
  | cons x r ih => simp only [List.map_cons, lkP, ih]; rfl
theorem dlS_app (a b : List (Pl × Nat)) (d : Nat) : dlS (a ++ b) d = dlS a d ++ dlS b d := by
  induction a with
  | nil => rfl
  | cons x r ih =>
    obtain ⟨p, k⟩ := x
    cases p with
    | s t => simp only [List.cons_append, dlS, ih]; split <;> rfl
    | t t i => simp only [List.cons_append, dlS, ih]; split <;> rfl
    | b e o => simp only [List.cons_append, dlS, ih]
attribute [simp] dlS_kPm dlB_kPm dlB_kPm_self rnP_kPm dlXs_kPm retP_kPm mpP_kPm dlr_kPm dl_kPm lkP_kPm pmOne_kPm
theorem lkP_app' (A B : List (Pl × Nat)) (p : Pl) (k : Nat) (h : lkP A p = some k) : lkP (A ++ B) p = some k := by
  rw [lkP_app, h]
end Go.Ai
set_option linter.unusedSimpArgs false
set_option linter.unusedVariables false
namespace Go.Ai
open Go.Proofs
structure En where
  k : Ky
  b : Int
  nx : Int
  tr : Int
  ak : Bool
structure Si where
  n : List UInt8
  g : List UInt8
  wh : Int
  fr : Int
  to : Int
structure Vw where
  now : Int
  ep : Nat
  gs : List GV
  r : Int
  v : Int
  i : Int
  x : Int
  y : Int
  es : List En
  dr : Nat
  ss : List Si
def En.row (x : En) : List AV := [.str x.k.g, .str x.k.r, .bool x.k.p, u x.k.e, .bool x.k.f, i6 x.b, i6 x.nx, i6 x.tr, .bool x.ak]
def Si.row (x : Si) : List AV := [.str x.n, .str x.g, i6 x.wh, i6 x.fr, i6 x.to]
def Vw.row (x : Vw) : List AV := [i6 x.now, u x.ep, .sl (x.gs.map GV.row), i6 x.r, i6 x.v, i6 x.i, i6 x.x, i6 x.y, .sl (x.es.map En.row), u x.dr, .sl (x.ss.map Si.row)]
def waitOf (es : List En) : Nat := (es.filter fun x => !x.ak).length
theorem waitOf_take (es : List En) (i : Nat) (h : i < es.length) : waitOf (es.take (i + 1)) = waitOf (es.take i) + if es[i].ak = true then 0 else 1 := by
  unfold waitOf
  rw [List.take_succ_eq_append_getElem h, List.filter_append, List.length_append]
  congr 1
  generalize es[i] = a
  cases hak : a.ak <;> simp [hak]
theorem waitOf_le (es : List En) : waitOf es ≤ es.length := List.length_filter_le _ _
theorem en_at (l : List En) (i : Nat) (h : i < l.length) (h2 : i < (l.map En.row).length) : (l.map En.row)[i] = [.str l[i].k.g, .str l[i].k.r, .bool l[i].k.p, u l[i].k.e, .bool l[i].k.f, i6 l[i].b, i6 l[i].nx, i6 l[i].tr, .bool l[i].ak] := by simp [En.row]
set_option maxRecDepth 20000 in
theorem waiting_spec (es : List En) (dr : Nat) (hn : es.length ≤ 1000000) : Sp Tryz.prog gl 46 [.agg [.sl (es.map En.row), u dr]] (i6 (waitOf es)) := by
  refine s46 rfl rfl ?_
  obtain ⟨R, hR⟩ : ∃ R, R = waitOf es := ⟨_, rfl⟩
  rw [← hR]
  have rl : (es.map En.row).length = es.length := by simp
  simp -implicitDefEqProofs [c46]
  refine wp_lpk (α := Nat) (fun i => ⟨[(3, i6 (waitOf (es.take i))), (7, .sl (es.map En.row)), (8, i6 es.length), (9, i6 i)], [], []⟩)
    (fun i => i ≤ es.length) (fun i => es.length - i) ?_ 0 ?_ ?_
  · rintro K i hK h1
    by_cases gi : i < es.length
    · have t1 : IntKind.i64.wrap ((i : Int) + 1) = (i + 1 : Nat) := by rw [wrap_i64] <;> omega
      have gR : i < (es.map En.row).length := by simpa using gi
      have ra := en_at es i gi gR
      have wl : waitOf (es.take i) ≤ i := Nat.le_trans (waitOf_le _) (by simp; omega)
      have t2 : IntKind.i64.wrap ((waitOf (es.take i) : Int) + 1) = (waitOf (es.take i) : Int) + 1 := by rw [wrap_i64] <;> omega
      have fin : ∀ σ', Weak σ' ⟨[(3, i6 (waitOf (es.take (i + 1)))), (7, .sl (es.map En.row)), (8, i6 es.length), (9, i6 (i + 1 : Nat))], [], []⟩ → K σ' :=
        fun σ' hσ => hK (i + 1) σ' (by omega) (by omega) hσ
      rw [waitOf_take es i gi, Int.natCast_add] at fin
      clear hK hR wl
      generalize ((waitOf (es.take i) : Nat) : Int) = W at *
      generalize es[i] = a at *
      generalize es.map En.row = RW at *
      generalize ht3 : (AC.cd (.s 15) (AC.rg [AOp.mv 16 (.s 3), .bi 17 .add (.s 16) (.c (.int .i64 1)), .mv 3 (.s 17)]) AC.sk) = t3
      simp -implicitDefEqProofs [gi, gR, ra]
      subst ht3
      have fin : ∀ v, v = W + ((if a.ak = true then 0 else 1 : Nat) : Int) → ∀ σ', Weak σ' ⟨[(3, i6 v), (7, .sl RW), (8, i6 es.length), (9, i6 (i + 1 : Nat))], [], []⟩ → K σ' := fun v hv => by rw [hv]; exact fin
      rcases Bool.eq_false_or_eq_true a.ak with hak | hak
      · have hn : (!a.ak) = false := by simp [hak]
        have fin2 := fin W (by rw [hak]; simp)
        clear fin
        generalize (!a.ak) = nb at *
        subst hn
        clear hak
        generalize a.ak = ab at *
        simp -implicitDefEqProofs
        refine fin2 _ (weak_mk ?_ ?_ ?_ ?_ ?_ ?_) <;> simp -implicitDefEqProofs [t1]
      · have hn : (!a.ak) = true := by simp [hak]
        have fin2 := fin (W + 1) (by rw [hak]; simp)
        clear fin
        generalize (!a.ak) = nb at *
        subst hn
        clear hak
        generalize a.ak = ab at *
        simp -implicitDefEqProofs
        refine fin2 _ (weak_mk ?_ ?_ ?_ ?_ ?_ ?_) <;> simp -implicitDefEqProofs [t1, t2]
    · obtain rfl : i = es.length := by omega
      rw [List.take_length, ← hR]
      clear hK
      simp -implicitDefEqProofs
  · exact Nat.zero_le _
  · refine weak_mk ?_ ?_ ?_ ?_ ?_ ?_ <;> simp -implicitDefEqProofs [waitOf]
def repOf (x : Vw) : List AV := [i6 x.now, i6 (waitOf x.es), u x.dr, .sl ((x.gs.map goalOf).map GRp.row)]
def repTo (gs : List GV) (i : Nat) : List (List AV) := ((gs.take i).map goalOf).map GRp.row
theorem repTo_next (gs : List GV) (i : Nat) (h : i < gs.length) : repTo gs (i + 1) = repTo gs i ++ [(goalOf gs[i]).row] := by
  unfold repTo
  rw [List.take_succ_eq_append_getElem h, List.map_append, List.map_append]; rfl
theorem repTo_len (gs : List GV) (i : Nat) (h : i ≤ gs.length) : (repTo gs i).length = i := by simp [repTo, h]
theorem repTo_all (gs : List GV) : repTo gs gs.length = (gs.map goalOf).map GRp.row := by simp [repTo]
theorem repTo_12 (gs : List GV) (i : Nat) : ∀ r ∈ repTo gs i, r.length = 12 := by
  intro r hr
  unfold repTo at hr
  obtain ⟨_, _, rfl⟩ := List.mem_map.1 hr
  rfl
theorem gv_at (l : List GV) (i : Nat) (h : i < l.length) (h2 : i < (l.map GV.row).length) : (l.map GV.row)[i] = l[i].row := by simp
structure Vwok (x : Vw) : Prop where
  gs : ∀ g ∈ x.gs, GVok g
  ng : x.gs.length ≤ 100
  ne : x.es.length ≤ 1000
set_option maxRecDepth 20000 in
theorem repof_spec (x : Vw) (ok : Vwok x) : Sp Tryz.prog gl 13 [.agg x.row] (.agg (repOf x)) := by
  refine s13 rfl rfl ?_
  unfold repOf
  have WS := waiting_spec x.es x.dr (by have := ok.ne; omega)
  have GS := fun (g : GV) (h : g ∈ x.gs) => goal_spec g (ok.gs g h)
  obtain ⟨R, hR⟩ : ∃ R, R = (x.gs.map goalOf).map GRp.row := ⟨_, rfl⟩
  rw [← hR]
  have hlim : lim = 140737488355328 := rfl
  have ng := ok.ng
  have rl : (x.gs.map GV.row).length = x.gs.length := by simp
  unfold Vw.row
  generalize hEW : x.es.map En.row = EW at *
  clear hEW
  simp -implicitDefEqProofs [c13]
  refine onC_mk _ WS ?_
  simp -implicitDefEqProofs
  refine wp_lpk (α := Nat) (fun i => ⟨[(2, .ptr (.n 2) 0), (3, .ptr (.n 3) 0), (16, .sl (x.gs.map GV.row)), (17, i6 x.gs.length), (18, i6 i)], [(.n 2, [i6 0, i6 0, u 0, .nils]), (.n 3, [i6 x.now, i6 (waitOf x.es), u x.dr, .sl (repTo x.gs i)])], [(.b (.n 3) 3, 12)]⟩)
    (fun i => i ≤ x.gs.length) (fun i => x.gs.length - i) ?_ 0 ?_ ?_
  · rintro K i hK h1
    by_cases gi : i < x.gs.length
    · have t1 : IntKind.i64.wrap ((i : Int) + 1) = (i + 1 : Nat) := by rw [wrap_i64] <;> omega
      have gR : i < (x.gs.map GV.row).length := by simpa using gi
      have ra := gv_at x.gs i gi gR
      have G1 := GS _ (List.getElem_mem gi)
      have r12 := repTo_12 x.gs i
      have rln := repTo_len x.gs i h1
      have q3 : (i + 1) * 120 ≤ 140737488355328 := by omega
      have fin : ∀ σ', Weak σ' ⟨[(2, .ptr (.n 2) 0), (3, .ptr (.n 3) 0), (16, .sl (x.gs.map GV.row)), (17, i6 x.gs.length), (18, i6 (i + 1 : Nat))], [(.n 2, [i6 0, i6 0, u 0, .nils]), (.n 3, [i6 x.now, i6 (waitOf x.es), u x.dr, .sl (repTo x.gs (i + 1))])], [(.b (.n 3) 3, 12)]⟩ → K σ' :=
        fun σ' hσ => hK (i + 1) σ' (by omega) (by omega) hσ
      rw [repTo_next x.gs i gi] at fin
      have hgl : (goalOf x.gs[i]).row.length = 12 := rfl
      have hgs : shutL (goalOf x.gs[i]).row = some (goalOf x.gs[i]).row := rfl
      have hml : (x.gs[i].row).length = 15 := rfl
      have hms : shutL x.gs[i].row = some x.gs[i].row := rfl
      have hm0 : idsL x.gs[i].row = [] := rfl
      clear hK hR GS WS
      generalize (goalOf x.gs[i]).row = GR at *
      generalize x.gs[i].row = M at *
      generalize repTo x.gs i = AC0 at *
      generalize x.gs.map GV.row = RW at *
      generalize waitOf x.es = W at *
      have hMt : M.take 15 = M := List.take_of_length_le (by omega)
      simp -implicitDefEqProofs [gi, gR, ra, hml, hMt, hms]
      refine onC_mk _ G1 ?_
      simp -implicitDefEqProofs [hgs, hgl, hlim, rln, q3]
      refine ⟨r12, fin _ (weak_mk ?_ ?_ ?_ ?_ ?_ ?_)⟩ <;> simp -implicitDefEqProofs [t1]
    · obtain rfl : i = x.gs.length := by omega
      rw [repTo_all, ← hR]
      clear hK GS
      simp -implicitDefEqProofs
  · exact Nat.zero_le _
  · refine weak_mk ?_ ?_ ?_ ?_ ?_ ?_ <;> simp -implicitDefEqProofs [repTo]
end Go.Ai
