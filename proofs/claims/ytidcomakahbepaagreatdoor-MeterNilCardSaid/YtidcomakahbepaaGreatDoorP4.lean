/- P4: a part of the proof: the rules, or what functions compute. Conditions: as each theorem says. -/
import Derived.Test.YtidcomakahbepaaGreatDoorP3
set_option linter.unusedSimpArgs false
set_option linter.unusedVariables false
set_option maxRecDepth 20000
namespace Go.Ai
open Go.Proofs
theorem at_ok (n : Nat) (h : 719468 ≤ n) (h2 : n ≤ 3652364) : 1970 ≤ yearN n ∧ yearN n ≤ 10100 ∧ 1 ≤ monthN n ∧ monthN n ≤ 12 ∧ aheadN (yearN n) (monthN n) ≤ n ∧ n < aheadN (yearN n) (monthN n) + dimN (yearN n) (monthN n) := by
 have r1 := rest_le n
 have r2 := yr_le n
 have c1 : cenN n ≤ 100 := by unfold cenN; omega
 have h0 : 1 ≤ 100 * cenN n + yrN n := by unfold cenN at *; omega
 obtain ⟨m1, m2, m3, m4⟩ := ahead_in n h0
 have yl : yearN n ≤ 10100 := by unfold yearN; split <;> omega
 refine ⟨?_, yl, m1, m2, m3, m4⟩
 rcases Nat.lt_or_ge (yearN n) 1970 with hy | hy
 ·exfalso
  have y1 : 1 ≤ yearN n := by unfold yearN; split <;> omega
  obtain ⟨s1, s2⟩ := startK_at (y := yearN n) m1 m2
  have nx := startK_next (12 * yearN n + (monthN n - 1)) (by omega)
  have le := startK_le (12 * yearN n + (monthN n - 1) + 1) (by omega) (23640 - (12 * yearN n + (monthN n - 1) + 1))
  have e : 12 * yearN n + (monthN n - 1) + 1 + (23640 - (12 * yearN n + (monthN n - 1) + 1)) = 23640 := by omega
  rw [e] at le
  have e2 : startK 23640 = 719468 := by decide
  omega
 ·exact hy
def dayOf (t : Nat) : Nat := t / 86400 + 719468
def fstM (s n : Nat) : Nat := monthN n - (monthN n - 1) % s
def perF (s t : Nat) : Nat := 86400 * (stN (yearN (dayOf t)) (fstM s (dayOf t)) - 719468)
def perT (s t : Nat) : Nat := 86400 * (stN (yearN (dayOf t)) (fstM s (dayOf t) + s) - 719468)
theorem fstM_ok {s n : Nat} (hs : s = 1 ∨ s = 3) (h1 : 1 ≤ monthN n) (h2 : monthN n ≤ 12) : 1 ≤ fstM s n ∧ fstM s n ≤ monthN n ∧ monthN n < fstM s n + s ∧ fstM s n + s ≤ 13 := by
 unfold fstM
 rcases hs with rfl | rfl <;> omega
theorem cperiod_spec (s t : Nat) (hs : s = 1 ∨ s = 3) (ht : t ≤ 253402300799) : Sp Tryz.prog gl 181 [i6 t, i6 s] (.tup [i6 (perF s t), i6 (perT s t), i6 0]) := by
 refine s181 rfl rfl ?_
 have A := cat_spec t ht
 have hn := at_ok (dayOf t) (by unfold dayOf; omega) (by unfold dayOf; omega)
 unfold perF perT
 have e0 : t / 86400 + 719468 = dayOf t := rfl
 rw [e0] at A
 obtain ⟨y1, y2, m1, m2, -, -⟩ := hn
 have f := fstM_ok (n := dayOf t) hs m1 m2
 have S1 := start_spec (yearN (dayOf t)) (fstM s (dayOf t)) (by omega) (by omega) (by omega) (by omega)
 have S2 := start_spec (yearN (dayOf t)) (fstM s (dayOf t) + s) (by omega) (by omega) (by omega) (by omega)
 have ef : (((monthN (dayOf t) : Nat) : Int) - (((monthN (dayOf t) : Nat) : Int) - 1).tmod s) = (fstM s (dayOf t) : Nat) := by
  rw [tmodL (x := ((monthN (dayOf t) : Nat) : Int) - 1) (y := (s : Int)) (a := monthN (dayOf t) - 1) (b := s) (by omega) rfl]
  have : (monthN (dayOf t) - 1) % s ≤ monthN (dayOf t) - 1 := Nat.mod_le _ _
  unfold fstM
  omega
 have mb : ((((monthN (dayOf t) : Nat) : Int) - 1).tmod s) ≤ 12 ∧ 0 ≤ ((((monthN (dayOf t) : Nat) : Int) - 1).tmod s) := by
  rw [tmodL (x := ((monthN (dayOf t) : Nat) : Int) - 1) (y := (s : Int)) (a := monthN (dayOf t) - 1) (b := s) (by omega) rfl]
  have : (monthN (dayOf t) - 1) % s ≤ monthN (dayOf t) - 1 := Nat.mod_le _ _
  omega
 have s0 : ¬ ((s : Int) = 0) := by omega
 have s0' : ¬ (s = 0) := by omega
 generalize fstM s (dayOf t) = F at *
 clear e0
 generalize yearN (dayOf t) = Y at *
 generalize monthN (dayOf t) = M at *
 generalize dayN (dayOf t) = D at *
 obtain ⟨V1, hV1⟩ : ∃ V, V = 86400 * (stN Y F - 719468) := ⟨_, rfl⟩
 obtain ⟨V2, hV2⟩ : ∃ V, V = 86400 * (stN Y (F + s) - 719468) := ⟨_, rfl⟩
 rw [← hV1] at S1 ⊢
 rw [← hV2] at S2 ⊢
 clear hV1 hV2
 have w1 : IntKind.i64.wrap ((M : Int) - 1) = (M : Int) - 1 := wr (by omega) (by omega)
 have w3 : IntKind.i64.wrap ((M : Int) - ((M : Int) - 1).tmod s) = (F : Int) := by rw [ef]; exact wr (by omega) (by omega)
 have w4 : IntKind.i64.wrap ((F : Int) + s) = (F + s : Nat) := by rw [wr] <;> omega
 generalize ((F + s : Nat) : Int) = F2 at *
 clear ef mb
 generalize hq : ((M : Int) - 1).tmod s = q at *
 simp -implicitDefEqProofs [c181]
 refine onC_mk _ A ?_
 simp -implicitDefEqProofs [s0, s0']
 simp only [w1, hq, w3, w4]
 refine onC_mk _ S1 ?_
 simp -implicitDefEqProofs [s0, s0']
 try simp only [w1, hq, w3, w4]
 refine onC_mk _ S2 ?_
 simp -implicitDefEqProofs
theorem cmonth_spec (t : Nat) (ht : t ≤ 253402300799) : Sp Tryz.prog gl 139 [i6 t] (.tup [i6 (perF 1 t), i6 (perT 1 t), i6 0]) := by
 refine s139 rfl rfl ?_
 have A := cperiod_spec 1 t (.inl rfl) ht
 simp -implicitDefEqProofs [c139]
 refine onC_mk _ A ?_
 simp -implicitDefEqProofs
theorem cquarter_spec (t : Nat) (ht : t ≤ 253402300799) : Sp Tryz.prog gl 140 [i6 t] (.tup [i6 (perF 3 t), i6 (perT 3 t), i6 0]) := by
 refine s140 rfl rfl ?_
 have A := cperiod_spec 3 t (.inr rfl) ht
 simp -implicitDefEqProofs [c140]
 refine onC_mk _ A ?_
 simp -implicitDefEqProofs
open Go.Proofs
theorem w64_1 : IntKind.i64.wrap 1 = 1 := by decide
open Go.Proofs
end Go.Ai
namespace Go.Ai
open Go.Proofs
open Go.Proofs
end Go.Ai
namespace Go.Ai
open Go.Proofs
theorem mtick_spec (n : Int) : Sp Tryz.prog gl 65 [i6 n] (.bool (decide (0 ≤ n) && decide (n ≤ 253402300799))) := by
 refine s65 rfl rfl ?_
 by_cases h : 0 ≤ n <;> simp -implicitDefEqProofs [c65, h]
def pF (c : Int) (t : Nat) : Nat := if c = 1 then perF 1 t else if c = 2 then perF 3 t else 0
def pT (c : Int) (t : Nat) : Nat := if c = 1 then perT 1 t else if c = 2 then perT 3 t else 0
theorem mperiod_spec (M A : Id) (h : Pr2 M A) (x : Gl) (n : Nat) (W : List (List AV)) (fr to cg ct t : Nat) (sd : Bool) (now : Nat) (ht : now ≤ 253402300799) (d : Nat) (hd : M.isNw d = false) :
  SpH Tryz.prog gl 88 d ⟨[.ptr M 0, i6 now], [(M, mtC x A n W fr to cg ct t sd)], []⟩ ⟨.tup [i6 (pF x.c now), i6 (pT x.c now)], [(M, mtC x A n W fr to cg ct t sd)], []⟩ := by
 refine h88 rfl ?_
 have hi := inn_notNw hd
 have hdA : A.isNw d = false := by rw [← h.nw]; exact hd
 have hiA := inn_notNw hdA
 have r1 := h.ri
 have b1 := h.bi
 have S1 := cmonth_spec now ht
 have S2 := cquarter_spec now ht
 unfold pF pT
 generalize perF 1 now = f1 at *
 generalize perT 1 now = t1 at *
 generalize perF 3 now = f3 at *
 generalize perT 3 now = t3 at *
 simp only [mtC]
 simp only [inSt, mpL, mpB, mpP, AV.mp]
 by_cases c1 : x.c = 1
 ·rw [if_pos c1, if_pos c1]
  have c1' : (x.c == 1) = true := by rw [c1]; rfl
  simp -implicitDefEqProofs [c88, c1']
  refine onC_mk _ S1 ?_
  simp -implicitDefEqProofs
  refine postH_r ⟨?_, ?_, ?_, ?_, ?_, ?_⟩ <;> simp -implicitDefEqProofs [hi, hiA, r1, b1, hd, hdA]
 ·rw [if_neg c1, if_neg c1]
  have c1' : (x.c == 1) = false := by rw [beq_eq_false_iff_ne]; exact c1
  by_cases c2 : x.c = 2
  ·rw [if_pos c2, if_pos c2]
   have c2' : (x.c == 2) = true := by rw [c2]; rfl
   simp -implicitDefEqProofs [c88, c1', c2']
   refine onC_mk _ S2 ?_
   simp -implicitDefEqProofs
   refine postH_r ⟨?_, ?_, ?_, ?_, ?_, ?_⟩ <;> simp -implicitDefEqProofs [hi, hiA, r1, b1, hd, hdA]
  ·rw [if_neg c2, if_neg c2]
   have c2' : (x.c == 2) = false := by rw [beq_eq_false_iff_ne]; exact c2
   simp -implicitDefEqProofs [c88, c1', c2']
   refine postH_r ⟨?_, ?_, ?_, ?_, ?_, ?_⟩ <;> simp -implicitDefEqProofs [hi, hiA, r1, b1, hd, hdA]
section
variable (M A : Id) (h : Pr2 M A) (x : Gl) (n : Nat) (W : List (List AV)) (fr to cg ct t : Nat) (sd : Bool) (d : Nat) (hd : M.isNw d = false)
include h hd
theorem mcal_spec : SpH Tryz.prog gl 63 d ⟨[.ptr M 0], [(M, mtC x A n W fr to cg ct t sd)], []⟩ ⟨.bool (x.c != 0), [(M, mtC x A n W fr to cg ct t sd)], []⟩ := by
 refine h63 rfl ?_
 have hi := inn_notNw hd
 have hdA : A.isNw d = false := by rw [← h.nw]; exact hd
 have hiA := inn_notNw hdA
 have r1 := h.ri
 have b1 := h.bi
 simp only [mtC]
 simp only [inSt, mpL, mpB, mpP, AV.mp]
 simp -implicitDefEqProofs [c63]
 refine postH_r ⟨?_, ?_, ?_, ?_, ?_, ?_⟩ <;> simp -implicitDefEqProofs [hi, hiA, r1, b1, hd, hdA]
end
end Go.Ai
