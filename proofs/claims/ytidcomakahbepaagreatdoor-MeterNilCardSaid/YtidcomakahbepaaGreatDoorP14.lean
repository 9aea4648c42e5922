/- P14: a part of the proof: the rules, or what functions compute. Conditions: as each theorem says. -/
import Derived.Test.YtidcomakahbepaaGreatDoorP13
import Derived.Test.YtidcomakahbepaaGreatDoorCode
import Derived.Lib.LaidU8
import GoSem.PinnedTables
set_option linter.unusedSimpArgs false
set_option linter.unusedVariables false
set_option maxRecDepth 20000
namespace Go.Ai
open Go.Proofs
open Go.Proofs
theorem zreset : Sp Tryz.prog gl 40 [.nilp] (.tup []) := by
 refine s40 rfl rfl ?_
 simp -implicitDefEqProofs [c40]
theorem zwindow (z : Int) : Sp Tryz.prog gl 18 [.nilp, i6 z] (.tup [.agg [.int .u64 0, .int .u64 0], i6 1]) := by
 refine s18 rfl rfl ?_
 simp -implicitDefEqProofs [c18]
theorem zcal : Sp Tryz.prog gl 20 [.nilp] (.tup [.agg [.int .u64 0, .int .u64 0], i6 1]) := by
 refine s20 rfl rfl ?_
 simp -implicitDefEqProofs [c20]
theorem zperiod : Sp Tryz.prog gl 41 [.nilp] (.tup [i6 0, i6 0, .agg [.int .u64 0, .int .u64 0]]) := by
 refine s41 rfl rfl ?_
 simp -implicitDefEqProofs [c41]
theorem zadopt (y : Gl) : Sp Tryz.prog gl 26 [.nilp, .agg y.row] (i6 1) := by
 refine s26 rfl rfl ?_
 simp only [Gl.row]
 simp -implicitDefEqProofs [c26]
theorem zmove (a : Int) : Sp Tryz.prog gl 42 [.nilp, i6 a] (i6 1) := by
 refine s42 rfl rfl ?_
 simp -implicitDefEqProofs [c42]
theorem zadd (a : Int) (g t : Nat) : Sp Tryz.prog gl 23 [.nilp, i6 a, .agg [u g, u t]] (i6 1) := by
 refine s23 rfl rfl ?_
 simp -implicitDefEqProofs [c23]
theorem znow : Sp Tryz.prog gl 25 [.nilp] (i6 0) := by
 refine s25 rfl rfl ?_
 simp -implicitDefEqProofs [c25]
theorem zsated : Sp Tryz.prog gl 22 [.nilp] (.bool false) := by
 refine s22 rfl rfl ?_
 simp -implicitDefEqProofs [c22]
theorem zwindows : Sp Tryz.prog gl 43 [.nilp] (.sl []) := by
 refine s43 rfl rfl ?_
 simp -implicitDefEqProofs [c43]
theorem zput (rows : List (List AV)) : Sp Tryz.prog gl 33 [.nilp, .sl rows] (.sl rows) := by
 refine s33 rfl rfl ?_
 simp -implicitDefEqProofs [c33]
theorem zbad : Sp Tryz.prog gl 31 [.nilp] (.bool true) := by
 refine s31 rfl rfl ?_
 simp -implicitDefEqProofs [c31]
theorem zfail : Sp Tryz.prog gl 123 [.nilp] (.tup []) := by
 refine s123 rfl rfl ?_
 simp -implicitDefEqProofs [c123]
theorem ztake (n : Nat) : Sp Tryz.prog gl 122 [.nilp, u n] (.tup [.sl [], .bool false]) := by
 refine s122 rfl rfl ?_
 have B := fun d => Sp.h (d := d) zbad
 have F := fun d => Sp.h (d := d) zfail
 simp -implicitDefEqProofs [c122]
 refine onH_mk _ _ (B _) ⟨?_, ?_, ?_, ?_, ?_, ?_, ?_⟩ ?_
 iterate 7 (· simp)
 simp -implicitDefEqProofs
 refine onH_mk _ _ (F _) ⟨?_, ?_, ?_, ?_, ?_, ?_, ?_⟩ ?_
 iterate 7 (· simp)
 simp -implicitDefEqProofs
theorem zget (s : Nat) : Sp Tryz.prog gl 124 [.nilp, .int .u8 s] (.tup [.int .u8 0, .int .u64 0]) := by
 refine s124 rfl rfl ?_
 have T := fun d => Sp.h (d := d) (ztake 1)
 simp -implicitDefEqProofs [c124]
 refine onH_mk _ _ (T _) ⟨?_, ?_, ?_, ?_, ?_, ?_, ?_⟩ ?_
 iterate 7 (· simp)
 simp -implicitDefEqProofs
theorem znum : Sp Tryz.prog gl 77 [.nilp] (.int .u64 0) := by
 refine s77 rfl rfl ?_
 have T := fun d => Sp.h (d := d) (zget 0)
 simp -implicitDefEqProofs [c77]
 refine onH_mk _ _ (T _) ⟨?_, ?_, ?_, ?_, ?_, ?_, ?_⟩ ?_
 iterate 7 (· simp)
 simp -implicitDefEqProofs
theorem zflag : Sp Tryz.prog gl 76 [.nilp] (.bool false) := by
 refine s76 rfl rfl ?_
 have T := fun d => Sp.h (d := d) (ztake 1)
 have F := fun d => Sp.h (d := d) zfail
 simp -implicitDefEqProofs [c76]
 refine onH_mk _ _ (T _) ⟨?_, ?_, ?_, ?_, ?_, ?_, ?_⟩ ?_
 iterate 7 (· simp)
 simp -implicitDefEqProofs
 refine onH_mk _ _ (F _) ⟨?_, ?_, ?_, ?_, ?_, ?_, ?_⟩ ?_
 iterate 7 (· simp)
 simp -implicitDefEqProofs
theorem zcount (k : Int) (hk : k < 0) : Sp Tryz.prog gl 121 [.nilp, i6 k] (i6 0) := by
 refine s121 rfl rfl ?_
 have T := fun d => Sp.h (d := d) znum
 have F := fun d => Sp.h (d := d) zfail
 simp -implicitDefEqProofs [c121]
 refine onH_mk _ _ (T _) ⟨?_, ?_, ?_, ?_, ?_, ?_, ?_⟩ ?_
 iterate 7 (· simp)
 simp -implicitDefEqProofs [hk]
 refine onH_mk _ _ (F _) ⟨?_, ?_, ?_, ?_, ?_, ?_, ?_⟩ ?_
 iterate 7 (· simp)
 simp -implicitDefEqProofs
theorem zmspoil : Sp Tryz.prog gl 75 [.nilp] .nilp := by
 refine s75 rfl rfl ?_
 have T := fun d => Sp.h (d := d) (zcount (-1) (by omega))
 simp -implicitDefEqProofs [c75]
 refine onH_mk _ _ (T _) ⟨?_, ?_, ?_, ?_, ?_, ?_, ?_⟩ ?_
 iterate 7 (· simp)
 simp -implicitDefEqProofs
theorem zrspoil : Sp Tryz.prog gl 125 [.nilp] .nilp := by
 refine s125 rfl rfl ?_
 have T := fun d => Sp.h (d := d) (zcount (-1) (by omega))
 simp -implicitDefEqProofs [c125]
 refine onH_mk _ _ (T _) ⟨?_, ?_, ?_, ?_, ?_, ?_, ?_⟩ ?_
 iterate 7 (· simp)
 simp -implicitDefEqProofs
open Go.Proofs
theorem zrget (wd g : Nat) (h : Wd wd g) (now : Nat) (hn : now ≤ 253402300799) : Sp Tryz.prog gl 78 [.nilp, i6 wd, i6 g, i6 now] .nilp := by
 refine s78 rfl rfl ?_
 have N1 := rnew_spec wd g h 17
 have NU := fun d => Sp.h (d := d) znum
 have BD := fun d => Sp.h (d := d) zbad
 have SP := fun d => Sp.h (d := d) zrspoil
 obtain ⟨k1, k2, _, w1, w2⟩ := wK_ok h
 have RM := rmove_spec (.nw 17 (.n 23)) (.nw 17 (.n 21)) ⟨rfl, rfl, by simp, fun _ => rfl⟩ (wK wd g) (wW wd g) 0 now [] k1 k2 w1 (Nat.zero_le _) hn (fun e he => by simp at he) (fun e he => by simp at he) (by show sm _ _ _ [] ≤ _; simp [sm]) 25 rfl
 rw [Nat.zero_div] at RM
 have hids : ∀ N, idsL (bkC (wK wd g) (wW wd g) N []) = [] := fun N => cellsF_ids _ _ _
 have hb := hids (now / wW wd g)
 have e1 : ringC (.nw 17 (.n 21)) (wK wd g) (wW wd g) now [] = [i6 (wW wd g), .ms (.nw 17 (.n 21)) 0 (wK wd g) 2, i6 (now / wW wd g : Nat), i6 now, u 0, u 0] := rfl
 rw [e1] at RM
 generalize bkC (wK wd g) (wW wd g) (now / wW wd g) [] = BC at *
 generalize wK wd g = K at *
 generalize wW wd g = w at *
 generalize now / w = N at *
 simp -implicitDefEqProofs [c78]
 refine onH_mk _ _ (N1) ⟨?_, ?_, ?_, ?_, ?_, ?_, ?_⟩ ?_
 iterate 7 (· simp)
 simp -implicitDefEqProofs
 refine onH_mk _ _ (RM) ⟨?_, ?_, ?_, ?_, ?_, ?_, ?_⟩ ?_
 iterate 7 (· simp)
 simp -implicitDefEqProofs
 refine wp_lpk (α := Nat) (fun k => ⟨[(0, .nilp), (9, .ptr (.nw 17 (.n 23)) 0), (34, i6 K), (35, i6 0)], [(.nw 17 (.n 23), [i6 w, .ms (.nw 17 (.n 21)) 0 K 2, i6 N, i6 now, u 0, u 0]), (.nw 17 (.n 21), BC)], []⟩) (fun k => k = 0) (fun _ => 0) ?_ 0 rfl ?_
 ·intro K' k hK' k1
  clear hK'
  have c : (0 : Int) < K := by omega
  have c' : 0 < K := by omega
  simp -implicitDefEqProofs [c, c']
  refine onH_mk _ _ (NU _) ⟨?_, ?_, ?_, ?_, ?_, ?_, ?_⟩ ?_
  iterate 7 (· simp)
  simp -implicitDefEqProofs
  refine onH_mk _ _ (NU _) ⟨?_, ?_, ?_, ?_, ?_, ?_, ?_⟩ ?_
  iterate 7 (· simp)
  simp -implicitDefEqProofs
  refine onH_mk _ _ (BD _) ⟨?_, ?_, ?_, ?_, ?_, ?_, ?_⟩ ?_
  iterate 7 (· simp)
  simp -implicitDefEqProofs
  refine onH_mk _ _ (SP _) ⟨?_, ?_, ?_, ?_, ?_, ?_, ?_⟩ ?_
  iterate 7 (· simp)
  simp -implicitDefEqProofs
 ·refine weak_mk ?_ ?_ ?_ ?_ ?_ ?_ <;> simp -implicitDefEqProofs [hb]
open Go.Proofs
def gone (R : Nat → Id) (n k : Nat) : List AV := (List.range n).map fun i => if i < k then .nilp else .ptr (R i) 0
theorem gone_len (R : Nat → Id) (n k : Nat) : (gone R n k).length = n := by simp [gone]
theorem gone_0 (R : Nat → Id) (n : Nat) : gone R n 0 = ptrC R n := by simp [gone, ptrC]
theorem gone_set (R : Nat → Id) (n k : Nat) (h : k < n) : (gone R n k).take k ++ .nilp :: (gone R n k).drop (k + 1) = gone R n (k + 1) := by
 apply List.ext_getElem?
 intro i
 have l1 : ((gone R n k).take k).length = k := by rw [List.length_take, gone_len]; omega
 by_cases c : i < k
 ·rw [List.getElem?_append_left (by omega), List.getElem?_take_of_lt c]
  simp [gone, show i < n by omega, c, show i < k + 1 by omega]
 ·rw [List.getElem?_append_right (by omega), l1]
  by_cases e : i = k
  ·subst e
   simp [gone, h]
  ·obtain ⟨j, hj⟩ : ∃ j, i - k = j + 1 := ⟨i - k - 1, by omega⟩
   rw [hj, List.getElem?_cons_succ, List.getElem?_drop, show k + 1 + j = i by omega]
   simp only [gone, List.getElem?_map, List.getElem?_range]
   by_cases hn : i < n
   ·simp [hn, c, show ¬ i < k + 1 by omega]
   ·simp [hn]
theorem gone_ids {R : Nat → Id} {n k : Nat} {x : Id} (h : x ∈ idsL (gone R n k)) : ∃ i, i < n ∧ x = R i := by
 have : ∀ l : List AV, x ∈ idsL l → ∃ v ∈ l, x ∈ v.ids := by
  intro l
  induction l with
  | nil => intro h; simp at h
  | cons v r ih =>
   intro h
   simp only [idsL, List.mem_append] at h
   rcases h with h | h
   ·exact ⟨v, List.mem_cons_self .., h⟩
   ·obtain ⟨w, hw, hx⟩ := ih h
    exact ⟨w, List.mem_cons_of_mem _ hw, hx⟩
 obtain ⟨v, hv, hx⟩ := this _ h
 simp only [gone, List.mem_map, List.mem_range] at hv
 obtain ⟨i, hi, rfl⟩ := hv
 split at hx
 ·simp at hx
 ·simp at hx; exact ⟨i, hi, hx⟩
theorem zmget (x : Gl) (hf : x.Fit) (hl : x.ru.length ≤ 10) (a : Int) : Sp Tryz.prog gl 29 [.nilp, .agg x.row, i6 a] .nilp := by
 refine s29 rfl rfl ?_
 have SP := fun d => Sp.h (d := d) zmspoil
 cases hx : goalP x with
 | false =>
  have N1 := mnew_bad x hf hx 13
  simp only [Gl.row] at N1 ⊢
  simp -implicitDefEqProofs [c29]
  refine onH_mk _ _ (N1) ⟨?_, ?_, ?_, ?_, ?_, ?_, ?_⟩ ?_
  iterate 7 (· simp)
  simp -implicitDefEqProofs
  refine onH_mk _ _ (SP _) ⟨?_, ?_, ?_, ?_, ?_, ?_, ?_⟩ ?_
  iterate 7 (· simp)
  simp -implicitDefEqProofs
 | true =>
  obtain ⟨⟨gg1, gg2⟩, ga, -, -, gc, -⟩ := goal_parts hx
  have hw := goal_wd hx hl
  have hk := goal_k hx hl
  have hn := goal_n hl
  have NM := nms0 13
  have N1 : SpH Tryz.prog gl 35 13 ⟨[.agg x.row], [], []⟩ ⟨.tup [.ptr (.nw 13 (.n 16)) 0, i6 0], mtB (.nw 13 (.n 16)) (.nw 13 (.n 40)) (fun i => .nw 13 (R0 i)) (fun i => .nw 13 (B0 i)) x (winP x).length (intRows (winP x)) (kN x) (wN x) 0 [] false, []⟩ := mnew_spec x hf hl hx (winP x).length hn (goal_n1 hx) rfl (gN x) hw.gg (wdN x) hw.wd 13
  have hnn := fun t L sd j => mt_n (M := .nw 13 (.n 16)) (A := .nw 13 (.n 40)) (R := fun i => .nw 13 (R0 i)) (B := fun i => .nw 13 (B0 i)) x (winP x).length (intRows (winP x)) (kN x) (wN x) t L sd (.n j) (by simp) (by simp) (fun i => by simp) (fun i => by simp)
  have hnw : ∀ t L sd (a : Id) (b : List AV), (a, b) ∈ mtB (.nw 13 (.n 16)) (.nw 13 (.n 40)) (fun i => .nw 13 (R0 i)) (fun i => .nw 13 (B0 i)) x (winP x).length (intRows (winP x)) (kN x) (wN x) t L sd → a.isIt = false ∧ ∀ s, a.isNw s = (13 == s) := by
   intro t L sd a b hp
   unfold mtB at hp
   rcases List.mem_cons.1 hp with e | hp
   ·cases e; exact ⟨rfl, fun s => by simp [Id.isNw, Id.isUp]⟩
   ·rcases List.mem_cons.1 hp with e | hp
    ·cases e; exact ⟨rfl, fun s => by simp [Id.isNw, Id.isUp]⟩
    ·obtain ⟨i, _, e | e⟩ := mem_rgsB.1 hp
     ·cases e; exact ⟨rfl, fun s => by simp [Id.isNw, Id.isUp, R0]⟩
     ·cases e; exact ⟨rfl, fun s => by simp [Id.isNw, Id.isUp, B0]⟩
  have u0 := mt_uq NM x (winP x).length (intRows (winP x)) (kN x) (wN x) 0 [] false
  have hks := fun t t' L L' sd sd' j => mt_ks (M := .nw 13 (.n 16)) (A := .nw 13 (.n 40)) (R := fun i => .nw 13 (R0 i)) (B := fun i => .nw 13 (B0 i)) x x (winP x).length (intRows (winP x)) (kN x) (wN x) t t' L L' sd sd' j
  have ok0 := mt0_ok x (winP x).length (kN x) (wN x)
  by_cases c : 0 ≤ a ∧ a ≤ 253402300799
  ·obtain ⟨c1, c2⟩ := c
   obtain ⟨t, rfl⟩ := Int.eq_ofNat_of_zero_le c1
   have ht : t ≤ 253402300799 := by omega
   have M1 := mmove_spec (.nw 13 (.n 16)) (.nw 13 (.n 40)) _ _ NM x (winP x).length hn (intRows (winP x)) (kN x) (wN x) hk 0 t [] ok0.L false (by omega) ht 21 rfl
   have z1 : pcG x.c t [] = 0 := by unfold pcG; split <;> simp [sm]
   have z2 : pcT x.c t [] = 0 := by unfold pcT; split <;> simp [sm]
   have n0 := hnn 0 [] false
   have n1 := hnn t [] false
   have f0 := hnw 0 [] false
   have f1 := hnw t [] false
   have k1 := hks 0 t [] [] false false
   obtain ⟨m0, hm0⟩ : ∃ m, m = mtB (.nw 13 (.n 16)) (.nw 13 (.n 40)) (fun i => .nw 13 (R0 i)) (fun i => .nw 13 (B0 i)) x (winP x).length (intRows (winP x)) (kN x) (wN x) 0 [] false := ⟨_, rfl⟩
   obtain ⟨RG, hRG⟩ : ∃ m, m = rgsB (fun i => .nw 13 (R0 i)) (fun i => .nw 13 (B0 i)) (rgC (kN x) (wN x) t []) (rgD (kN x) (wN x) t []) (winP x).length := ⟨_, rfl⟩
   have hm1 : mtB (.nw 13 (.n 16)) (.nw 13 (.n 40)) (fun i => .nw 13 (R0 i)) (fun i => .nw 13 (B0 i)) x (winP x).length (intRows (winP x)) (kN x) (wN x) t [] false = (.nw 13 (.n 16), mtC x (.nw 13 (.n 40)) (winP x).length (intRows (winP x)) (pF x.c t) (pT x.c t) 0 0 t false) :: (.nw 13 (.n 40), gone (fun i => .nw 13 (R0 i)) (winP x).length 0) :: RG := by
    rw [hRG, gone_0]; unfold mtB; rw [z1, z2]
   have MC := mcal_spec (.nw 13 (.n 16)) (.nw 13 (.n 40)) NM.pa x (winP x).length (intRows (winP x)) (pF x.c t) (pT x.c t) 0 0 t false 32 rfl
   have rgu : ∀ p ∈ RG, lkB RG p.1 = some p.2 := fun p hp => by
    obtain ⟨i, hi, e | e⟩ := mem_rgsB.1 (hRG ▸ hp)
    ·subst e; rw [hRG]; exact rgsB_R NM _ hi
    ·subst e; rw [hRG]; exact rgsB_B NM _ hi
   have rgM : lkB RG (.nw 13 (.n 16)) = none := by rw [hRG]; exact rgsB_none NM.mr NM.mb _
   have rgA : lkB RG (.nw 13 (.n 40)) = none := by rw [hRG]; exact rgsB_none NM.ar NM.ab _
   have rgn : ∀ j, lkB RG (.n j) = none := fun j => by rw [hRG]; exact rgsB_none (fun i => by simp) (fun i => by simp) _
   have rmM : rmB RG (.nw 13 (.n 16)) = RG := by rw [hRG]; exact rgsB_rm NM.mr NM.mb _
   have rgi : ∀ p ∈ RG, ∀ d ∈ idsL p.2, (lkB RG d).isSome = true := fun p hp d hd => by
    obtain ⟨i, hi, e | e⟩ := mem_rgsB.1 (hRG ▸ hp)
    ·subst e
     simp only [rgC_ids, List.mem_singleton] at hd
     subst hd
     rw [hRG, rgsB_B NM _ hi]; rfl
    ·subst e
     simp only [rgD_ids] at hd
     simp at hd
   have rgR : ∀ i, i < (winP x).length → (lkB RG (.nw 13 (R0 i))).isSome = true := fun i hi => by rw [hRG, rgsB_R NM _ hi]; rfl
   have rgf : ∀ (a : Id) (b : List AV), (a, b) ∈ RG → a.isIt = false ∧ ∀ s, a.isNw s = (13 == s) := fun a b hm => f1 a b (by rw [hm1]; exact List.mem_cons_of_mem _ (List.mem_cons_of_mem _ hm))
   rw [hm1] at M1 k1
   rw [← hm0] at N1 n0 f0 u0 M1 k1
   clear hm1 hm0 hRG hnn hnw hks n1 f1
   have hWa := hw.at
   obtain ⟨hWl, hW1⟩ := hw.rows
   have ZG := fun i (hi : i < (winP x).length) => zrget (wdN x i) (gN x) (hw.wd i hi).2 t ht
   have hgg := hw.gg
   have NU := fun d => Sp.h (d := d) znum
   have BD := fun d => Sp.h (d := d) zbad
   have FL := fun d => Sp.h (d := d) zflag
   have gl0 := fun k => gone_len (fun i => Id.nw 13 (R0 i)) (winP x).length k
   have gse := fun k h => gone_set (fun i => Id.nw 13 (R0 i)) (winP x).length k h
   have gid : ∀ k, ∀ d ∈ idsL (gone (fun i => Id.nw 13 (R0 i)) (winP x).length k), (lkB RG d).isSome = true := fun k d hd => by
    obtain ⟨i, hi, e⟩ := gone_ids hd
    rw [e]; exact rgR i hi
   clear hw
   generalize intRows (winP x) = W at *
   generalize (winP x).length = n at *
   generalize hGo : gone (fun i => Id.nw 13 (R0 i)) n = GO at *
   simp only [mtC] at M1 MC k1
   rw [hgg] at M1 MC k1
   simp only [Gl.row, hgg] at N1 ⊢
   simp -implicitDefEqProofs [c29]
   refine onH_mk _ _ N1 ⟨?_, ?_, ?_, ?_, ?_, ?_, ?_⟩ ?_
   iterate 5 (· simp [n0])
   ·simp
    intro a b hm
    obtain ⟨h1, h2⟩ := f0 a b hm
    exact ⟨by rw [h2]; rfl, h1⟩
   ·simp
   simp -implicitDefEqProofs [n0, lkB_app]
   refine onH_ps (pre := []) (suf := [(.n 4, _)]) M1 rfl ?_ ?_ u0 k1 ?_ ?_ ?_ ?_
   ·simp
   ·simp [n0]
   ·simp
    intro a b hm
    rcases hm with hm | hm
    ·rw [(f0 a b hm).2]; rfl
    ·rw [hm.1]; rfl
   ·simp
   ·simp
   simp -implicitDefEqProofs [rgn, lkB_app]
   refine onH_mk _ _ (FL _) ⟨?_, ?_, ?_, ?_, ?_, ?_, ?_⟩ ?_
   iterate 6 (· simp [rgn, rgM, rgA, rmM, lkB_app, rmB_app])
   ·simp; (intro a b hm; rcases hm with hm | hm <;> first | (rw [(rgf a b hm).2]; rfl) | (rw [hm.1]; rfl))
   simp -implicitDefEqProofs [rgn, rgM, rgA, rmM, lkB_app, rmB_app]
   refine onH_ps (pre := []) (suf := (.nw 13 (.n 40), GO 0) :: (RG ++ [(.n 4, _)])) MC rfl ?_ ?_ ?_ (fun _ => rfl) ?_ ?_ ?_ ?_
   ·simp
   ·simp
    intro a b hm
    rcases hm with hm | hm
    ·exact ne_none hm rgM
    ·rw [hm.1]; simp
   ·simp
   ·simp
    (intro a b hm; rcases hm with hm | hm <;> first | (rw [(rgf a b hm).2]; rfl) | (rw [hm.1]; rfl))
   ·simp
   ·simp
   simp -implicitDefEqProofs
   by_cases c0 : x.c = 0
   ·have c0' : (x.c != 0) = false := by rw [c0]; rfl
    simp -implicitDefEqProofs [c0', rgn, rgM, rgA, rmM, lkB_app, rmB_app, hWl]
    refine wp_lpk (α := Nat) (fun k => ⟨[(0, .nilp), (2, i6 t), (4, .ptr (.n 4) 0), (7, .ptr (.nw 13 (.n 16)) 0), (69, .sl W), (70, i6 n), (71, i6 k)], (.nw 13 (.n 16), [.str x.n, .int .u32 x.t, i6 (gN x), i6 x.a, i6 x.o, i6 x.c, .sl (x.lb.map Lb.row), .sl (x.ru.map Ru.row), .sl W, .ms (.nw 13 (.n 40)) 0 n 1, i6 (pF x.c t), i6 (pT x.c t), u 0, u 0, i6 t, .bool false]) :: (.nw 13 (.n 40), GO k) :: (RG ++ [(.n 4, [.str x.n, .int .u32 x.t, i6 (gN x), i6 x.a, i6 x.o, i6 x.c, .sl (x.lb.map Lb.row), .sl (x.ru.map Ru.row)])]), []⟩) (fun k => k ≤ n) (fun k => n - k) ?_ 0 ?_ ?_
    ·intro K k hK kn
     by_cases c : k < n
     ·have c' : (k : Int) < n := by omega
      have w1 : IntKind.i64.wrap ((k : Int) + 1) = (k + 1 : Nat) := by rw [wr] <;> omega
      have kl : k < W.length := by omega
      have ew0 := hWa k c
      have ew : W[k]'kl = [i6 ((wdN x k : Nat) : Int)] := by rw [List.getElem?_eq_getElem kl] at ew0; exact Option.some.inj ew0
      have ZGk := fun d => Sp.h (d := d) (ZG k c)
      have fin := fun σ' hσ => hK (k + 1) σ' (by omega) (by omega) hσ
      have ge := gse k c
      have gl1 := gl0 k
      clear hK hWa
      simp -implicitDefEqProofs [c, c', kl, ew, ew0, hWl, hW1, rgn, rgM, rgA, rmM, lkB_app, rmB_app]
      refine onC_mk _ (ZG k c) ?_
      simp -implicitDefEqProofs [c, c', rgn, rgM, rgA, rmM, lkB_app, rmB_app, gl1, ge, w1]
      refine ⟨c, fin _ (weak_mk ?_ ?_ ?_ ?_ ?_ ?_)⟩
      ·simp [w1]
      ·intro p hp
       rcases List.mem_cons.1 hp with rfl | hp
       ·simp
       ·rcases List.mem_cons.1 hp with rfl | hp
        ·simp [ge]
        ·rcases List.mem_append.1 hp with hp | hp
         ·have q := rgu p hp
          have e1 := ne_none hp rgM
          have e2 := ne_none hp rgA
          simp only [wkB, lkB, if_neg e1, if_neg e2, lkB_app, q]
          exact wkL_rfl' _
         ·rw [List.mem_singleton] at hp
          subst hp
          simp -implicitDefEqProofs [rgn, lkB_app]
      ·simp
      ·simp [rgn, lkB_app]
      ·intro p hp
       rcases List.mem_cons.1 hp with rfl | hp
       ·simp
       ·rcases List.mem_cons.1 hp with rfl | hp
        ·intro d hd
         left
         have q := gid _ d hd
         obtain ⟨cc, hc⟩ := Option.isSome_iff_exists.1 q
         simp only [lkB, lkB_app]
         split
         ·rfl
         ·split
          ·rfl
          ·rw [hc]; rfl
        ·rcases List.mem_append.1 hp with hp | hp
         ·intro d hd
          left
          have q := rgi p hp d hd
          obtain ⟨cc, hc⟩ := Option.isSome_iff_exists.1 q
          simp only [lkB, lkB_app]
          split
          ·rfl
          ·split
           ·rfl
           ·rw [hc]; rfl
         ·rw [List.mem_singleton] at hp
          subst hp
          simp -implicitDefEqProofs
      ·simp
     ·obtain rfl : k = n := by omega
      have c' : ¬ ((k : Int) < k) := by omega
      clear hK hWa
      simp -implicitDefEqProofs [c']
      refine onH_mk _ _ (BD _) ⟨?_, ?_, ?_, ?_, ?_, ?_, ?_⟩ ?_
      iterate 6 (· simp [rgn, rgM, rgA, rmM, lkB_app, rmB_app])
      ·simp; (intro a b hm; rcases hm with hm | hm <;> first | (rw [(rgf a b hm).2]; rfl) | (rw [hm.1]; rfl))
      simp -implicitDefEqProofs
    ·exact Nat.zero_le _
    ·refine (weak_mk ?_ ?_ ?_ ?_ ?_ ?_)
     ·simp
     ·intro p hp
      rcases List.mem_cons.1 hp with rfl | hp
      ·simp
      ·rcases List.mem_cons.1 hp with rfl | hp
       ·simp
       ·rcases List.mem_append.1 hp with hp | hp
        ·have q := rgu p hp
         have e1 := ne_none hp rgM
         have e2 := ne_none hp rgA
         simp only [wkB, lkB, if_neg e1, if_neg e2, lkB_app, q]
         exact wkL_rfl' _
        ·rw [List.mem_singleton] at hp
         subst hp
         simp -implicitDefEqProofs [rgn, lkB_app]
     ·simp
     ·simp [rgn, lkB_app]
     ·intro p hp
      rcases List.mem_cons.1 hp with rfl | hp
      ·simp
      ·rcases List.mem_cons.1 hp with rfl | hp
       ·intro d hd
        left
        have q := gid _ d hd
        obtain ⟨cc, hc⟩ := Option.isSome_iff_exists.1 q
        simp only [lkB, lkB_app]
        split
        ·rfl
        ·split
         ·rfl
         ·rw [hc]; rfl
       ·rcases List.mem_append.1 hp with hp | hp
        ·intro d hd
         left
         have q := rgi p hp d hd
         obtain ⟨cc, hc⟩ := Option.isSome_iff_exists.1 q
         simp only [lkB, lkB_app]
         split
         ·rfl
         ·split
          ·rfl
          ·rw [hc]; rfl
        ·rw [List.mem_singleton] at hp
         subst hp
         simp -implicitDefEqProofs
     ·simp
   ·have c0' : (x.c != 0) = true := by rw [bne_iff_ne]; exact c0
    simp -implicitDefEqProofs [c0', rgn, rgM, rgA, rmM, lkB_app, rmB_app]
    refine onH_mk _ _ (NU _) ⟨?_, ?_, ?_, ?_, ?_, ?_, ?_⟩ ?_
    iterate 6 (· simp [rgn, rgM, rgA, rmM, lkB_app, rmB_app])
    ·simp; (intro a b hm; rcases hm with hm | hm <;> first | (rw [(rgf a b hm).2]; rfl) | (rw [hm.1]; rfl))
    simp -implicitDefEqProofs [rgn, rgM, rgA, rmM, lkB_app, rmB_app]
    refine onH_mk _ _ (NU _) ⟨?_, ?_, ?_, ?_, ?_, ?_, ?_⟩ ?_
    iterate 6 (· simp [rgn, rgM, rgA, rmM, lkB_app, rmB_app])
    ·simp; (intro a b hm; rcases hm with hm | hm <;> first | (rw [(rgf a b hm).2]; rfl) | (rw [hm.1]; rfl))
    simp -implicitDefEqProofs [rgn, rgM, rgA, rmM, lkB_app, rmB_app, hWl]
    refine wp_lpk (α := Nat) (fun k => ⟨[(0, .nilp), (2, i6 t), (4, .ptr (.n 4) 0), (7, .ptr (.nw 13 (.n 16)) 0), (69, .sl W), (70, i6 n), (71, i6 k)], (.nw 13 (.n 16), [.str x.n, .int .u32 x.t, i6 (gN x), i6 x.a, i6 x.o, i6 x.c, .sl (x.lb.map Lb.row), .sl (x.ru.map Ru.row), .sl W, .ms (.nw 13 (.n 40)) 0 n 1, i6 (pF x.c t), i6 (pT x.c t), u 0, u 0, i6 t, .bool false]) :: (.nw 13 (.n 40), GO k) :: (RG ++ [(.n 4, [.str x.n, .int .u32 x.t, i6 (gN x), i6 x.a, i6 x.o, i6 x.c, .sl (x.lb.map Lb.row), .sl (x.ru.map Ru.row)])]), []⟩) (fun k => k ≤ n) (fun k => n - k) ?_ 0 ?_ ?_
    ·intro K k hK kn
     by_cases c : k < n
     ·have c' : (k : Int) < n := by omega
      have w1 : IntKind.i64.wrap ((k : Int) + 1) = (k + 1 : Nat) := by rw [wr] <;> omega
      have kl : k < W.length := by omega
      have ew0 := hWa k c
      have ew : W[k]'kl = [i6 ((wdN x k : Nat) : Int)] := by rw [List.getElem?_eq_getElem kl] at ew0; exact Option.some.inj ew0
      have ZGk := fun d => Sp.h (d := d) (ZG k c)
      have fin := fun σ' hσ => hK (k + 1) σ' (by omega) (by omega) hσ
      have ge := gse k c
      have gl1 := gl0 k
      clear hK hWa
      simp -implicitDefEqProofs [c, c', kl, ew, ew0, hWl, hW1, rgn, rgM, rgA, rmM, lkB_app, rmB_app]
      refine onC_mk _ (ZG k c) ?_
      simp -implicitDefEqProofs [c, c', rgn, rgM, rgA, rmM, lkB_app, rmB_app, gl1, ge, w1]
      refine ⟨c, fin _ (weak_mk ?_ ?_ ?_ ?_ ?_ ?_)⟩
      ·simp [w1]
      ·intro p hp
       rcases List.mem_cons.1 hp with rfl | hp
       ·simp
       ·rcases List.mem_cons.1 hp with rfl | hp
        ·simp [ge]
        ·rcases List.mem_append.1 hp with hp | hp
         ·have q := rgu p hp
          have e1 := ne_none hp rgM
          have e2 := ne_none hp rgA
          simp only [wkB, lkB, if_neg e1, if_neg e2, lkB_app, q]
          exact wkL_rfl' _
         ·rw [List.mem_singleton] at hp
          subst hp
          simp -implicitDefEqProofs [rgn, lkB_app]
      ·simp
      ·simp [rgn, lkB_app]
      ·intro p hp
       rcases List.mem_cons.1 hp with rfl | hp
       ·simp
       ·rcases List.mem_cons.1 hp with rfl | hp
        ·intro d hd
         left
         have q := gid _ d hd
         obtain ⟨cc, hc⟩ := Option.isSome_iff_exists.1 q
         simp only [lkB, lkB_app]
         split
         ·rfl
         ·split
          ·rfl
          ·rw [hc]; rfl
        ·rcases List.mem_append.1 hp with hp | hp
         ·intro d hd
          left
          have q := rgi p hp d hd
          obtain ⟨cc, hc⟩ := Option.isSome_iff_exists.1 q
          simp only [lkB, lkB_app]
          split
          ·rfl
          ·split
           ·rfl
           ·rw [hc]; rfl
         ·rw [List.mem_singleton] at hp
          subst hp
          simp -implicitDefEqProofs
      ·simp
     ·obtain rfl : k = n := by omega
      have c' : ¬ ((k : Int) < k) := by omega
      clear hK hWa
      simp -implicitDefEqProofs [c']
      refine onH_mk _ _ (BD _) ⟨?_, ?_, ?_, ?_, ?_, ?_, ?_⟩ ?_
      iterate 6 (· simp [rgn, rgM, rgA, rmM, lkB_app, rmB_app])
      ·simp; (intro a b hm; rcases hm with hm | hm <;> first | (rw [(rgf a b hm).2]; rfl) | (rw [hm.1]; rfl))
      simp -implicitDefEqProofs
    ·exact Nat.zero_le _
    ·refine (weak_mk ?_ ?_ ?_ ?_ ?_ ?_)
     ·simp
     ·intro p hp
      rcases List.mem_cons.1 hp with rfl | hp
      ·simp
      ·rcases List.mem_cons.1 hp with rfl | hp
       ·simp
       ·rcases List.mem_append.1 hp with hp | hp
        ·have q := rgu p hp
         have e1 := ne_none hp rgM
         have e2 := ne_none hp rgA
         simp only [wkB, lkB, if_neg e1, if_neg e2, lkB_app, q]
         exact wkL_rfl' _
        ·rw [List.mem_singleton] at hp
         subst hp
         simp -implicitDefEqProofs [rgn, lkB_app]
     ·simp
     ·simp [rgn, lkB_app]
     ·intro p hp
      rcases List.mem_cons.1 hp with rfl | hp
      ·simp
      ·rcases List.mem_cons.1 hp with rfl | hp
       ·intro d hd
        left
        have q := gid _ d hd
        obtain ⟨cc, hc⟩ := Option.isSome_iff_exists.1 q
        simp only [lkB, lkB_app]
        split
        ·rfl
        ·split
         ·rfl
         ·rw [hc]; rfl
       ·rcases List.mem_append.1 hp with hp | hp
        ·intro d hd
         left
         have q := rgi p hp d hd
         obtain ⟨cc, hc⟩ := Option.isSome_iff_exists.1 q
         simp only [lkB, lkB_app]
         split
         ·rfl
         ·split
          ·rfl
          ·rw [hc]; rfl
        ·rw [List.mem_singleton] at hp
         subst hp
         simp -implicitDefEqProofs
     ·simp
  ·have M1 := mmove_bad (.nw 13 (.n 16)) (.nw 13 (.n 40)) NM.pa x (winP x).length (intRows (winP x)) (pF x.c 0) (pT x.c 0) (pcG x.c 0 []) (pcT x.c 0 []) 0 false a (.inl c) 21 rfl
   rw [if_neg c] at M1
   have n0 := hnn 0 [] false
   have f0 := hnw 0 [] false
   have hm : mtB (.nw 13 (.n 16)) (.nw 13 (.n 40)) (fun i => .nw 13 (R0 i)) (fun i => .nw 13 (B0 i)) x (winP x).length (intRows (winP x)) (kN x) (wN x) 0 [] false = (.nw 13 (.n 16), mtC x (.nw 13 (.n 40)) (winP x).length (intRows (winP x)) (pF x.c 0) (pT x.c 0) (pcG x.c 0 []) (pcT x.c 0 []) 0 false) :: ((.nw 13 (.n 40), ptrC (fun i => .nw 13 (R0 i)) (winP x).length) :: rgsB (fun i => .nw 13 (R0 i)) (fun i => .nw 13 (B0 i)) (rgC (kN x) (wN x) 0 []) (rgD (kN x) (wN x) 0 []) (winP x).length) := rfl
   generalize mtC x (.nw 13 (.n 40)) (winP x).length (intRows (winP x)) (pF x.c 0) (pT x.c 0) (pcG x.c 0 []) (pcT x.c 0 []) 0 false = mc at *
   generalize ((Id.nw 13 (.n 40), ptrC (fun i => .nw 13 (R0 i)) (winP x).length) :: rgsB (fun i => .nw 13 (R0 i)) (fun i => .nw 13 (B0 i)) (rgC (kN x) (wN x) 0 []) (rgD (kN x) (wN x) 0 []) (winP x).length) = rest at *
   rw [hm] at N1 f0
   simp only [Gl.row] at N1 ⊢
   simp -implicitDefEqProofs [c29]
   refine onH_mk _ _ N1 ⟨?_, ?_, ?_, ?_, ?_, ?_, ?_⟩ ?_
   iterate 5 (· simp)
   ·simp
    intro a b hm
    obtain ⟨h1, h2⟩ := f0 a b (List.mem_cons_of_mem _ hm)
    exact ⟨by rw [h2]; rfl, h1⟩
   ·simp
   simp -implicitDefEqProofs
   refine onH_any M1 ?_ ?_ ?_ ?_ ?_
   ·simp
   ·simp
    intro a b hm
    rcases hm with hm | hm
    ·rw [(f0 a b (List.mem_cons_of_mem _ hm)).2]; rfl
    ·rw [hm.1]; rfl
   ·simp
   ·simp
   intro BX look hmem
   simp -implicitDefEqProofs
   have hfr : ∀ (a : Id) (b : List AV), (a, b) ∈ BX → a.isNw 25 = false := by
    intro a b hm
    have q := hmem _ hm
    simp only [List.mem_cons, List.mem_append, Prod.mk.injEq, List.not_mem_nil, or_false] at q
    rcases q with ⟨q, -⟩ | q | ⟨q, -⟩
    ·rw [q]; rfl
    ·rw [(f0 a b (List.mem_cons_of_mem _ q)).2]; rfl
    ·rw [q]; rfl
   refine onH_mk _ _ (SP _) ⟨?_, ?_, ?_, ?_, ?_, ?_, ?_⟩ ?_
   iterate 6 (· simp)
   ·simp; exact hfr
   simp -implicitDefEqProofs
open Go.Proofs
theorem meterNil_spec (a : Int) (g t : Nat) (ht : t < 18446744073709551616) (x : Gl) : Sp Tryz.prog gl 9 [i6 a, .agg [u g, u t], .agg x.row] (.bool true) := by
 refine s9 rfl rfl ?_
 have AW := mawake_spec
 have H := heavyG_spec x
 have P1 : x.row.length = 8 := rfl
 have P2 : idsL x.row = [] := rfl
 have P3 : shutL x.row = some x.row := rfl
 cases hh : heavyG x with
 | true =>
  rw [hh] at H
  generalize x.row = P at *
  have e8 : List.take 8 P = P := List.take_of_length_le (by omega)
  simp -implicitDefEqProofs [c9]
  refine onC_mk _ (AW) ?_
  simp -implicitDefEqProofs [P1, e8, P3]
  refine onC_mk _ (H) ?_
  simp -implicitDefEqProofs
 | false =>
  rw [hh] at H
  have hf := heavyG_fit hh
  have hl := hf.ru
  have RS := fun d => Sp.h (d := d) zreset
  have WI := fun z d => Sp.h (d := d) (zwindow z)
  have CA := fun d => Sp.h (d := d) zcal
  have PE := fun d => Sp.h (d := d) zperiod
  have AD := fun d => Sp.h (d := d) (zadopt x)
  have MV := fun z d => Sp.h (d := d) (zmove z)
  have AA := fun d => Sp.h (d := d) (zadd a g t)
  have NO := fun d => Sp.h (d := d) znow
  have SA := fun d => Sp.h (d := d) zsated
  have WS := fun d => Sp.h (d := d) zwindows
  have PU := fun d => Sp.h (d := d) (zput [[.int .u8 1]])
  have GE := fun d => Sp.h (d := d) (zmget x hf hl a)
  generalize x.row = P at *
  have e8 : List.take 8 P = P := List.take_of_length_le (by omega)
  simp -implicitDefEqProofs [c9]
  refine onC_mk _ (AW) ?_
  simp -implicitDefEqProofs [P1, e8, P3]
  refine onC_mk _ (H) ?_
  simp -implicitDefEqProofs [P1, e8, P3]
  refine onH_mk _ _ (RS _) ⟨?_, ?_, ?_, ?_, ?_, ?_, ?_⟩ ?_
  iterate 7 (· simp)
  simp -implicitDefEqProofs
  refine onH_mk _ _ (WI a _) ⟨?_, ?_, ?_, ?_, ?_, ?_, ?_⟩ ?_
  iterate 7 (· simp)
  simp -implicitDefEqProofs
  refine onH_mk _ _ (CA _) ⟨?_, ?_, ?_, ?_, ?_, ?_, ?_⟩ ?_
  iterate 7 (· simp)
  simp -implicitDefEqProofs
  refine onH_mk _ _ (PE _) ⟨?_, ?_, ?_, ?_, ?_, ?_, ?_⟩ ?_
  iterate 7 (· simp)
  simp -implicitDefEqProofs [P1, e8, P3]
  refine onH_mk _ _ (AD _) ⟨?_, ?_, ?_, ?_, ?_, ?_, ?_⟩ ?_
  iterate 7 (· simp)
  simp -implicitDefEqProofs [P1, e8, P3]
  refine onH_mk _ _ (MV a _) ⟨?_, ?_, ?_, ?_, ?_, ?_, ?_⟩ ?_
  iterate 7 (· simp)
  simp -implicitDefEqProofs [P1, e8, P3]
  refine onH_mk _ _ (AA _) ⟨?_, ?_, ?_, ?_, ?_, ?_, ?_⟩ ?_
  iterate 7 (· simp)
  simp -implicitDefEqProofs [P1, e8, P3]
  refine onH_mk _ _ (NO _) ⟨?_, ?_, ?_, ?_, ?_, ?_, ?_⟩ ?_
  iterate 7 (· simp)
  simp -implicitDefEqProofs [P1, e8, P3]
  refine onH_mk _ _ (SA _) ⟨?_, ?_, ?_, ?_, ?_, ?_, ?_⟩ ?_
  iterate 7 (· simp)
  simp -implicitDefEqProofs [P1, e8, P3]
  refine onH_mk _ _ (WS _) ⟨?_, ?_, ?_, ?_, ?_, ?_, ?_⟩ ?_
  iterate 7 (· simp)
  simp -implicitDefEqProofs [P1, e8, P3]
  refine onH_mk _ _ (PU _) ⟨?_, ?_, ?_, ?_, ?_, ?_, ?_⟩ ?_
  iterate 7 (· simp)
  simp -implicitDefEqProofs [P1, e8, P3]
  refine onH_mk _ _ (GE _) ⟨?_, ?_, ?_, ?_, ?_, ?_, ?_⟩ ?_
  iterate 7 (· simp)
  simp -implicitDefEqProofs
end Go.Ai
namespace Go.Ai
open Go.Proofs Go.Lib
set_option maxRecDepth 100000
def accCells : List Value := (List.range 32).map fun o => Value.int .u8 (if o % 2 = 0 then (accLo (o / 2) : Int) else (accHi (o / 2) : Int))
def firstCells : List Value := firstTab.map fun z => Value.int .u8 z
theorem first_cell {W : World} (h : VarReads Tryz.prog W "unicode/utf8.first" firstData) (o : Nat) (u : Value) (hu : firstCells[o]? = some u) : W.cell? ⟨2, o, none⟩ = some u ∧ u.oneCell' = true := by
 have hg0 : Tryz.prog.globalNamed "unicode/utf8.first" = some 2 := by kernel_rfl
 have ht0 : (Tryz.prog.globals[2]?).map (·.type) = some 263 := by kernel_rfl
 obtain ⟨g, t, cs, fuel, p, hg, hty, hvar, hd⟩ := h
 obtain rfl := Option.some.inj (hg0.symm.trans hg)
 obtain rfl := Option.some.inj (ht0.symm.trans hty)
 have hcs := cells_of_tab (t := 263) (e := 5) (n := 256) (by kernel_rfl) (by kernel_rfl) (by kernel_rfl) (by kernel_rfl) hd
 refine ⟨?_, ?_⟩
 ·rw [World.var?_cell hg hvar o, ← Array.getElem?_toList, hcs]
  exact hu
 ·obtain ⟨z, _, rfl⟩ := List.mem_map.1 (List.mem_of_getElem? hu)
  rfl
theorem acc_cell {W : World} (h : VarReads Tryz.prog W "unicode/utf8.acceptRanges" acceptData) (o : Nat) (u : Value) (hu : accCells[o]? = some u) : W.cell? ⟨3, o, none⟩ = some u ∧ u.oneCell' = true := by
 have hg0 : Tryz.prog.globalNamed "unicode/utf8.acceptRanges" = some 3 := by kernel_rfl
 have ht0 : (Tryz.prog.globals[3]?).map (·.type) = some 266 := by kernel_rfl
 have hc0 : Tryz.prog.cellsOf 265 = 2 := by kernel_rfl
 obtain ⟨g, t, cs, fuel, p, hg, hty, hvar, hd⟩ := h
 obtain rfl := Option.some.inj (hg0.symm.trans hg)
 obtain rfl := Option.some.inj (ht0.symm.trans hty)
 have ho : o < 32 := by have := (List.getElem?_eq_some_iff.1 hu).1; simpa [accCells] using this
 simp only [accCells, List.getElem?_map, List.getElem?_range ho, Option.map_some, Option.some.injEq] at hu
 subst hu
 refine ⟨?_, by split <;> rfl⟩
 have hi : o / 2 < 16 := by omega
 obtain ⟨fuel', d, q, hdi, he⟩ := array_elem (t := 266) (e := 265) (n := 16) (by kernel_rfl) hd (o / 2) hi
 simp only [List.getElem?_map, List.getElem?_range hi, Option.map_some, Option.some.injEq] at hdi
 subst hdi
 rw [hc0] at he
 obtain ⟨fs, hfs, hsz, hf⟩ : ∃ fs : Array Field, Tryz.prog.underlying 265 = some (.struct fs) ∧ fs.size = 2 ∧ ∀ (i : Nat) (f : Field), fs[i]? = some f → Tryz.prog.underlying f.type = some (.int .u8) ∧ f.offset = i ∧ Tryz.prog.cellsOf f.type = 1 := by
  refine ⟨_, (by kernel_rfl : Tryz.prog.underlying 265 = some (.struct #[Field.mk "lo" 5 0 false "" "unicode/utf8" 0, Field.mk "hi" 5 1 false "" "unicode/utf8" 1])), rfl, fun j f hj => ?_⟩
  match j, hj with
  | 0, hj => simp at hj; subst hj; exact ⟨by kernel_rfl, rfl, by kernel_rfl⟩
  | 1, hj => simp at hj; subst hj; exact ⟨by kernel_rfl, rfl, by kernel_rfl⟩
  | j + 2, hj => simp at hj
 have hcs := ints_of_struct hfs hf (by rw [hc0, hsz]) he
 have e0 := congrArg (·[0]?) hcs
 have e1 := congrArg (·[1]?) hcs
 simp only [List.getElem?_take, List.getElem?_drop] at e0 e1
 rw [World.var?_cell hg hvar o, ← Array.getElem?_toList]
 by_cases hp : o % 2 = 0
 ·rw [if_pos hp]
  have eo : o / 2 * 2 + 0 = o := by omega
  rw [eo] at e0
  simpa using e0
 ·rw [if_neg hp]
  have eo : o / 2 * 2 + 1 = o := by omega
  rw [eo] at e1
  simpa using e1
end Go.Ai
