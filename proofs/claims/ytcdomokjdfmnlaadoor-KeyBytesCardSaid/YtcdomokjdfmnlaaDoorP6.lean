/- YtcdomokjdfmnlaaDoorP6: part of the abstract interpreter library (values, rules, soundness against the model) or of what a function of the seat computes. Conditions: as each theorem says. -/
import Derived.Test.YtcdomokjdfmnlaaDoorP5
set_option linter.unusedSimpArgs false
set_option linter.unusedVariables false
namespace Go.Ai
open Go.Proofs Go.RowKit
def rsLe (st : RS) (n : Nat) : Prop := ∀ b, st = some b → b.length ≤ n
theorem getN_le {st : RS} {n : Nat} (h : rsLe st n) : rsLe (getN st).1 n := by
  intro b hb
  rcases st with _ | s
  · cases hb
  · rcases s with _ | ⟨k, r⟩
    · cases hb
    · have := h _ rfl
      simp only [getN] at hb
      split at hb
      · cases hb; simp at this ⊢; omega
      · cases hb
theorem takeN_le {st : RS} {n m : Nat} (h : rsLe st n) : rsLe (takeN st m).1 n := by
  intro b hb
  rcases st with _ | s
  · cases hb
  · have := h _ rfl
    simp only [takeN] at hb
    split at hb
    · cases hb; simp; omega
    · cases hb
theorem countN_le {st : RS} {n m : Nat} (h : rsLe st n) : rsLe (countN m st).1 n := by
  unfold countN
  split
  · exact getN_le h
  · intro b hb; cases hb
theorem countN_most (m : Nat) (st : RS) : (countN m st).2 ≤ m := by
  unfold countN; split
  · assumption
  · exact Nat.zero_le _
theorem textN_le {st : RS} {n m : Nat} (h : rsLe st n) : rsLe (textN m st).1 n := takeN_le (countN_le h)
theorem flagN_le {st : RS} {n : Nat} (h : rsLe st n) : rsLe (flagN st).1 n := by
  intro b hb
  rcases st with _ | s
  · cases hb
  · rcases s with _ | ⟨k, r⟩
    · cases hb
    · have := h _ rfl
      simp only [flagN] at hb
      split at hb
      · cases hb; simp at this ⊢; omega
      · cases hb
theorem rdv_ids (st : RS) : idsL (rdv st) = [] := by cases st <;> rfl
theorem rdv_mp (st : RS) (f : Id → Id) : mpL f (rdv st) = rdv st := mpL_noids (rdv_ids st)
theorem wNum_spec (st : RS) (hl : rsLe st 1000000) (d : Nat) (c : Id) (hc : c.isIt = false) (hd : c.isNw d = false) :
    SpH Tryd.prog gl 46 d ⟨[.ptr c 0], [(c, rdv st)], []⟩ ⟨u (getN st).2, [(c, rdv (getN st).1)], []⟩ := by
  refine h46 rfl ?_
  have hi := inn_notNw hd
  have G := wget_spec st hl 7 (.up c) hc rfl
  have i1 := rdv_ids st
  have i2 := rdv_ids (getN st).1
  have m1 := rdv_mp st
  have m2 := rdv_mp (getN st).1
  generalize rdv (getN st).1 = B2 at *
  generalize rdv st = B1 at *
  generalize (getN st).2 = n at *
  simp only [inSt, mpL, mpB, mpP, AV.mp, m1]
  simp -implicitDefEqProofs [c46]
  refine onH_mk _ _ G ⟨?_, ?_, ?_, ?_, ?_, ?_, ?_⟩ ?_
  iterate 7 (· simp -implicitDefEqProofs)
  simp -implicitDefEqProofs
  refine postH_r ⟨?_, ?_, ?_, ?_, ?_, ?_⟩ <;> simp -implicitDefEqProofs [hi, hc, i2, m2]
theorem wCount_spec (st : RS) (m : Nat) (hm : m ≤ 1000000) (hl : rsLe st 1000000) (d : Nat) (c : Id) (hc : c.isIt = false) (hd : c.isNw d = false) :
    SpH Tryd.prog gl 48 d ⟨[.ptr c 0, i6 m], [(c, rdv st)], []⟩ ⟨i6 (countN m st).2, [(c, rdv (countN m st).1)], []⟩ := by
  refine h48 rfl ?_
  have hi := inn_notNw hd
  have G := wNum_spec st hl 7 (.up c) hc rfl
  have F := wfail_spec (getN st).1 17 (.up c) hc rfl
  have w1 : IntKind.u64.wrap (m : Int) = m := by rw [wrap_u64] <;> omega
  have p0 : ¬ (m : Int) < 0 := by omega
  unfold countN
  have i1 := rdv_ids st
  have i2 := rdv_ids (getN st).1
  have m1 := rdv_mp st
  have m2 := rdv_mp (getN st).1
  by_cases g : (getN st).2 ≤ m
  · have g' : ¬ (m : Int) < ((getN st).2 : Nat) := by omega
    have g2 : ¬ m < (getN st).2 := by omega
    rw [if_pos g]
    have w2 : IntKind.i64.wrap ((getN st).2 : Int) = (getN st).2 := by rw [wrap_i64] <;> omega
    generalize rdv (getN st).1 = B2 at *
    generalize rdv st = B1 at *
    generalize (getN st).2 = n at *
    simp only [inSt, mpL, mpB, mpP, AV.mp, m1]
    simp -implicitDefEqProofs [c48]
    refine onH_mk _ _ G ⟨?_, ?_, ?_, ?_, ?_, ?_, ?_⟩ ?_
    iterate 7 (· simp -implicitDefEqProofs)
    simp -implicitDefEqProofs [p0, w1, g', g2, w2]
    refine postH_r ⟨?_, ?_, ?_, ?_, ?_, ?_⟩ <;> simp -implicitDefEqProofs [hi, hc, i2, m2]
  · have g' : (m : Int) < ((getN st).2 : Nat) := by omega
    have g2 : m < (getN st).2 := by omega
    rw [if_neg g]
    simp only [show rdv none = [.sl [], .bool true] from rfl] at F ⊢
    generalize rdv (getN st).1 = B2 at *
    generalize rdv st = B1 at *
    generalize (getN st).2 = n at *
    simp only [inSt, mpL, mpB, mpP, AV.mp, m1]
    simp -implicitDefEqProofs [c48]
    refine onH_mk _ _ G ⟨?_, ?_, ?_, ?_, ?_, ?_, ?_⟩ ?_
    iterate 7 (· simp -implicitDefEqProofs)
    simp -implicitDefEqProofs [p0, w1, g', g2]
    refine onH_mk _ _ F ⟨?_, ?_, ?_, ?_, ?_, ?_, ?_⟩ ?_
    iterate 7 (· simp -implicitDefEqProofs)
    simp -implicitDefEqProofs
    refine postH_r ⟨?_, ?_, ?_, ?_, ?_, ?_⟩ <;> simp -implicitDefEqProofs [hi, hc]
theorem wCountM_spec (st : RS) (hl : rsLe st 1000000) (d : Nat) (c : Id) (hc : c.isIt = false) (hd : c.isNw d = false) :
    SpH Tryd.prog gl 48 d ⟨[.ptr c 0, i6 (-1)], [(c, rdv st)], []⟩ ⟨i6 0, [(c, rdv none)], []⟩ := by
  refine h48 rfl ?_
  have hi := inn_notNw hd
  have G := wNum_spec st hl 7 (.up c) hc rfl
  have F := wfail_spec (getN st).1 17 (.up c) hc rfl
  have i1 := rdv_ids st
  have i2 := rdv_ids (getN st).1
  have m1 := rdv_mp st
  have m2 := rdv_mp (getN st).1
  simp only [show rdv none = [.sl [], .bool true] from rfl] at F ⊢
  generalize rdv (getN st).1 = B2 at *
  generalize rdv st = B1 at *
  generalize (getN st).2 = n at *
  simp only [inSt, mpL, mpB, mpP, AV.mp, m1]
  simp -implicitDefEqProofs [c48]
  refine onH_mk _ _ G ⟨?_, ?_, ?_, ?_, ?_, ?_, ?_⟩ ?_
  iterate 7 (· simp -implicitDefEqProofs)
  simp -implicitDefEqProofs
  refine onH_mk _ _ F ⟨?_, ?_, ?_, ?_, ?_, ?_, ?_⟩ ?_
  iterate 7 (· simp -implicitDefEqProofs)
  simp -implicitDefEqProofs
  refine postH_r ⟨?_, ?_, ?_, ?_, ?_, ?_⟩ <;> simp -implicitDefEqProofs [hi, hc]
theorem wText_spec (st : RS) (m : Nat) (hm : m ≤ 1000000) (hl : rsLe st 1000000) (d : Nat) (c : Id) (hc : c.isIt = false) (hd : c.isNw d = false) :
    SpH Tryd.prog gl 44 d ⟨[.ptr c 0, i6 m], [(c, rdv st)], []⟩ ⟨.str (textN m st).2, [(c, rdv (textN m st).1)], []⟩ := by
  refine h44 rfl ?_
  have hi := inn_notNw hd
  have G := wCount_spec st m hm hl 10 (.up c) hc rfl
  have hcm := countN_most m st
  have T := wtake_spec (countN m st).1 (countN m st).2 (countN_le hl) (by omega) 15 (.up c) hc rfl
  have w1 : IntKind.u64.wrap ((countN m st).2 : Int) = (countN m st).2 := by rw [wrap_u64] <;> omega
  unfold textN
  have i2 := rdv_ids (takeN (countN m st).1 (countN m st).2).1
  have m1 := rdv_mp st
  have m2 := rdv_mp (takeN (countN m st).1 (countN m st).2).1
  have rb := rowBytes_of (takeN (countN m st).1 (countN m st).2).2
  generalize rdv (takeN (countN m st).1 (countN m st).2).1 = B3 at *
  generalize byteRows (takeN (countN m st).1 (countN m st).2).2 = R at *
  generalize (takeN (countN m st).1 (countN m st).2).2 = out at *
  generalize (takeN (countN m st).1 (countN m st).2).1.isSome = ok at *
  generalize rdv (countN m st).1 = B2 at *
  generalize rdv st = B1 at *
  generalize (countN m st).2 = n at *
  simp only [inSt, mpL, mpB, mpP, AV.mp, m1]
  simp -implicitDefEqProofs [c44]
  refine onH_mk _ _ G ⟨?_, ?_, ?_, ?_, ?_, ?_, ?_⟩ ?_
  iterate 7 (· simp -implicitDefEqProofs)
  simp -implicitDefEqProofs [w1]
  refine onH_mk _ _ T ⟨?_, ?_, ?_, ?_, ?_, ?_, ?_⟩ ?_
  iterate 7 (· simp -implicitDefEqProofs)
  simp -implicitDefEqProofs [bytesA, rb]
  refine postH_r ⟨?_, ?_, ?_, ?_, ?_, ?_⟩ <;> simp -implicitDefEqProofs [hi, hc, i2, m2]
end Go.Ai
set_option linter.unusedSimpArgs false
set_option linter.unusedVariables false
namespace Go.Ai
open Go.Proofs Go.RowKit
theorem wFlag_spec (st : RS) (hl : rsLe st 1000000) (d : Nat) (c : Id) (hc : c.isIt = false) (hd : c.isNw d = false) :
    SpH Tryd.prog gl 45 d ⟨[.ptr c 0], [(c, rdv st)], []⟩ ⟨.bool (flagN st).2, [(c, rdv (flagN st).1)], []⟩ := by
  refine h45 rfl ?_
  have hi := inn_notNw hd
  have T := wtake_spec st 1 hl (by omega) 7 (.up c) hc rfl
  rcases st with _ | s
  · have F := wfail_spec none 19 (.up c) hc rfl
    simp only [takeN, flagN, rdv] at *
    simp -implicitDefEqProofs [c45]
    refine onH_mk _ _ T ⟨?_, ?_, ?_, ?_, ?_, ?_, ?_⟩ ?_
    iterate 7 (· simp -implicitDefEqProofs)
    simp -implicitDefEqProofs
    refine onH_mk _ _ F ⟨?_, ?_, ?_, ?_, ?_, ?_, ?_⟩ ?_
    iterate 7 (· simp -implicitDefEqProofs)
    simp -implicitDefEqProofs
    refine postH_r ⟨?_, ?_, ?_, ?_, ?_, ?_⟩ <;> simp -implicitDefEqProofs [hi, hc]
  rcases s with _ | ⟨k, r⟩
  · have F := wfail_spec none 19 (.up c) hc rfl
    simp only [takeN, flagN, rdv] at *
    simp -implicitDefEqProofs [c45]
    refine onH_mk _ _ T ⟨?_, ?_, ?_, ?_, ?_, ?_, ?_⟩ ?_
    iterate 7 (· simp -implicitDefEqProofs)
    simp -implicitDefEqProofs
    refine onH_mk _ _ F ⟨?_, ?_, ?_, ?_, ?_, ?_, ?_⟩ ?_
    iterate 7 (· simp -implicitDefEqProofs)
    simp -implicitDefEqProofs
    refine postH_r ⟨?_, ?_, ?_, ?_, ?_, ?_⟩ <;> simp -implicitDefEqProofs [hi, hc]
  · have e1 : takeN (some (k :: r)) 1 = (some r, [k]) := by simp [takeN]
    rw [e1] at T
    have F := wfail_spec (some r) 19 (.up c) hc rfl
    have k1 : (k == 1) = ((k.toNat : Int) == 1) := by
      rw [Bool.eq_iff_iff]
      simp only [beq_iff_eq]
      constructor
      · rintro rfl; rfl
      · intro e; exact UInt8.toNat.inj (by have : k.toNat = 1 := by omega
                                           rw [this]; rfl)
    simp only [rdv, Option.isSome_some] at T F
    rw [show byteRows [k] = [[.int .u8 k.toNat]] from rfl] at T
    by_cases g : k.toNat ≤ 1
    · have g' : ¬ (1 : Int) < k.toNat := by omega
      have g2 : ¬ 1 < k.toNat := by omega
      simp only [flagN, g, if_true, rdv, k1]
      generalize k.toNat = kk at *
      generalize byteRows r = B3 at *
      generalize byteRows (k :: r) = B4 at *
      simp -implicitDefEqProofs [c45]
      refine onH_mk _ _ T ⟨?_, ?_, ?_, ?_, ?_, ?_, ?_⟩ ?_
      iterate 7 (· simp -implicitDefEqProofs)
      simp -implicitDefEqProofs [g', g2]
      refine postH_r ⟨?_, ?_, ?_, ?_, ?_, ?_⟩ <;> simp -implicitDefEqProofs [hi, hc]
    · have g' : (1 : Int) < k.toNat := by omega
      have g2 : 1 < k.toNat := by omega
      simp only [flagN, g, if_false, rdv]
      generalize k.toNat = kk at *
      generalize byteRows r = B3 at *
      generalize byteRows (k :: r) = B4 at *
      simp -implicitDefEqProofs [c45]
      refine onH_mk _ _ T ⟨?_, ?_, ?_, ?_, ?_, ?_, ?_⟩ ?_
      iterate 7 (· simp -implicitDefEqProofs)
      simp -implicitDefEqProofs [g', g2]
      refine onH_mk _ _ F ⟨?_, ?_, ?_, ?_, ?_, ?_, ?_⟩ ?_
      iterate 7 (· simp -implicitDefEqProofs)
      simp -implicitDefEqProofs
      refine postH_r ⟨?_, ?_, ?_, ?_, ?_, ?_⟩ <;> simp -implicitDefEqProofs [hi, hc]
def leftN : RS → Nat
  | some b => b.length
  | none => 0
theorem wLeft_spec (st : RS) (d : Nat) (c : Id) (hc : c.isIt = false) (hd : c.isNw d = false) :
    SpH Tryd.prog gl 18 d ⟨[.ptr c 0], [(c, rdv st)], []⟩ ⟨i6 (leftN st), [(c, rdv st)], []⟩ := by
  refine h18 rfl ?_
  have hi := inn_notNw hd
  have Bd := wbad_spec st 4 (.up c) hc rfl
  cases st with
  | none =>
    simp only [rdv, leftN] at *
    simp -implicitDefEqProofs [c18]
    refine onH_mk _ _ Bd ⟨?_, ?_, ?_, ?_, ?_, ?_, ?_⟩ ?_
    iterate 7 (· simp -implicitDefEqProofs)
    simp -implicitDefEqProofs
    refine postH_r ⟨?_, ?_, ?_, ?_, ?_, ?_⟩ <;> simp -implicitDefEqProofs [hi, hc]
  | some b =>
    have bl := byteRows_len b
    simp only [rdv, leftN] at *
    generalize byteRows b = B at *
    simp -implicitDefEqProofs [c18]
    refine onH_mk _ _ Bd ⟨?_, ?_, ?_, ?_, ?_, ?_, ?_⟩ ?_
    iterate 7 (· simp -implicitDefEqProofs)
    simp -implicitDefEqProofs [bl]
    refine postH_r ⟨?_, ?_, ?_, ?_, ?_, ?_⟩ <;> simp -implicitDefEqProofs [hi, hc]
def endN : RS → Nat
  | some b => if b.length = 0 then 0 else 10
  | none => 10
theorem wEnd_spec (st : RS) (d : Nat) (c : Id) (hc : c.isIt = false) (hd : c.isNw d = false) :
    SpH Tryd.prog gl 15 d ⟨[.ptr c 0], [(c, rdv st)], []⟩ ⟨i6 (endN st), [(c, rdv st)], []⟩ := by
  refine h15 rfl ?_
  have hi := inn_notNw hd
  have Bd := wbad_spec st 4 (.up c) hc rfl
  cases st with
  | none =>
    simp only [rdv, endN] at *
    simp -implicitDefEqProofs [c15]
    refine onH_mk _ _ Bd ⟨?_, ?_, ?_, ?_, ?_, ?_, ?_⟩ ?_
    iterate 7 (· simp -implicitDefEqProofs)
    simp -implicitDefEqProofs
    refine postH_r ⟨?_, ?_, ?_, ?_, ?_, ?_⟩ <;> simp -implicitDefEqProofs [hi, hc]
  | some b =>
    have bl := byteRows_len b
    simp only [rdv, endN] at *
    by_cases g : b.length = 0
    · have g' : ¬ (0 : Int) < b.length := by omega
      have g2 : ¬ 0 < b.length := by omega
      rw [if_pos g]
      generalize byteRows b = B at *
      simp -implicitDefEqProofs [c15]
      refine onH_mk _ _ Bd ⟨?_, ?_, ?_, ?_, ?_, ?_, ?_⟩ ?_
      iterate 7 (· simp -implicitDefEqProofs)
      simp -implicitDefEqProofs [bl, g', g2, g]
      refine postH_r ⟨?_, ?_, ?_, ?_, ?_, ?_⟩ <;> simp -implicitDefEqProofs [hi, hc]
    · have g' : (0 : Int) < b.length := by omega
      have g2 : 0 < b.length := by omega
      rw [if_neg g]
      generalize byteRows b = B at *
      simp -implicitDefEqProofs [c15]
      refine onH_mk _ _ Bd ⟨?_, ?_, ?_, ?_, ?_, ?_, ?_⟩ ?_
      iterate 7 (· simp -implicitDefEqProofs)
      simp -implicitDefEqProofs [bl, g', g2]
      refine postH_r ⟨?_, ?_, ?_, ?_, ?_, ?_⟩ <;> simp -implicitDefEqProofs [hi, hc]
theorem wNew_spec (b : List UInt8) (d : Nat) : SpH Tryd.prog gl 11 d ⟨[.sl (byteRows b)], [], []⟩ ⟨.ptr (.nw d (.n 5)) 0, [(.nw d (.n 5), rdv (some b))], []⟩ := by
  refine h11 rfl ?_
  simp only [rdv]
  generalize byteRows b = B
  simp only [inSt, mpL, mpB, mpP, AV.mp]
  simp -implicitDefEqProofs [c11]
  refine postH_r ⟨?_, ?_, ?_, ?_, ?_, ?_⟩ <;> simp -implicitDefEqProofs
end Go.Ai
set_option linter.unusedSimpArgs false
set_option linter.unusedVariables false
namespace Go.Ai
open Go.Proofs Go.RowKit
set_option maxRecDepth 20000 in
theorem kget_spec (st : RS) (hl : rsLe st 800000) (d : Nat) (c : Id) (hc : c.isIt = false) (hd : c.isNw d = false) :
    SpH Tryd.prog gl 12 d ⟨[.ptr c 0], [(c, rdv st)], []⟩ ⟨.agg (getK st).2.row, [(c, rdv (getK st).1)], []⟩ := by
  refine h12 rfl ?_
  have hi := inn_notNw hd
  have up : ∀ {s : RS}, rsLe s 800000 → rsLe s 1000000 := fun h b hb => by have := h b hb; omega
  have l1 := textN_le (m := 96) hl
  have l2 := textN_le (m := 96) l1
  have l3 := flagN_le l2
  have l4 := getN_le l3
  have l5 := flagN_le l4
  have T1 := wText_spec st 96 (by omega) (up hl) 5 (.up c) hc rfl
  have T2 := wText_spec (textN 96 st).1 96 (by omega) (up l1) 8 (.up c) hc rfl
  have F1 := wFlag_spec (textN 96 (textN 96 st).1).1 (up l2) 11 (.up c) hc rfl
  have N1 := wNum_spec (flagN (textN 96 (textN 96 st).1).1).1 (up l3) 14 (.up c) hc rfl
  have F2 := wFlag_spec (getN (flagN (textN 96 (textN 96 st).1).1).1).1 (up l4) 17 (.up c) hc rfl
  obtain ⟨k, hk⟩ : ∃ k : Ky, k = ⟨(textN 96 st).2, (textN 96 (textN 96 st).1).2, (flagN (textN 96 (textN 96 st).1).1).2, (getN (flagN (textN 96 (textN 96 st).1).1).1).2, (flagN (getN (flagN (textN 96 (textN 96 st).1).1).1).1).2⟩ := ⟨_, rfl⟩
  have tl : ∀ s : RS, rsLe s 800000 → (textN 96 s).2.length ≤ 800000 := by
    intro s hs
    have h := countN_le (m := 96) hs
    unfold textN takeN
    split
    · rename_i b hb
      have := h b hb
      split
      · simp; omega
      · simp
    · simp
  have Q := kright_spec k (by rw [hk]; exact Nat.le_trans (tl _ hl) (by omega)) (by rw [hk]; exact Nat.le_trans (tl _ l1) (by omega))
  have eg : getK st = (match (flagN (getN (flagN (textN 96 (textN 96 st).1).1).1).1).1 with | some r => if rightK k = true then (some r, k) else (none, kz) | none => (none, kz)) := by rw [hk]; rfl
  have Bd := wbad_spec (flagN (getN (flagN (textN 96 (textN 96 st).1).1).1).1).1 20 (.up c) hc rfl
  have CM := wCountM_spec (flagN (getN (flagN (textN 96 (textN 96 st).1).1).1).1).1 (up l5) 27 (.up c) hc rfl
  have m0 := rdv_mp st
  rw [eg]
  clear eg l1 l2 l3 l4 l5 up tl
  have kr : k.row = [.str (textN 96 st).2, .str (textN 96 (textN 96 st).1).2, .bool (flagN (textN 96 (textN 96 st).1).1).2, u (getN (flagN (textN 96 (textN 96 st).1).1).1).2, .bool (flagN (getN (flagN (textN 96 (textN 96 st).1).1).1).1).2] := by rw [hk]; rfl
  clear hk
  have zr : kz.row = [.str [], .str [], .bool false, u 0, .bool false] := rfl
  rw [kr] at Q
  generalize hs5 : (flagN (getN (flagN (textN 96 (textN 96 st).1).1).1).1).1 = s5 at *
  generalize (flagN (getN (flagN (textN 96 (textN 96 st).1).1).1).1).2 = v5 at *
  generalize rdv (getN (flagN (textN 96 (textN 96 st).1).1).1).1 = B4 at *
  generalize (getN (flagN (textN 96 (textN 96 st).1).1).1).2 = v4 at *
  generalize rdv (flagN (textN 96 (textN 96 st).1).1).1 = B3 at *
  generalize (flagN (textN 96 (textN 96 st).1).1).2 = v3 at *
  generalize rdv (textN 96 (textN 96 st).1).1 = B2 at *
  generalize (textN 96 (textN 96 st).1).2 = v2 at *
  generalize rdv (textN 96 st).1 = B1 at *
  generalize (textN 96 st).2 = v1 at *
  generalize rdv st = B0 at *
  simp only [inSt, mpL, mpB, mpP, AV.mp, m0]
  cases s5 with
  | none =>
    simp only [rdv] at F2 Bd CM ⊢
    rw [zr]
    simp -implicitDefEqProofs [c12]
    refine onH_mk _ _ T1 ⟨?_, ?_, ?_, ?_, ?_, ?_, ?_⟩ ?_
    iterate 7 (· simp -implicitDefEqProofs)
    simp -implicitDefEqProofs
    refine onH_mk _ _ T2 ⟨?_, ?_, ?_, ?_, ?_, ?_, ?_⟩ ?_
    iterate 7 (· simp -implicitDefEqProofs)
    simp -implicitDefEqProofs
    refine onH_mk _ _ F1 ⟨?_, ?_, ?_, ?_, ?_, ?_, ?_⟩ ?_
    iterate 7 (· simp -implicitDefEqProofs)
    simp -implicitDefEqProofs
    refine onH_mk _ _ N1 ⟨?_, ?_, ?_, ?_, ?_, ?_, ?_⟩ ?_
    iterate 7 (· simp -implicitDefEqProofs)
    simp -implicitDefEqProofs
    refine onH_mk _ _ F2 ⟨?_, ?_, ?_, ?_, ?_, ?_, ?_⟩ ?_
    iterate 7 (· simp -implicitDefEqProofs)
    simp -implicitDefEqProofs
    refine onH_mk _ _ Bd ⟨?_, ?_, ?_, ?_, ?_, ?_, ?_⟩ ?_
    iterate 7 (· simp -implicitDefEqProofs)
    simp -implicitDefEqProofs
    refine onH_mk _ _ CM ⟨?_, ?_, ?_, ?_, ?_, ?_, ?_⟩ ?_
    iterate 7 (· simp -implicitDefEqProofs)
    simp -implicitDefEqProofs
    refine postH_r ⟨?_, ?_, ?_, ?_, ?_, ?_⟩ <;> simp -implicitDefEqProofs [hi, hc]
  | some r =>
    cases hq : rightK k
    · rw [hq] at Q
      simp only [Bool.false_eq_true, if_false]
      simp only [rdv] at F2 Bd CM ⊢
      rw [zr]
      generalize byteRows r = B5 at *
      simp -implicitDefEqProofs [c12]
      refine onH_mk _ _ T1 ⟨?_, ?_, ?_, ?_, ?_, ?_, ?_⟩ ?_
      iterate 7 (· simp -implicitDefEqProofs)
      simp -implicitDefEqProofs
      refine onH_mk _ _ T2 ⟨?_, ?_, ?_, ?_, ?_, ?_, ?_⟩ ?_
      iterate 7 (· simp -implicitDefEqProofs)
      simp -implicitDefEqProofs
      refine onH_mk _ _ F1 ⟨?_, ?_, ?_, ?_, ?_, ?_, ?_⟩ ?_
      iterate 7 (· simp -implicitDefEqProofs)
      simp -implicitDefEqProofs
      refine onH_mk _ _ N1 ⟨?_, ?_, ?_, ?_, ?_, ?_, ?_⟩ ?_
      iterate 7 (· simp -implicitDefEqProofs)
      simp -implicitDefEqProofs
      refine onH_mk _ _ F2 ⟨?_, ?_, ?_, ?_, ?_, ?_, ?_⟩ ?_
      iterate 7 (· simp -implicitDefEqProofs)
      simp -implicitDefEqProofs
      refine onH_mk _ _ Bd ⟨?_, ?_, ?_, ?_, ?_, ?_, ?_⟩ ?_
      iterate 7 (· simp -implicitDefEqProofs)
      simp -implicitDefEqProofs
      refine onC_mk _ Q ?_
      simp -implicitDefEqProofs
      refine onH_mk _ _ CM ⟨?_, ?_, ?_, ?_, ?_, ?_, ?_⟩ ?_
      iterate 7 (· simp -implicitDefEqProofs)
      simp -implicitDefEqProofs
      refine postH_r ⟨?_, ?_, ?_, ?_, ?_, ?_⟩ <;> simp -implicitDefEqProofs [hi, hc]
    · rw [hq] at Q
      simp only [if_true]
      rw [kr]
      simp only [rdv] at F2 Bd CM ⊢
      generalize byteRows r = B5 at *
      simp -implicitDefEqProofs [c12]
      refine onH_mk _ _ T1 ⟨?_, ?_, ?_, ?_, ?_, ?_, ?_⟩ ?_
      iterate 7 (· simp -implicitDefEqProofs)
      simp -implicitDefEqProofs
      refine onH_mk _ _ T2 ⟨?_, ?_, ?_, ?_, ?_, ?_, ?_⟩ ?_
      iterate 7 (· simp -implicitDefEqProofs)
      simp -implicitDefEqProofs
      refine onH_mk _ _ F1 ⟨?_, ?_, ?_, ?_, ?_, ?_, ?_⟩ ?_
      iterate 7 (· simp -implicitDefEqProofs)
      simp -implicitDefEqProofs
      refine onH_mk _ _ N1 ⟨?_, ?_, ?_, ?_, ?_, ?_, ?_⟩ ?_
      iterate 7 (· simp -implicitDefEqProofs)
      simp -implicitDefEqProofs
      refine onH_mk _ _ F2 ⟨?_, ?_, ?_, ?_, ?_, ?_, ?_⟩ ?_
      iterate 7 (· simp -implicitDefEqProofs)
      simp -implicitDefEqProofs
      refine onH_mk _ _ Bd ⟨?_, ?_, ?_, ?_, ?_, ?_, ?_⟩ ?_
      iterate 7 (· simp -implicitDefEqProofs)
      simp -implicitDefEqProofs
      refine onC_mk _ Q ?_
      simp -implicitDefEqProofs
      refine postH_r ⟨?_, ?_, ?_, ?_, ?_, ?_⟩ <;> simp -implicitDefEqProofs [hi, hc]
end Go.Ai
set_option linter.unusedSimpArgs false
set_option linter.unusedVariables false
namespace Go.Ai
open Go.Proofs Go.RowKit
/-! ### The document's answer: layer 7 -/
theorem be_snoc (k n : Nat) : be (k + 1) n = be k (n / 256) ++ [UInt8.ofNat n] := by
  induction k with
  | zero => simp [be]
  | succ k ih =>
    rw [be, ih, be, List.cons_append]
    congr 2
    rw [Nat.div_div_eq_div_mul, Nat.pow_succ, Nat.mul_comm]
theorem be_sz8 {n : Nat} (h : n ≠ 0) : be (sz8 n) n = be (sz8 (n / 256)) (n / 256) ++ [UInt8.ofNat n] := by
  rw [sz8_pos h, be_snoc]
set_option maxRecDepth 20000 in
theorem rNum_spec (n : Nat) (hn : n < 18446744073709551616) (d : Nat) : SpH Tryd.prog gl 51 d ⟨[u n], [], []⟩ ⟨.sl (byteRows (numB n)), [], [(.s 0, 1)]⟩ := by
  refine h51 rfl ?_
  have hlim : lim = 140737488355328 := rfl
  have h8 := sz8_le8 n hn
  obtain ⟨R, hR⟩ : ∃ R, R = be (sz8 n) n := ⟨_, rfl⟩
  have hnb : numB n = UInt8.ofNat (sz8 n) :: R := by rw [hR]; rfl
  have hlen : R.length = sz8 n := by rw [hR, be_len]
  rw [hnb]
  simp only [inSt, mpL, mpB, mpP, AV.mp]
  simp -implicitDefEqProofs [c51]
  refine wp_lpk (α := Nat × List UInt8) (fun x => ⟨[(0, u x.1), (3, .sl (byteRows x.2))], [], []⟩) (fun x => x.1 < 18446744073709551616 ∧ x.2.length + sz8 x.1 ≤ 8 ∧ be (sz8 x.1) x.1 ++ x.2 = R) (fun x => x.1) ?_ (n, []) ?_ ?_
  · rintro K ⟨m, acc⟩ hK ⟨g1, g2, g3⟩
    simp only at g1 g2 g3
    by_cases h0 : m = 0
    · subst h0
      rw [sz8_zero] at g3
      simp only [be, List.nil_append] at g3
      subst g3
      have bl := byteRows_len acc
      have w1 : IntKind.u8.wrap (acc.length : Int) = acc.length := by rw [wrap_u8] <;> omega
      have e : byteRows (UInt8.ofNat (sz8 n) :: acc) = [.int .u8 (acc.length : Nat)] :: byteRows acc := by
        rw [byteRows_cons, ← hlen]
        congr 4
        simp; omega
      rw [e]
      have one := byteRows_one acc
      have q1 : 1 + acc.length ≤ 140737488355328 := by omega
      generalize byteRows acc = A at *
      clear hK e
      simp -implicitDefEqProofs [bl, w1, hlim, q1]
      refine ⟨one, postH_r ⟨?_, ?_, ?_, ?_, ?_, ?_⟩⟩ <;> simp -implicitDefEqProofs
    · have m1 : (0 : Int) < m := by omega
      have m2 : 0 < m := by omega
      rw [be_sz8 h0] at g3
      rw [sz8_pos h0] at g2
      have fin : ∀ σ', Weak σ' ⟨[(0, u (m / 256 : Nat)), (3, .sl (byteRows (UInt8.ofNat m :: acc)))], [], []⟩ → K σ' :=
        fun σ' hσ => hK (m / 256, UInt8.ofNat m :: acc) σ' ⟨by simp only; omega, by simp only [List.length_cons]; omega, by simp only; rw [← g3]; simp⟩ (by simp only; omega) hσ
      have bl := byteRows_len acc
      have one := byteRows_one acc
      have q1 : 1 + acc.length ≤ 140737488355328 := by omega
      have w1 : IntKind.u8.wrap ((m : Int).tmod 256) = ((UInt8.ofNat m).toNat : Int) := by
        rw [Int.tmod_eq_emod_of_nonneg (by omega), wrap_u8 (by omega) (by omega)]; simp
      have w2 : IntKind.u64.wrap ((m : Int).tdiv 256) = ((m / 256 : Nat) : Int) := by
        rw [Int.tdiv_eq_ediv_of_nonneg (by omega), wrap_u64] <;> omega
      have w3 : IntKind.u64.wrap ((m : Int) / 256) = ((m / 256 : Nat) : Int) := by rw [wrap_u64] <;> omega
      rw [byteRows_cons] at fin
      generalize (UInt8.ofNat m).toNat = bb at *
      generalize byteRows acc = A at *
      generalize m / 256 = m' at *
      clear hK g3
      simp -implicitDefEqProofs [m1, m2, w1, w2, bl, hlim, q1]
      refine ⟨one, fin _ (weak_mk ?_ ?_ ?_ ?_ ?_ ?_)⟩ <;> simp -implicitDefEqProofs [w2, w3]
  · exact ⟨hn, by simp; omega, by simp [hR]⟩
  · refine weak_mk ?_ ?_ ?_ ?_ ?_ ?_ <;> simp -implicitDefEqProofs [byteRows]
theorem rText_spec (s : List UInt8) (hs : s.length ≤ 500000) (d : Nat) : SpH Tryd.prog gl 49 d ⟨[.str s], [], []⟩ ⟨.sl (byteRows (textB s)), [], [(.s 0, 1)]⟩ := by
  refine h49 rfl ?_
  have hlim : lim = 140737488355328 := rfl
  have P := appN_mk (fun d => rNum_spec s.length (by omega) d)
  have t1 : IntKind.u64.wrap (s.length : Int) = s.length := by rw [wrap_u64] <;> omega
  have e : byteRows (textB s) = byteRows (numB s.length) ++ byteRows s := by unfold textB; rw [byteRows_app]
  rw [e]
  have nl := numB_len s.length (by omega)
  have one := byteRows_one (numB s.length)
  have bl := byteRows_len (numB s.length)
  have q1 : (numB s.length).length + s.length ≤ 140737488355328 := by omega
  generalize byteRows (numB s.length) = B at *
  simp only [inSt, mpL, mpB, mpP, AV.mp]
  simp -implicitDefEqProofs [c49, t1]
  refine onA_mk 1 B ?_ ?_
  · simp -implicitDefEqProofs [caS]
    exact P
  · simp -implicitDefEqProofs [caSt, hlim, bl, q1]
    refine ⟨one, postH_r ⟨?_, ?_, ?_, ?_, ?_, ?_⟩⟩ <;> simp -implicitDefEqProofs
theorem rflag_spec (f : Bool) : Sp Tryd.prog gl 50 [.bool f] (.int .u8 (if f = true then 1 else 0)) := by
  refine s50 rfl rfl ?_
  cases f
  · simp -implicitDefEqProofs [c50]
  · simp -implicitDefEqProofs [c50]
set_option maxRecDepth 20000 in
theorem rput_spec (k : Ky) (hg : k.g.length ≤ 1000) (hr : k.r.length ≤ 1000) (he : k.e < 18446744073709551616) : Sp Tryd.prog gl 13 [.agg k.row] (.sl (byteRows (putK k))) := by
  refine s13 rfl rfl ?_
  have hlim : lim = 140737488355328 := rfl
  have L1 := textB_len k.g (by omega)
  have L2 := textB_len k.r (by omega)
  have L3 := numB_len k.e he
  have P1 := appN_mk (fun d => rText_spec k.g (by omega) d)
  have P2 := Sp.of_h (fun d => (rText_spec k.r (by omega) d).noPm)
  have P4 := Sp.of_h (fun d => (rNum_spec k.e he d).noPm)
  have F3 := rflag_spec k.p
  have F5 := rflag_spec k.f
  have ef : ∀ f : Bool, [[AV.int .u8 (if f = true then 1 else 0)]] = byteRows (flagB f) := by intro f; cases f <;> rfl
  have e : byteRows (putK k) = byteRows (textB k.g) ++ (byteRows (textB k.r) ++ ([.int .u8 (if k.p = true then 1 else 0)] :: (byteRows (numB k.e) ++ [[.int .u8 (if k.f = true then 1 else 0)]]))) := by
    unfold putK
    simp only [byteRows_app, ← ef, List.singleton_append]
  rw [e, krow]
  have o1 := byteRows_one (textB k.g)
  have o2 := byteRows_one (textB k.r)
  have o4 := byteRows_one (numB k.e)
  have b1 := byteRows_len (textB k.g)
  have b2 := byteRows_len (textB k.r)
  have b4 := byteRows_len (numB k.e)
  generalize byteRows (textB k.g) = R1 at *
  generalize byteRows (textB k.r) = R2 at *
  generalize byteRows (numB k.e) = R4 at *
  generalize (textB k.g).length = n1 at *
  generalize (textB k.r).length = n2 at *
  generalize (numB k.e).length = n4 at *
  generalize (if k.p = true then (1 : Int) else 0) = v3 at *
  generalize (if k.f = true then (1 : Int) else 0) = v5 at *
  clear e ef
  have q1 : n1 + n2 ≤ 140737488355328 := by omega
  have q2 : n1 + n2 + 1 ≤ 140737488355328 := by omega
  simp -implicitDefEqProofs [c13]
  refine onA_mk 1 R1 ?_ ?_
  · simp -implicitDefEqProofs [caS]
    exact P1
  simp -implicitDefEqProofs [caSt]
  refine onC_mk _ P2 ?_
  simp -implicitDefEqProofs [hlim, b1, b2, q1]
  refine ⟨o1, o2, ?_⟩
  refine onC_mk _ F3 ?_
  simp -implicitDefEqProofs [hlim, b1, b2]
  refine ⟨by omega, fun r hr => hr.elim (o1 r) (o2 r), ?_⟩
  refine onC_mk _ P4 ?_
  simp -implicitDefEqProofs [hlim, b1, b2, b4]
  refine ⟨by omega, fun r hr => ?_, o4, ?_⟩
  · rcases hr with hr | hr | hr
    · exact o1 r hr
    · exact o2 r hr
    · subst hr; rfl
  refine onC_mk _ F5 ?_
  simp -implicitDefEqProofs [hlim, b1, b2, b4]
  refine ⟨by omega, fun r hr => ?_⟩
  rcases hr with hr | hr | hr | hr
  · exact o1 r hr
  · exact o2 r hr
  · subst hr; rfl
  · exact o4 r hr
end Go.Ai
set_option linter.unusedSimpArgs false
set_option linter.unusedVariables false
namespace Go.Ai
open Go.Proofs Go.RowKit
def gz : List AV := [u 0, i6 0, .str [], .bool false]
def zeroR : AV := .tup [.agg gz, i6 0, .bool false]
def numR (n nx : Nat) : AV := .tup [.agg [u n, i6 0, .str [], .bool false], i6 nx, .bool true]
def textR (B : List UInt8) (n nx : Nat) : AV := if n ≤ 96 ∧ n ≤ B.length - nx then .tup [.agg [u 0, i6 0, .str ((B.drop nx).take n), .bool false], i6 (nx + n : Nat), .bool true] else zeroR
def flagR (B : List UInt8) (at_ : Nat) : AV := match B.drop at_ with
  | [] => zeroR
  | b :: _ => .tup [.agg [u 0, i6 0, .str [], .bool (b == 1)], i6 (at_ + 1 : Nat), .bool (decide (b.toNat < 2))]
def kindR (kd : Bool) (B : List UInt8) (n nx : Nat) : AV := if kd = true then numR n nx else textR B n nx
def knd (kd : Bool) : Int := if kd = true then 0 else 2
def mst (kd : Bool) : Int := if kd = true then 0 else 96
set_option maxRecDepth 20000 in
theorem rget_t10 (kd : Bool) (B : List UInt8) (hB : B.length ≤ 1000000) (at_ k n nx : Nat) (ha : at_ ≤ 1000000) (hk : k ≤ 8) (hnx : nx = at_ + 1 + k) (hle : nx ≤ B.length) (hn : n < 18446744073709551616) (e : List (Nat × AV)) (pm : List (Pl × Nat))
    (l0 : lk e 0 = .sl (byteRows B)) (l1 : lk e 1 = i6 at_) (l5 : lk e 5 = .ptr (.n 5) 0) (l6 : lk e 6 = .ptr (.n 6) 0) (l9 : lk e 9 = .ptr (.n 9) 0) (l10 : lk e 10 = i6 k) (l12 : lk e 12 = u n) :
    wpA (SpH Tryd.prog gl) (AC.tl 10 c53) (postA [.ca 6 4, .t 7, .t 8] (kindR kd B n nx)) ⟨e, [(.n 9, gz), (.n 6, gz), (.n 5, [i6 (knd kd), i6 (mst kd)])], pm⟩ := by
  simp only [c53, AC.tl, gz]
  have t1 : IntKind.i64.wrap ((at_ : Int) + 1) = (at_ : Int) + 1 := by rw [wrap_i64] <;> omega
  have t2 : IntKind.i64.wrap ((at_ : Int) + 1 + k) = (nx : Nat) := by rw [wrap_i64] <;> omega
  cases kd
  · simp only [kindR, textR, knd, mst, Bool.false_eq_true, if_false]
    have t3 : IntKind.u64.wrap 96 = 96 := by rw [wrap_u64] <;> omega
    have bl := byteRows_len B
    have t4 : IntKind.i64.wrap ((B.length : Int) - nx) = ((B.length - nx : Nat) : Int) := by rw [wrap_i64] <;> omega
    have t5 : IntKind.u64.wrap ((B.length - nx : Nat) : Int) = ((B.length - nx : Nat) : Int) := by rw [wrap_u64] <;> omega
    by_cases g1 : n ≤ 96
    · have g1' : ¬ (96 : Int) < n := by omega
      have g1n : ¬ 96 < n := by omega
      by_cases g2 : n ≤ B.length - nx
      · rw [if_pos ⟨g1, g2⟩]
        have g2' : ¬ ((B.length - nx : Nat) : Int) < n := by omega
        have g2n : ¬ B.length - nx < n := by omega
        have t6 : IntKind.i64.wrap (n : Int) = n := by rw [wrap_i64] <;> omega
        have t7 : IntKind.i64.wrap ((nx : Int) + n) = ((nx + n : Nat) : Int) := by rw [wrap_i64] <;> omega
        have q1 : (nx : Int) ≤ ((nx + n : Nat) : Int) := by omega
        have q2 : ((nx + n : Nat) : Int) ≤ B.length := by omega
        have sl : List.drop nx (List.take (nx + n) (byteRows B)) = byteRows ((B.drop nx).take n) := by
          rw [byteRows_take, byteRows_drop, List.drop_take, Nat.add_sub_cancel_left]
        have rb := rowBytes_of ((B.drop nx).take n)
        have one := byteRows_one B
        generalize B.length - nx = lx at *
        generalize byteRows ((B.drop nx).take n) = R at *
        generalize (B.drop nx).take n = S at *
        generalize byteRows B = BR at *
        obtain ⟨nn, hnn⟩ : ∃ nn, nn = nx + n := ⟨_, rfl⟩
        rw [← hnn] at t7 q1 q2 sl ⊢
        simp -implicitDefEqProofs [l0, l1, l5, l6, l9, l10, l12, t1, t2, t3, bl, t4, t5, g1', g1n, g2', g2n, t6, t7, q1, q2, sl]
        refine ⟨one, ?_⟩
        simp -implicitDefEqProofs [bytesA, rb, l6, l12, t6, t7]
      · rw [if_neg (fun h => g2 h.2)]
        have g2' : ((B.length - nx : Nat) : Int) < n := by omega
        have g2n : B.length - nx < n := by omega
        generalize B.length - nx = lx at *
        generalize byteRows B = BR at *
        simp -implicitDefEqProofs [l0, l1, l5, l6, l9, l10, l12, t1, t2, t3, bl, t4, t5, g1', g1n, g2', g2n, zeroR, gz]
    · rw [if_neg (fun h => g1 h.1)]
      have g1' : (96 : Int) < n := by omega
      have g1n : 96 < n := by omega
      generalize byteRows B = BR at *
      simp -implicitDefEqProofs [l0, l1, l5, l6, l9, l10, l12, t1, t2, t3, g1', g1n, zeroR, gz]
  · simp only [kindR, numR, knd, mst, if_true]
    generalize byteRows B = BR at *
    simp -implicitDefEqProofs [l0, l1, l5, l6, l9, l10, l12, t1, t2]
/-- What stands at a place. -/
def gotN (B : List UInt8) (at_ : Nat) : Option (Nat × Nat) := match B.drop at_ with
  | [] => none
  | k :: r => if k.toNat ≤ 8 ∧ k.toNat ≤ r.length ∧ ¬ (0 < k.toNat ∧ r.headD 1 = 0) then some (numOf (r.take k.toNat), at_ + 1 + k.toNat) else none
def gotR (kd : Bool) (B : List UInt8) (at_ : Nat) : AV := match gotN B at_ with
  | some (n, nx) => kindR kd B n nx
  | none => zeroR
theorem be8 (x b : Nat) (h : x < 72057594037927936) (hb : b < 256) : IntKind.u64.wrap (IntKind.u64.wrap (256 * (x : Int)) + (b : Int)) = ((256 * x + b : Nat) : Int) := by
  have e : IntKind.u64.wrap (256 * (x : Int)) = 256 * (x : Int) := by rw [wrap_u64] <;> omega
  rw [e, wrap_u64] <;> omega
set_option maxRecDepth 20000 in
theorem rget_t9 (kd : Bool) (B : List UInt8) (hB : B.length ≤ 1000000) (at_ k : Nat) (ha : at_ ≤ 1000000) (hk : k ≤ 8) (hle : at_ + 1 + k ≤ B.length) (e : List (Nat × AV)) (pm : List (Pl × Nat))
    (l0 : lk e 0 = .sl (byteRows B)) (l1 : lk e 1 = i6 at_) (l5 : lk e 5 = .ptr (.n 5) 0) (l6 : lk e 6 = .ptr (.n 6) 0) (l9 : lk e 9 = .ptr (.n 9) 0) (l10 : lk e 10 = i6 k) (l12 : lk e 12 = u 0) :
    wpA (SpH Tryd.prog gl) (AC.tl 9 c53) (postA [.ca 6 4, .t 7, .t 8] (kindR kd B (numOf ((B.drop (at_ + 1)).take k)) (at_ + 1 + k))) ⟨e, [(.n 9, gz), (.n 6, gz), (.n 5, [i6 (knd kd), i6 (mst kd)])], pm⟩ := by
  obtain ⟨q, hq⟩ : ∃ q, q = (B.drop (at_ + 1)).take k := ⟨_, rfl⟩
  have ql : q.length = k := by rw [hq, List.length_take, List.length_drop]; omega
  have qat : ∀ i (h : i < q.length), ∀ h2, (byteRows B)[at_ + 1 + i]'h2 = [.int .u8 q[i].toNat] := by
    intro i h h2
    simp only [byteRows, List.getElem_map, hq, List.getElem_take, List.getElem_drop]
  rw [← hq]
  have nlt := numOf_lt q
  have nq : numOf q < 18446744073709551616 := Nat.lt_of_lt_of_le nlt (Nat.le_trans (Nat.pow_le_pow_right (by omega) (show q.length ≤ 8 by omega)) (by decide))
  have T := rget_t10 kd B hB at_ k (numOf q) (at_ + 1 + k) ha hk rfl hle nq
  have bl := byteRows_len B
  have t1 : IntKind.i64.wrap ((at_ : Int) + 1) = (at_ : Int) + 1 := by rw [wrap_i64] <;> omega
  have ec : AC.tl 9 c53 = AC.cutAt 1 (AC.tl 10 c53) (AC.tl 9 c53) := rfl
  rw [ec]
  generalize AC.tl 10 c53 = t at T ⊢
  simp only [c53, AC.tl, AC.cutAt]
  generalize kindR kd B (numOf q) (at_ + 1 + k) = R at *
  have i5 : idsL [i6 (knd kd), i6 (mst kd)] = [] := rfl
  have iZ : idsL gz = [] := rfl
  generalize [i6 (knd kd), i6 (mst kd)] = B5 at *
  generalize gz = Z at *
  generalize byteRows B = BR at *
  simp -implicitDefEqProofs
  refine wp_lpk (α := Nat) (fun i => ⟨[(0, .sl BR), (1, i6 at_), (5, .ptr (.n 5) 0), (6, .ptr (.n 6) 0), (9, .ptr (.n 9) 0), (10, i6 k), (12, u (numOf (q.take i))), (13, i6 i)], [(.n 9, Z), (.n 6, Z), (.n 5, B5)], []⟩) (fun i => i ≤ k) (fun i => k - i) ?_ 0 ?_ ?_
  · rintro K i hK h1
    by_cases g : i < k
    · have nt := numOf_take q i (by omega)
      have nl := numOf_lt (q.take i)
      rw [List.length_take, Nat.min_eq_left (by omega)] at nl
      have nl2 : numOf (q.take i) < 72057594037927936 := Nat.lt_of_lt_of_le nl (Nat.le_trans (Nat.pow_le_pow_right (by omega) (show i ≤ 7 by omega)) (by decide))
      have qi := qat i (by omega)
      obtain ⟨y, hy⟩ : ∃ y, q[i]'(by omega) = y := ⟨_, rfl⟩
      rw [hy] at qi nt
      have b8 := be8 (numOf (q.take i)) y.toNat nl2 y.toNat_lt
      have w2 : IntKind.u64.wrap (y.toNat : Int) = y.toNat := by have := y.toNat_lt; rw [wrap_u64] <;> omega
      have t2 : IntKind.i64.wrap ((i : Int) + 1) = (i + 1 : Nat) := by rw [wrap_i64] <;> omega
      have t3 : IntKind.i64.wrap ((at_ : Int) + 1 + i) = ((at_ + 1 + i : Nat) : Int) := by rw [wrap_i64] <;> omega
      have fin : ∀ σ', Weak σ' ⟨[(0, .sl BR), (1, i6 at_), (5, .ptr (.n 5) 0), (6, .ptr (.n 6) 0), (9, .ptr (.n 9) 0), (10, i6 k), (12, u (numOf (q.take (i + 1)))), (13, i6 (i + 1 : Nat))], [(.n 9, Z), (.n 6, Z), (.n 5, B5)], []⟩ → K σ' :=
        fun σ' hσ => hK (i + 1) σ' (by omega) (by omega) hσ
      rw [nt] at fin
      have gb : at_ + 1 + i < BR.length := by omega
      clear hK nt T
      obtain ⟨p, hp⟩ : ∃ p, p = at_ + 1 + i := ⟨_, rfl⟩
      rw [← hp] at t3 gb
      have qi' : ∀ h2, BR[p]'h2 = [.int .u8 y.toNat] := by subst hp; exact qi
      generalize numOf (q.take i) = x at *
      obtain ⟨z, hz⟩ : ∃ z : Nat, z = 256 * x + y.toNat := ⟨_, rfl⟩
      rw [← hz] at b8 fin
      simp -implicitDefEqProofs [g, t1, t3, gb, qi', w2, b8]
      refine fin _ (weak_mk ?_ ?_ ?_ ?_ ?_ ?_) <;> simp -implicitDefEqProofs [t2, i5, iZ]
    · obtain rfl : i = k := by omega
      rw [List.take_of_length_le (by omega)]
      generalize numOf q = x at *
      clear hK
      simp -implicitDefEqProofs
      refine T _ _ ?_ ?_ ?_ ?_ ?_ ?_ ?_ <;> simp -implicitDefEqProofs
  · exact Nat.zero_le _
  · refine weak_mk ?_ ?_ ?_ ?_ ?_ ?_ <;> simp -implicitDefEqProofs [numOf, i5, iZ, l0, l1, l5, l6, l9, l10, l12]
end Go.Ai
set_option linter.unusedSimpArgs false
set_option linter.unusedVariables false
namespace Go.Ai
open Go.Proofs Go.RowKit
theorem rget_flag (B : List UInt8) (at_ : Nat) (hB : B.length ≤ 1000000) (ha : at_ ≤ 1000000) : Sp Tryd.prog gl 53 [.sl (byteRows B), i6 at_, .agg [i6 3, i6 0]] (flagR B at_) := by
  refine s53 rfl rfl ?_
  have bl := byteRows_len B
  by_cases g : at_ < B.length
  · have g' : ¬ (B.length : Int) ≤ at_ := by omega
    have gn : ¬ B.length ≤ at_ := by omega
    have e : B.drop at_ = B[at_] :: B.drop (at_ + 1) := List.drop_eq_getElem_cons g
    have t1 : IntKind.i64.wrap ((at_ : Int) + 1) = (at_ + 1 : Nat) := by rw [wrap_i64] <;> omega
    have k1 : ∀ k : UInt8, (k == 1) = ((k.toNat : Int) == 1) := by
      intro k
      rw [Bool.eq_iff_iff]
      simp only [beq_iff_eq]
      constructor
      · rintro rfl; rfl
      · intro e; exact UInt8.toNat.inj (by have : k.toNat = 1 := by omega
                                           rw [this]; rfl)
    have bat := byteRows_at B at_ g
    unfold flagR
    rw [e]
    simp only [k1]
    have k2 : decide (B[at_].toNat < 2) = decide ((B[at_].toNat : Int) < 2) := by rw [Bool.eq_iff_iff]; simp; omega
    rw [k2]
    have gb : at_ < (byteRows B).length := by omega
    have bat' : ∀ h2, (byteRows B)[at_]'h2 = [.int .u8 B[at_].toNat] := fun h2 => by rw [List.getElem?_eq_getElem h2] at bat; exact Option.some.inj bat
    generalize B[at_].toNat = kk at *
    generalize byteRows B = BR at *
    simp -implicitDefEqProofs [c53, bl, g, g', gn, bat', gb, t1]
  · have g' : (B.length : Int) ≤ at_ := by omega
    have gn : B.length ≤ at_ := by omega
    have e : B.drop at_ = [] := List.drop_eq_nil_of_le gn
    unfold flagR
    rw [e]
    simp only [zeroR, gz]
    generalize byteRows B = BR at *
    simp -implicitDefEqProofs [c53, bl, g', gn]
set_option maxRecDepth 20000 in
theorem rget_num (kd : Bool) (B : List UInt8) (at_ : Nat) (hB : B.length ≤ 1000000) (ha : at_ ≤ 1000000) : Sp Tryd.prog gl 53 [.sl (byteRows B), i6 at_, .agg [i6 (knd kd), i6 (mst kd)]] (gotR kd B at_) := by
  refine s53 rfl rfl ?_
  have bl := byteRows_len B
  have n3 : (knd kd == 3) = false := by cases kd <;> rfl
  have n1 : (knd kd == 1) = false := by cases kd <;> rfl
  by_cases g : at_ < B.length
  · have g' : ¬ (B.length : Int) ≤ at_ := by omega
    have gn : ¬ B.length ≤ at_ := by omega
    have e : B.drop at_ = B[at_] :: B.drop (at_ + 1) := List.drop_eq_getElem_cons g
    have bat := byteRows_at B at_ g
    have gb : at_ < (byteRows B).length := by omega
    have bat' : ∀ h2, (byteRows B)[at_]'h2 = [.int .u8 B[at_].toNat] := fun h2 => by rw [List.getElem?_eq_getElem h2] at bat; exact Option.some.inj bat
    unfold gotR gotN
    rw [e]
    simp only [List.length_drop]
    have kk256 := B[at_].toNat_lt
    generalize B[at_].toNat = kk at *
    have t1 : IntKind.i64.wrap ((B.length : Int) - at_) = ((B.length - at_ : Nat) : Int) := by rw [wrap_i64] <;> omega
    have t2 : IntKind.i64.wrap (((B.length - at_ : Nat) : Int) - 1) = ((B.length - (at_ + 1) : Nat) : Int) := by rw [wrap_i64] <;> omega
    have t3 : IntKind.i64.wrap (kk : Int) = kk := by rw [wrap_i64] <;> omega
    have t4 : IntKind.i64.wrap ((at_ : Int) + 1) = (at_ + 1 : Nat) := by rw [wrap_i64] <;> omega
    by_cases g8 : kk ≤ 8
    · have g8' : ¬ (8 : Int) < kk := by omega
      have g8n : ¬ 8 < kk := by omega
      by_cases gl_ : kk ≤ B.length - (at_ + 1)
      · have gl1 : ¬ ((B.length - (at_ + 1) : Nat) : Int) < kk := by omega
        have gl2 : ¬ B.length - (at_ + 1) < kk := by omega
        have T := rget_t9 kd B hB at_ kk ha g8 (by omega)
        by_cases k0 : 0 < kk
        · have k0' : (0 : Int) < kk := by omega
          have g1 : at_ + 1 < B.length := by omega
          have e1 : B.drop (at_ + 1) = B[at_ + 1] :: B.drop (at_ + 2) := List.drop_eq_getElem_cons g1
          have batA := byteRows_at B (at_ + 1) g1
          have gb1 : at_ + 1 < (byteRows B).length := by omega
          have batA' : ∀ h2, (byteRows B)[at_ + 1]'h2 = [.int .u8 B[at_ + 1].toNat] := fun h2 => by rw [List.getElem?_eq_getElem h2] at batA; exact Option.some.inj batA
          by_cases z0 : B[at_ + 1] = 0
          · rw [if_neg (fun h => h.2.2 ⟨k0, by rw [e1]; exact z0⟩)]
            simp only
            have z1 : ((B[at_ + 1].toNat : Int) == 0) = true := by rw [z0]; rfl
            generalize B[at_ + 1].toNat = zz at *
            clear T e e1 bat batA
            generalize B.length - (at_ + 1) = ll at *
            generalize B.length - at_ = lm at *
            obtain ⟨p, hp⟩ : ∃ p, p = at_ + 1 := ⟨_, rfl⟩
            rw [← hp] at t4 gb1
            have g1p : p < B.length := by omega
            have batB : ∀ h2, (byteRows B)[p]'h2 = [.int .u8 zz] := by subst hp; exact batA'
            clear batA' hp
            generalize byteRows B = BR at *
            generalize knd kd = KD at *
            generalize mst kd = MD at *
            simp only [zeroR, gz]
            simp -implicitDefEqProofs [c53, bl, g, g', gn, bat', gb, n3, n1, t1, t2, t3, g8', g8n, gl1, gl2, k0', k0, t4, gb1, g1p, batB, z1]
          · have z1 : ((B[at_ + 1].toNat : Int) == 0) = false := by
              simp only [beq_eq_false_iff_ne, ne_eq]
              intro e
              exact z0 (UInt8.toNat.inj (by have : B[at_ + 1].toNat = 0 := by omega
                                            rw [this]; rfl))
            rw [if_pos ⟨g8, gl_, fun h => z0 (by have := h.2; rw [e1] at this; exact this)⟩]
            simp only
            generalize B[at_ + 1].toNat = zz at *
            clear e e1 bat batA
            generalize kindR kd B (numOf ((B.drop (at_ + 1)).take kk)) (at_ + 1 + kk) = R at *
            generalize B.length - (at_ + 1) = ll at *
            generalize B.length - at_ = lm at *
            obtain ⟨p, hp⟩ : ∃ p, p = at_ + 1 := ⟨_, rfl⟩
            rw [← hp] at t4 gb1
            have g1p : p < B.length := by omega
            have batB : ∀ h2, (byteRows B)[p]'h2 = [.int .u8 zz] := by subst hp; exact batA'
            clear batA' hp
            have ec : c53 = AC.cutAt 9 (AC.tl 9 c53) c53 := rfl
            rw [ec]
            generalize AC.tl 9 c53 = t at T ⊢
            simp only [c53, AC.cutAt]
            unfold gz at T
            generalize byteRows B = BR at *
            generalize knd kd = KD at *
            generalize mst kd = MD at *
            simp -implicitDefEqProofs [bl, g, g', gn, bat', gb, n3, n1, t1, t2, t3, g8', g8n, gl1, gl2, k0', k0, t4, gb1, g1p, batB, z1]
            refine T _ _ ?_ ?_ ?_ ?_ ?_ ?_ ?_ <;> simp -implicitDefEqProofs
        · have k0' : ¬ (0 : Int) < kk := by omega
          rw [if_pos ⟨g8, gl_, fun h => k0 h.1⟩]
          simp only
          clear e bat
          generalize kindR kd B (numOf ((B.drop (at_ + 1)).take kk)) (at_ + 1 + kk) = R at *
          generalize B.length - (at_ + 1) = ll at *
          generalize B.length - at_ = lm at *
          have ec : c53 = AC.cutAt 9 (AC.tl 9 c53) c53 := rfl
          rw [ec]
          generalize AC.tl 9 c53 = t at T ⊢
          simp only [c53, AC.cutAt]
          unfold gz at T
          generalize byteRows B = BR at *
          generalize knd kd = KD at *
          generalize mst kd = MD at *
          simp -implicitDefEqProofs [bl, g, g', gn, bat', gb, n3, n1, t1, t2, t3, g8', g8n, gl1, gl2, k0', k0]
          refine T _ _ ?_ ?_ ?_ ?_ ?_ ?_ ?_ <;> simp -implicitDefEqProofs
      · have gl1 : ((B.length - (at_ + 1) : Nat) : Int) < kk := by omega
        have gl2 : B.length - (at_ + 1) < kk := by omega
        rw [if_neg (fun h => gl_ h.2.1)]
        simp only
        clear e bat
        generalize B.length - (at_ + 1) = ll at *
        generalize B.length - at_ = lm at *
        generalize byteRows B = BR at *
        generalize knd kd = KD at *
        generalize mst kd = MD at *
        simp only [zeroR, gz]
        simp -implicitDefEqProofs [c53, bl, g, g', gn, bat', gb, n3, n1, t1, t2, t3, g8', g8n, gl1, gl2]
    · have g8' : (8 : Int) < kk := by omega
      have g8n : 8 < kk := by omega
      rw [if_neg (fun h => g8 h.1)]
      simp only
      clear e bat
      generalize byteRows B = BR at *
      generalize knd kd = KD at *
      generalize mst kd = MD at *
      simp only [zeroR, gz]
      simp -implicitDefEqProofs [c53, bl, g, g', gn, bat', gb, n3, n1, t3, g8', g8n]
  · have g' : (B.length : Int) ≤ at_ := by omega
    have gn : B.length ≤ at_ := by omega
    have e : B.drop at_ = [] := List.drop_eq_nil_of_le gn
    unfold gotR gotN
    rw [e]
    simp only [zeroR, gz]
    generalize byteRows B = BR at *
    generalize knd kd = KD at *
    generalize mst kd = MD at *
    simp -implicitDefEqProofs [c53, bl, g', gn]
end Go.Ai
