/- P2: a part of the proof: the rules, or what functions compute. Conditions: as each theorem says. -/
import Derived.Test.YtidcomakahbepaaGreatDoorP1
set_option linter.unusedSimpArgs false
set_option linter.unusedVariables false
set_option maxRecDepth 20000
namespace Go.Ai
open Go.Proofs
def EvLe (L : List Ev) (t : Nat) : Prop := ∀ e ∈ L, e.1 ≤ t
def mvF (v : Ev → Nat) (K w N n0 n : Nat) (L : List Ev) (j : Nat) : Nat := sm v w (fun q => leftP K N n0 n q && q % K == j) L
def mvS (v : Ev → Nat) (K w N n0 n : Nat) (L : List Ev) : Nat := sm v w (leftP K N n0 n) L
theorem mvF_next {v : Ev → Nat} {K w N n0 n : Nat} {L : List Ev} (hK : 0 < K) (h0 : n0 ≤ n) (h1 : n < n0 + K) : mvF v K w N n0 (n + 1) L = upd (mvF v K w N n0 n L) (n % K) 0 := by
 funext j
 unfold upd mvF
 by_cases e : j = n % K
 ·rw [if_pos e]
  refine sm_zero fun x _ => ?_
  rw [leftP_next hK h0 h1, e]
  cases leftP K N n0 n (x.1 / w) <;> cases (x.1 / w % K == n % K) <;> rfl
 ·rw [if_neg e]
  refine sm_congr fun x _ => ?_
  rw [leftP_next hK h0 h1]
  by_cases h2 : x.1 / w % K = j
  ·have : (x.1 / w % K == n % K) = false := by rw [beq_eq_false_iff_ne, h2]; exact e
   rw [this]; simp
  ·have : (x.1 / w % K == j) = false := by rw [beq_eq_false_iff_ne]; exact h2
   rw [this]; simp
theorem mvS_next {v : Ev → Nat} {K w N n0 n : Nat} {L : List Ev} (hK : 0 < K) (h0 : n0 ≤ n) (h1 : n < n0 + K) : mvS v K w N n0 n L = mvF v K w N n0 n L (n % K) + mvS v K w N n0 (n + 1) L := by
 unfold mvS mvF
 rw [sm_split v w (leftP K N n0 n) (fun q => q % K == n % K) L]
 congr 1
 exact sm_congr fun x _ => (leftP_next hK h0 h1 _).symm
theorem mvF_first (v : Ev → Nat) (K w N n0 : Nat) (L : List Ev) : mvF v K w N n0 n0 L = bkv v K w (inW K N) L := by
 funext j; unfold mvF bkv
 exact sm_congr fun x _ => by rw [leftP_first]
theorem mvS_first (v : Ev → Nat) (K w N n0 : Nat) (L : List Ev) : mvS v K w N n0 n0 L = sm v w (inW K N) L := sm_congr fun x _ => leftP_first K N n0 _
theorem mv_last {v : Ev → Nat} {K w t M : Nat} {L : List Ev} (hK : 0 < K) (h : t / w ≤ M) (hL : EvLe L t) :
  mvF v K w (t / w) (first0 K (t / w) M) (M + 1) L = bkv v K w (inW K M) L ∧ mvS v K w (t / w) (first0 K (t / w) M) (M + 1) L = sm v w (inW K M) L := by
 have hq : ∀ x ∈ L, leftP K (t / w) (first0 K (t / w) M) (M + 1) (x.1 / w) = inW K M (x.1 / w) := fun x hx => leftP_last hK h (Nat.div_le_div_right (hL x hx))
 refine ⟨?_, sm_congr hq⟩
 funext j; unfold mvF bkv
 exact sm_congr fun x hx => by rw [hq x hx]
theorem sumG_le {K w N : Nat} {L : List Ev} (h : EvOk L) : sumG K w N L ≤ sumT K w N L := sm_GT h
theorem mvS_le (v : Ev → Nat) (K w N n0 n : Nat) (L : List Ev) : mvS v K w N n0 n L ≤ sm v w (inW K N) L := sm_le fun e _ h => by
 unfold leftP at h; simp only [Bool.and_eq_true] at h; exact h.1
theorem rmove_spec (R B : Id) (h : Pr2 R B) (K w t t' : Nat) (L : List Ev) (hK : 1 ≤ K) (hK2 : K ≤ 60) (hw : 1 ≤ w) (htt : t ≤ t') (ht : t' ≤ 253402300799) (hL : EvOk L) (hLe : EvLe L t) (hs : sumT K w (t / w) L ≤ 9223372036854775807) (d : Nat) (hd : R.isNw d = false) :
  SpH Tryz.prog gl 93 d ⟨[.ptr R 0, i6 t'], [(R, ringC B K w t L), (B, bkC K w (t / w) L)], []⟩ ⟨i6 0, [(R, ringC B K w t' L), (B, bkC K w (t' / w) L)], []⟩ := by
 refine h93 rfl ?_
 have hi := inn_notNw hd
 have hdB : B.isNw d = false := by rw [← h.nw]; exact hd
 have hiB := inn_notNw hdB
 have r1 := h.ri
 have r2 := h.bi
 have ne := h.ne
 have ne' : B ≠ R := fun e => h.ne e.symm
 have TK := rtick_spec t'
 have tk : (decide ((0 : Int) ≤ t') && decide ((t' : Int) ≤ 253402300799)) = true := by simp; omega
 rw [tk] at TK
 have hNM : t / w ≤ t' / w := Nat.div_le_div_right htt
 have Mlt : t' / w ≤ t' := Nat.div_le_self _ _
 obtain ⟨hfF, hfS⟩ := mv_last (v := eG) (K := K) (w := w) (t := t) (M := t' / w) (L := L) (by omega) hNM hLe
 obtain ⟨hfF', hfS'⟩ := mv_last (v := eT) (K := K) (w := w) (t := t) (M := t' / w) (L := L) (by omega) hNM hLe
 have i1 := mvF_first eG K w (t / w) (first0 K (t / w) (t' / w)) L
 have i2 := mvF_first eT K w (t / w) (first0 K (t / w) (t' / w)) L
 have i3 := mvS_first eG K w (t / w) (first0 K (t / w) (t' / w)) L
 have i4 := mvS_first eT K w (t / w) (first0 K (t / w) (t' / w)) L
 obtain ⟨f1, f2, f3⟩ := first0_le (K := K) (N := t / w) (M := t' / w) hNM (by omega)
 have hGT := sumG_le (K := K) (w := w) (N := t / w) hL
 have hsG : ∀ n, mvS eG K w (t / w) (first0 K (t / w) (t' / w)) n L ≤ 9223372036854775807 := fun n => by
  have := mvS_le eG K w (t / w) (first0 K (t / w) (t' / w)) n L
  unfold sumG at hGT; unfold sumT at hGT hs; omega
 have hsT : ∀ n, mvS eT K w (t / w) (first0 K (t / w) (t' / w)) n L ≤ 9223372036854775807 := fun n => by
  have := mvS_le eT K w (t / w) (first0 K (t / w) (t' / w)) n L
  unfold sumT at hs; omega
 have hnF := fun n => mvF_next (v := eG) (K := K) (w := w) (N := t / w) (n0 := first0 K (t / w) (t' / w)) (n := n) (L := L) (by omega)
 have hnF' := fun n => mvF_next (v := eT) (K := K) (w := w) (N := t / w) (n0 := first0 K (t / w) (t' / w)) (n := n) (L := L) (by omega)
 have hnS := fun n => mvS_next (v := eG) (K := K) (w := w) (N := t / w) (n0 := first0 K (t / w) (t' / w)) (n := n) (L := L) (by omega)
 have hnS' := fun n => mvS_next (v := eT) (K := K) (w := w) (N := t / w) (n0 := first0 K (t / w) (t' / w)) (n := n) (L := L) (by omega)
 have hf0 : ((first0 K (t / w) (t' / w) : Nat) : Int) = if ((t / w : Nat) : Int) + 1 < ((t' / w : Nat) : Int) - K + 1 then ((t' / w : Nat) : Int) - K + 1 else ((t / w : Nat) : Int) + 1 := by
  unfold first0
  generalize t / w = N at *
  generalize t' / w = M at *
  split <;> split <;> omega
 have d1 := tdiv_nat t' w
 have w0 : ¬ ((w : Int) = 0) := by omega
 have w0' : ¬ (w = 0) := by omega
 have a1 : ¬ ((t' : Int) < t) := by omega
 have a1' : ¬ (t' < t) := by omega
 have t0 : IntKind.i64.wrap ((t' / w : Nat) : Int) = (t' / w : Nat) := by
  generalize t' / w = q at *
  rw [wrap_i64] <;> omega
 have t1 : IntKind.i64.wrap (((t / w : Nat) : Int) + 1) = ((t / w : Nat) : Int) + 1 := by
  generalize t / w = N at *
  generalize t' / w = M at *
  rw [wrap_i64] <;> omega
 have t2 : IntKind.i64.wrap (((t' / w : Nat) : Int) - K) = ((t' / w : Nat) : Int) - K := by
  generalize t' / w = M at *
  rw [wrap_i64] <;> omega
 have t3 : IntKind.i64.wrap (((t' / w : Nat) : Int) - K + 1) = ((t' / w : Nat) : Int) - K + 1 := by
  generalize t' / w = M at *
  rw [wrap_i64] <;> omega
 have AT := fun n g s (hn : n < 9223372036854775808) e he => rat_spec (.up R) (.up B) h.up K w (t / w) t' g s n hK hn e he
 have hids := fun n => cellsF_ids K (mvF eG K w (t / w) (first0 K (t / w) (t' / w)) n L) (mvF eT K w (t / w) (first0 K (t / w) (t' / w)) n L)
 have hlen := fun n => cellsF_len K (mvF eG K w (t / w) (first0 K (t / w) (t' / w)) n L) (mvF eT K w (t / w) (first0 K (t / w) (t' / w)) n L)
 have hget := fun n j hj => cellsF_get (K := K) (f := mvF eG K w (t / w) (first0 K (t / w) (t' / w)) n L) (g := mvF eT K w (t / w) (first0 K (t / w) (t' / w)) n L) (j := j) hj
 have hset := fun n j hj => cellsF_upd (K := K) (f := mvF eG K w (t / w) (first0 K (t / w) (t' / w)) n L) (g := mvF eT K w (t / w) (first0 K (t / w) (t' / w)) n L) (j := j) (a := 0) (b := 0) hj
 have ix := mpL_noids (f := Id.up) (hids (first0 K (t / w) (t' / w)))
 have iz := fun f' => mpL_noids (f := f') (hids (t' / w + 1))
 simp only [ringC_eq, bkC, sumG, sumT]
 rw [← i1, ← i2, ← i3, ← i4, ← hfF, ← hfF', ← hfS, ← hfS']
 simp only [rgL, inSt, mpL, mpB, mpP, AV.mp, ix]
 simp only [rgL] at AT
 clear i1 i2 i3 i4 hfF hfF' hfS hfS'
 generalize first0 K (t / w) (t' / w) = n0 at *
 have hstep : ∀ n, n0 ≤ n → n < n0 + K → cellsF K (mvF eG K w (t / w) n0 (n + 1) L) (mvF eT K w (t / w) n0 (n + 1) L) = (cellsF K (mvF eG K w (t / w) n0 n L) (mvF eT K w (t / w) n0 n L)).take (n % K * 2) ++ .int .u64 0 :: .int .u64 0 :: (cellsF K (mvF eG K w (t / w) n0 n L) (mvF eT K w (t / w) n0 n L)).drop (n % K * 2 + 2) := by
  intro n g1 g2
  rw [hnF n g1 g2, hnF' n g1 g2]
  exact hset n (n % K) (Nat.mod_lt _ (by omega))
 have hget2 := fun n => hget n (n % K) (Nat.mod_lt _ (by omega))
 clear hset hnF hnF' hget
 obtain ⟨C, hC⟩ : ∃ C : Nat → List AV, C = fun n => cellsF K (mvF eG K w (t / w) n0 n L) (mvF eT K w (t / w) n0 n L) := ⟨_, rfl⟩
 have hCn : ∀ n, cellsF K (mvF eG K w (t / w) n0 n L) (mvF eT K w (t / w) n0 n L) = C n := fun n => by rw [hC]
 simp only [hCn] at hstep hget2 hids hlen iz ⊢
 clear hC hCn ix
 generalize t / w = N at *
 generalize t' / w = M at *
 obtain ⟨SG, hSG⟩ : ∃ SG : Nat → Nat, SG = fun n => mvS eG K w N n0 n L := ⟨_, rfl⟩
 obtain ⟨ST, hST⟩ : ∃ ST : Nat → Nat, ST = fun n => mvS eT K w N n0 n L := ⟨_, rfl⟩
 have hSGn : ∀ n, mvS eG K w N n0 n L = SG n := fun n => by rw [hSG]
 have hSTn : ∀ n, mvS eT K w N n0 n L = ST n := fun n => by rw [hST]
 simp only [hSGn, hSTn] at hsG hsT hnS hnS' ⊢
 clear hSG hST hSGn hSTn
 simp -implicitDefEqProofs [c93]
 refine onC_mk _ TK ?_
 simp -implicitDefEqProofs [ne, ne', a1, a1', w0, w0', d1]
 simp only [t0, t1, t2, t3]
 refine wp_lpk (α := Nat) (fun n => ⟨[(0, .ptr (.up R) 0), (5, i6 M), (6, i6 n)], [(.up R, [i6 w, .ms (.up B) 0 K 2, i6 N, i6 t', u (SG n), u (ST n)]), (.up B, C n)], []⟩) (fun n => n0 ≤ n ∧ n ≤ M + 1) (fun n => M + 1 - n) ?_ n0 ?_ ?_
 ·rintro K' n hK' ⟨g1, g2⟩
  by_cases g : n ≤ M
  ·have g3 : (n : Int) ≤ M := by omega
   have t4 : IntKind.i64.wrap ((n : Int) + 1) = (n + 1 : Nat) := by rw [wrap_i64] <;> omega
   have A := fun e he => AT n (SG n) (ST n) (by omega) e he
   have e1 := hnS n g1 (by omega)
   have e2 := hnS' n g1 (by omega)
   have e3 := hstep n g1 (by omega)
   obtain ⟨x0, x1⟩ := hget2 n
   have l1 := hlen n
   have hid := hids (n + 1)
   have jl : n % K < K := Nat.mod_lt _ (by omega)
   have b1 := hsG n
   have b2 := hsT n
   have w1 : IntKind.u64.wrap ((SG n : Int) - (mvF eG K w N n0 n L (n % K) : Nat)) = (SG (n + 1) : Nat) := by rw [wrap_u64] <;> omega
   have w2 : IntKind.u64.wrap ((ST n : Int) - (mvF eT K w N n0 n L (n % K) : Nat)) = (ST (n + 1) : Nat) := by rw [wrap_u64] <;> omega
   have fin : ∀ σ', Weak σ' ⟨[(0, .ptr (.up R) 0), (5, i6 M), (6, i6 (n + 1 : Nat))], [(.up R, [i6 w, .ms (.up B) 0 K 2, i6 N, i6 t', .int .u64 ((SG (n + 1) : Nat) : Int), .int .u64 ((ST (n + 1) : Nat) : Int)]), (.up B, C (n + 1))], []⟩ → K' σ' :=
    fun σ' hσ => hK' (n + 1) σ' ⟨by omega, by omega⟩ (by omega) hσ
   clear hK' hnS hnS' hstep hget2 hlen hids hsG hsT e1 e2 b1 b2 AT iz
   have c1 : n % K * 2 + 2 ≤ (C n).length := by omega
   have c2 : n % K * 2 < (C n).length := by omega
   have c3 : n % K * 2 + 1 < (C n).length := by omega
   have x0' : (C n)[n % K * 2] = .int .u64 (mvF eG K w N n0 n L (n % K) : Nat) := by rw [List.getElem?_eq_getElem c2] at x0; exact Option.some.inj x0
   have x1' : (C n)[n % K * 2 + 1] = .int .u64 (mvF eT K w N n0 n L (n % K) : Nat) := by rw [List.getElem?_eq_getElem c3] at x1; exact Option.some.inj x1
   have e3 := e3.symm
   generalize ((SG (n + 1) : Nat) : Int) = v1 at *
   generalize ((ST (n + 1) : Nat) : Int) = v2 at *
   generalize ((mvF eG K w N n0 n L (n % K) : Nat) : Int) = v3 at *
   generalize ((mvF eT K w N n0 n L (n % K) : Nat) : Int) = v4 at *
   generalize C (n + 1) = Y at *
   generalize C n = X at *
   generalize n % K * 2 = off at *
   simp -implicitDefEqProofs [g, g3]
   refine onH_mk _ _ (A _ rfl) ⟨?_, ?_, ?_, ?_, ?_, ?_, ?_⟩ ?_
   iterate 7 (· simp [ne, ne'])
   simp -implicitDefEqProofs [ne, ne', x0, x0', c2]
   simp only [w1]
   simp -implicitDefEqProofs [ne, ne', x1, x1', c3]
   simp only [w2]
   simp -implicitDefEqProofs [ne, ne', c1, e3]
   refine fin _ ?_
   refine weak_mk ?_ ?_ ?_ ?_ ?_ ?_ <;> simp -implicitDefEqProofs [ne, ne', t4, hid]
  ·obtain rfl : n = M + 1 := by omega
   have hid := hids (M + 1)
   clear hK' hnS hnS' hstep hget2 hlen hsG hsT AT
   have g3 : ¬ (((M + 1 : Nat) : Int) ≤ M) := by omega
   have g4 : ¬ (M + 1 ≤ M) := by omega
   have g5 : ¬ ((M : Int) + 1 ≤ M) := by omega
   simp -implicitDefEqProofs [ne, ne', g3, g4, g5]
   refine postH_r ⟨?_, ?_, ?_, ?_, ?_, ?_⟩ <;> simp -implicitDefEqProofs [hi, hiB, r1, r2, hd, hdB, ne, ne', hid, iz]
 ·exact ⟨Nat.le_refl _, f2⟩
 ·have hid := hids n0
  refine weak_mk ?_ ?_ ?_ ?_ ?_ ?_ <;> simp -implicitDefEqProofs [ne, ne', hid, hf0]
open Go.Proofs
theorem nget_at (s : List UInt8) (i : Nat) (h : i < s.length) : (ByteArray.mk s.toArray).get! i = s[i] := by
 simp [ByteArray.get!, getElem!_pos, h]
def byt (s : List UInt8) (j : Nat) : Nat := match s[j]? with | some b => b.toNat | none => 0
def cont (s : List UInt8) (j : Nat) : Bool := decide (128 ≤ byt s j ∧ byt s j ≤ 191)
def rv (s : List UInt8) (i r0 : Nat) : Nat → Nat
 | 0 => r0
 | k + 1 => 64 * rv s i r0 k + (byt s (i + (k + 1)) - 128)
def conts (s : List UInt8) (i : Nat) : Nat → Bool
 | 0 => true
 | k + 1 => conts s i k && cont s (i + (k + 1))
def isRune (least r : Nat) : Bool := decide (least ≤ r ∧ r ≤ 1114111 ∧ ¬ (55296 ≤ r ∧ r < 57344))
def stepF (s : List UInt8) (i n r0 least : Nat) : Int × Nat := if conts s i n && isRune least (rv s i r0 n) then ((rv s i r0 n : Nat), n + 1) else (-1, 1)
def stepR (s : List UInt8) (i : Nat) : Int × Nat :=
 let b := byt s i
 if b < 128 then (b, 1) else if 192 ≤ b ∧ b < 224 then stepF s i 1 (b - 192) 128 else if 224 ≤ b ∧ b < 240 then stepF s i 2 (b - 224) 2048 else if 240 ≤ b ∧ b < 248 then stepF s i 3 (b - 240) 65536 else (-1, 1)
theorem byt_at {s : List UInt8} {i : Nat} (h : i < s.length) : byt s i = s[i].toNat := by unfold byt; rw [List.getElem?_eq_getElem h]
theorem byt_lt (s : List UInt8) (i : Nat) : byt s i < 256 := by
 unfold byt; split
 ·rename_i b _; exact b.toNat_lt
 ·omega
theorem byt_out {s : List UInt8} {i : Nat} (h : ¬ i < s.length) : byt s i = 0 := by unfold byt; rw [List.getElem?_eq_none (by omega)]
theorem stepF1 (s : List UInt8) (i r0 least : Nat) : stepF s i 1 r0 least = if cont s (i + 1) && isRune least (64 * r0 + (byt s (i + 1) - 128)) then (((64 * r0 + (byt s (i + 1) - 128) : Nat) : Int), 2) else (-1, 1) := rfl
theorem stepF2 (s : List UInt8) (i r0 least : Nat) : stepF s i 2 r0 least = if (cont s (i + 1) && cont s (i + 2)) && isRune least (64 * (64 * r0 + (byt s (i + 1) - 128)) + (byt s (i + 2) - 128)) then (((64 * (64 * r0 + (byt s (i + 1) - 128)) + (byt s (i + 2) - 128) : Nat) : Int), 3) else (-1, 1) := rfl
theorem stepF3 (s : List UInt8) (i r0 least : Nat) : stepF s i 3 r0 least = if ((cont s (i + 1) && cont s (i + 2)) && cont s (i + 3)) && isRune least (64 * (64 * (64 * r0 + (byt s (i + 1) - 128)) + (byt s (i + 2) - 128)) + (byt s (i + 3) - 128)) then (((64 * (64 * (64 * r0 + (byt s (i + 1) - 128)) + (byt s (i + 2) - 128)) + (byt s (i + 3) - 128) : Nat) : Int), 4) else (-1, 1) := rfl
theorem stepF_pos (s : List UInt8) (i n r0 least : Nat) : 1 ≤ (stepF s i n r0 least).2 := by unfold stepF; split <;> simp
theorem stepR_pos (s : List UInt8) (i : Nat) : 1 ≤ (stepR s i).2 := by
 unfold stepR
 simp only
 split
 ·simp
 ·split
  ·exact stepF_pos ..
  ·split
   ·exact stepF_pos ..
   ·split
    ·exact stepF_pos ..
    ·simp
def runesL (s : List UInt8) (i : Nat) : List Int := if h : i < s.length then (stepR s i).1 :: runesL s (i + (stepR s i).2) else []
termination_by s.length - i
decreasing_by have := stepR_pos s i; omega
theorem runesL_in {s : List UInt8} {i : Nat} (h : i < s.length) : runesL s i = (stepR s i).1 :: runesL s (i + (stepR s i).2) := by rw [runesL, dif_pos h]
theorem runesL_out {s : List UInt8} {i : Nat} (h : ¬ i < s.length) : runesL s i = [] := by rw [runesL, dif_neg h]
theorem get_byt {s : List UInt8} {j : Nat} (h : j < s.length) : ((ByteArray.mk s.toArray).get! j).toNat = byt s j := by rw [nget_at s j h, byt_at h]
theorem cont_iff {s : List UInt8} {j : Nat} : cont s j = true ↔ j < s.length ∧ byt s j / 64 = 2 := by
 unfold cont
 rw [decide_eq_true_eq]
 constructor
 ·intro h
  rcases Nat.lt_or_ge j s.length with h1 | h1
  ·exact ⟨h1, by omega⟩
  ·rw [byt_out (by omega)] at h; omega
 ·intro h; omega
theorem step_rune (s : List UInt8) (i : Nat) (h : i < s.length) : runeAt s i = (if (stepR s i).1 = -1 then (65533, 1) else stepR s i) := by
 have hb : (ByteArray.mk s.toArray).size = s.length := by simp [ByteArray.size]
 have c : ∀ k, (decide (i + k < (ByteArray.mk s.toArray).size) && ((ByteArray.mk s.toArray).get! (i + k)).toNat / 64 == 2) = cont s (i + k) := by
  intro k
  rw [Bool.eq_iff_iff, cont_iff, hb]
  simp only [Bool.and_eq_true, decide_eq_true_eq, beq_iff_eq]
  constructor
  ·rintro ⟨h1, h2⟩; rw [get_byt h1] at h2; exact ⟨h1, h2⟩
  ·rintro ⟨h1, h2⟩; rw [get_byt h1]; exact ⟨h1, h2⟩
 have e0 : ((ByteArray.mk s.toArray).get! (i + 0)).toNat = byt s i := get_byt (by omega)
 have bl := byt_lt s i
 unfold runeAt Utf8.decode
 simp only [e0, c, Utf8.runeError]
 unfold stepR
 simp only
 by_cases h1 : byt s i < 128
 ·have h2 : ¬ ((byt s i : Nat) : Int) = -1 := by omega
  simp only [h1, if_true, h2, if_false]
 ·simp only [h1, if_false]
  have d1 : (byt s i / 32 == 6) = decide (192 ≤ byt s i ∧ byt s i < 224) := by rw [Bool.eq_iff_iff]; simp; omega
  have d2 : (byt s i / 16 == 14) = decide (224 ≤ byt s i ∧ byt s i < 240) := by rw [Bool.eq_iff_iff]; simp; omega
  have d3 : (byt s i / 8 == 30) = decide (240 ≤ byt s i ∧ byt s i < 248) := by rw [Bool.eq_iff_iff]; simp; omega
  rw [d1, d2, d3]
  by_cases r1 : 192 ≤ byt s i ∧ byt s i < 224
  ·have r2 : ¬ (224 ≤ byt s i ∧ byt s i < 240) := by omega
   have r3 : ¬ (240 ≤ byt s i ∧ byt s i < 248) := by omega
   simp only [r1, r2, r3, and_self, decide_true, decide_false, Bool.true_and, Bool.false_and, if_true, if_false, Bool.false_eq_true]
   rw [stepF1]
   cases c1 : cont s (i + 1)
   ·simp
   ·obtain ⟨l1, q1⟩ := cont_iff.1 c1
    simp only [if_true, Bool.true_and, get_byt l1]
    have b1 := byt_lt s (i + 1)
    generalize byt s (i + 1) = y at *
    generalize byt s i = x at *
    by_cases z : isRune 128 (64 * (x - 192) + (y - 128)) = true
    ·have zz := z
     unfold isRune at zz
     rw [decide_eq_true_eq] at zz
     have e : x % 32 * 64 + y % 64 = 64 * (x - 192) + (y - 128) := by omega
     simp only [z, e, if_true]
     rw [if_neg (show ¬ ((64 * (x - 192) + (y - 128) : Nat) : Int) = -1 by omega), if_pos (by omega)]
    ·have zz := z
     unfold isRune at zz
     rw [decide_eq_true_eq] at zz
     have hz : ¬ (x % 32 * 64 + y % 64 ≥ 128) := by omega
     simp only [z, hz, Bool.false_eq_true, if_false]
     simp
  ·by_cases r2 : 224 ≤ byt s i ∧ byt s i < 240
   ·have r3 : ¬ (240 ≤ byt s i ∧ byt s i < 248) := by omega
    simp only [r1, r2, r3, and_self, decide_true, decide_false, Bool.true_and, Bool.false_and, if_true, if_false, Bool.false_eq_true]
    rw [stepF2]
    cases c1 : cont s (i + 1)
    ·simp
    ·cases c2 : cont s (i + 2)
     ·simp
     ·obtain ⟨l1, q1⟩ := cont_iff.1 c1
      obtain ⟨l2, q2⟩ := cont_iff.1 c2
      simp only [if_true, Bool.true_and, Bool.and_self, get_byt l1, get_byt l2]
      have b1 := byt_lt s (i + 1)
      have b2 := byt_lt s (i + 2)
      try rw [get_byt l2]
      generalize byt s (i + 2) = w at *
      generalize byt s (i + 1) = y at *
      generalize byt s i = x at *
      by_cases z : isRune 2048 (64 * (64 * (x - 224) + (y - 128)) + (w - 128)) = true
      ·have zz := z
       unfold isRune at zz
       rw [decide_eq_true_eq] at zz
       have e : x % 16 * 4096 + y % 64 * 64 + w % 64 = 64 * (64 * (x - 224) + (y - 128)) + (w - 128) := by omega
       simp only [z, e, if_true]
       rw [if_neg (show ¬ ((64 * (64 * (x - 224) + (y - 128)) + (w - 128) : Nat) : Int) = -1 by omega), if_pos (by simp [Utf8.valid]; omega)]
      ·have zz := z
       unfold isRune at zz
       rw [decide_eq_true_eq] at zz
       have hz : (decide (x % 16 * 4096 + y % 64 * 64 + w % 64 ≥ 2048) && Utf8.valid ((x % 16 * 4096 + y % 64 * 64 + w % 64 : Nat) : Int)) = false := by
        rw [Bool.eq_false_iff]; simp [Utf8.valid]; omega
       simp only [z, hz, Bool.false_eq_true, if_false]
       simp
   ·by_cases r3 : 240 ≤ byt s i ∧ byt s i < 248
    ·simp only [r1, r2, r3, and_self, decide_true, decide_false, Bool.true_and, Bool.false_and, if_true, if_false, Bool.false_eq_true]
     rw [stepF3]
     cases c1 : cont s (i + 1)
     ·simp
     ·cases c2 : cont s (i + 2)
      ·simp
      ·cases c3 : cont s (i + 3)
       ·simp
       ·obtain ⟨l1, q1⟩ := cont_iff.1 c1
        obtain ⟨l2, q2⟩ := cont_iff.1 c2
        obtain ⟨l3, q3⟩ := cont_iff.1 c3
        simp only [if_true, Bool.true_and, Bool.and_self, get_byt l1]
        have b1 := byt_lt s (i + 1)
        have b2 := byt_lt s (i + 2)
        have b3 := byt_lt s (i + 3)
        try simp only [get_byt l2, get_byt l3]
        generalize byt s (i + 3) = t at *
        generalize byt s (i + 2) = w at *
        generalize byt s (i + 1) = y at *
        generalize byt s i = x at *
        by_cases z : isRune 65536 (64 * (64 * (64 * (x - 240) + (y - 128)) + (w - 128)) + (t - 128)) = true
        ·have zz := z
         unfold isRune at zz
         rw [decide_eq_true_eq] at zz
         have e : x % 8 * 262144 + y % 64 * 4096 + w % 64 * 64 + t % 64 = 64 * (64 * (64 * (x - 240) + (y - 128)) + (w - 128)) + (t - 128) := by omega
         simp only [z, e, if_true]
         rw [if_neg (show ¬ ((64 * (64 * (64 * (x - 240) + (y - 128)) + (w - 128)) + (t - 128) : Nat) : Int) = -1 by omega), if_pos (by simp [Utf8.valid]; omega)]
        ·have zz := z
         unfold isRune at zz
         rw [decide_eq_true_eq] at zz
         have hz : (decide (x % 8 * 262144 + y % 64 * 4096 + w % 64 * 64 + t % 64 ≥ 65536) && Utf8.valid ((x % 8 * 262144 + y % 64 * 4096 + w % 64 * 64 + t % 64 : Nat) : Int)) = false := by
          rw [Bool.eq_false_iff]; simp [Utf8.valid]; omega
         simp only [z, hz, Bool.false_eq_true, if_false]
         simp
    ·simp [r1, r2, r3]
open Go.Proofs
abbrev i3 (n : Int) : AV := .int .i32 n
open Go.Proofs
theorem stepR_lt {s : List UInt8} {i : Nat} (h : i < s.length) : i + (stepR s i).2 ≤ s.length + 3 := by
 have hF : ∀ n r0 least, n ≤ 3 → (stepF s i n r0 least).2 ≤ 4 := by
  intro n r0 least hn
  unfold stepF; split
  ·simp only; omega
  ·simp
 have h1 := hF 1 (byt s i - 192) 128 (by omega)
 have h2 := hF 2 (byt s i - 224) 2048 (by omega)
 have h3 := hF 3 (byt s i - 240) 65536 (by omega)
 unfold stepR
 simp only
 split
 ·simp only; omega
 ·split
  ·omega
  ·split
   ·omega
   ·split
    ·omega
    ·simp only; omega
open Go.Proofs
theorem dle_t {a b : Int} (h : a ≤ b) : decide (a ≤ b) = true := decide_eq_true h
theorem dle_f {a b : Int} (h : b < a) : decide (a ≤ b) = false := decide_eq_false (by omega)
theorem dlt_t {a b : Int} (h : a < b) : decide (a < b) = true := decide_eq_true h
theorem dlt_f {a b : Int} (h : b ≤ a) : decide (a < b) = false := decide_eq_false (by omega)
theorem beq_t {a b : Int} (h : a = b) : (a == b) = true := by rw [beq_iff_eq]; exact h
theorem beq_f {a b : Int} (h : a < b ∨ b < a) : (a == b) = false := by rw [beq_eq_false_iff_ne]; omega
theorem bne_t {a b : Int} (h : a < b ∨ b < a) : (a != b) = true := by rw [bne_iff_ne]; omega
theorem bne_f {a b : Int} (h : a = b) : (a != b) = false := by simp [h]
def letter (r : Int) : Bool := decide ((97 ≤ r ∧ r ≤ 122) ∨ (65 ≤ r ∧ r ≤ 90) ∨ (192 ≤ r ∧ r ≤ 591 ∧ r ≠ 215 ∧ r ≠ 247) ∨ (880 ≤ r ∧ r ≤ 1279))
def digR (r : Int) : Bool := decide (48 ≤ r ∧ r ≤ 57)
theorem letter_cases (r : Int) : (r < 65 ∧ letter r = false) ∨ (65 ≤ r ∧ r ≤ 90 ∧ letter r = true) ∨ (90 < r ∧ r < 97 ∧ letter r = false) ∨ (97 ≤ r ∧ r ≤ 122 ∧ letter r = true) ∨ (122 < r ∧ r < 192 ∧ letter r = false) ∨
  (192 ≤ r ∧ r < 215 ∧ letter r = true) ∨ (r = 215 ∧ letter r = false) ∨ (215 < r ∧ r < 247 ∧ letter r = true) ∨ (r = 247 ∧ letter r = false) ∨ (247 < r ∧ r ≤ 591 ∧ letter r = true) ∨
  (591 < r ∧ r < 880 ∧ letter r = false) ∨ (880 ≤ r ∧ r ≤ 1279 ∧ letter r = true) ∨ (1279 < r ∧ letter r = false) := by
 unfold letter
 simp only [decide_eq_true_eq, decide_eq_false_iff_not]
 omega
theorem tletter_spec (r : Int) : Sp Tryz.prog gl 164 [i3 r] (.bool (letter r)) := by
 refine s164 rfl rfl ?_
 rcases letter_cases r with ⟨h1, h2⟩ | ⟨h1, h2, h3⟩ | ⟨h1, h2, h3⟩ | ⟨h1, h2, h3⟩ | ⟨h1, h2, h3⟩ | ⟨h1, h2, h3⟩ | ⟨h1, h3⟩ | ⟨h1, h2, h3⟩ | ⟨h1, h3⟩ | ⟨h1, h2, h3⟩ | ⟨h1, h2, h3⟩ | ⟨h1, h2, h3⟩ | ⟨h1, h3⟩
 ·rw [h2]; simp -implicitDefEqProofs (disch := omega) [c164, dle_t, dle_f, dlt_t, dlt_f, beq_t, beq_f, bne_t, bne_f]
 all_goals (rw [h3]; simp -implicitDefEqProofs (disch := omega) [c164, dle_t, dle_f, dlt_t, dlt_f, beq_t, beq_f, bne_t, bne_f])
theorem tdigit_spec (r : Int) : Sp Tryz.prog gl 165 [i3 r] (.bool (digR r)) := by
 refine s165 rfl rfl ?_
 unfold digR
 by_cases h1 : 48 ≤ r
 ·simp [c165, h1]
 ·simp [c165, h1]
def nameGo : Nat → Int → List Int → Bool
 | n, last, [] => decide (0 < n ∧ n ≤ 24) && (letter last || digR last)
 | n, last, r :: l => (letter r || (decide (n ≠ 0) && (digR r || r == 95 || r == 45))) && nameGo (n + 1) r l
def nameT (s : List UInt8) : Bool := nameGo 0 32 (runesL s 0)
theorem tname_spec (s : List UInt8) (hl : s.length ≤ 900000) : Sp Tryz.prog gl 113 [.str s] (.bool (nameT s)) := by
 refine s113 rfl rfl ?_
 obtain ⟨R, hR⟩ : ∃ R, R = nameT s := ⟨_, rfl⟩
 rw [← hR]
 unfold nameT at hR
 simp -implicitDefEqProofs [c113]
 refine wp_lpk (α := Nat × Nat × Int) (fun x => ⟨[(0, .str s), (3, i6 x.2.1), (4, i3 x.2.2), (9, .itp 9)], [(.it 9, [.itr s x.1])], []⟩)
  (fun x => x.2.1 ≤ x.1 ∧ (x.2.1 = 0 ↔ x.1 = 0) ∧ nameGo x.2.1 x.2.2 (runesL s x.1) = R ∧ x.1 ≤ s.length + 3) (fun x => s.length + 4 - x.1) ?_ (0, 0, 32) ?_ ?_
 ·rintro K ⟨i, n, last⟩ hK ⟨h1, h2, h3, h4⟩
  simp only at h1 h2 h3 h4
  by_cases g : i < s.length
  ·rw [runesL_in g] at h3
   simp only [nameGo] at h3
   have sr := step_rune s i g
   have sl := stepR_lt g
   have sp := stepR_pos s i
   have fin : nameGo (n + 1) (stepR s i).1 (runesL s (i + (stepR s i).2)) = R → ∀ σ', Weak σ' ⟨[(0, .str s), (3, i6 (n + 1 : Nat)), (4, i3 (stepR s i).1), (9, .itp 9)], [(.it 9, [.itr s (i + (stepR s i).2)])], []⟩ → K σ' :=
    fun hh σ' hσ => hK (i + (stepR s i).2, n + 1, (stepR s i).1) σ' ⟨by simp only; omega, by simp only; omega, hh, by simp only; omega⟩ (by simp only; omega) hσ
   have t1 : IntKind.i64.wrap ((n : Int) + 1) = (n + 1 : Nat) := by rw [wrap_i64] <;> omega
   clear hK hR
   by_cases hb : (stepR s i).1 = -1
   ·rw [if_pos hb] at sr
    rw [hb] at h3
    have : R = false := by
     rw [← h3]
     have : (letter (-1) || (decide (n ≠ 0) && (digR (-1) || (-1 : Int) == 95 || (-1 : Int) == 45))) = false := by cases decide (n ≠ 0) <;> rfl
     rw [this]; rfl
    subst this
    have L1 := tletter_spec 65533
    have D1 := tdigit_spec 65533
    rw [show letter 65533 = false from rfl] at L1
    rw [show digR 65533 = false from rfl] at D1
    clear h3 fin
    by_cases hi : i = 0
    ·subst hi
     simp -implicitDefEqProofs [g, sr]
     refine onC_mk _ L1 ?_
     simp -implicitDefEqProofs
    ·have hi' : 0 < i := by omega
     simp -implicitDefEqProofs [g, sr]
     refine onC_mk _ L1 ?_
     simp -implicitDefEqProofs [hi']
     refine onC_mk _ D1 ?_
     simp -implicitDefEqProofs
   ·rw [if_neg hb] at sr
    have L1 := tletter_spec (stepR s i).1
    have D1 := tdigit_spec (stepR s i).1
    have esr : (stepR s i) = ((stepR s i).1, (stepR s i).2) := rfl
    rw [esr] at sr
    generalize nameGo (n + 1) (stepR s i).1 (runesL s (i + (stepR s i).2)) = R2 at *
    clear esr hb
    generalize (stepR s i).1 = r at *
    generalize (stepR s i).2 = w at *
    have hn0 : decide (n ≠ 0) = decide (0 < i) := by rw [Bool.eq_iff_iff]; simp; omega
    rw [hn0] at h3
    cases hlt : letter r
    ·rw [hlt] at h3 L1
     by_cases hi : 0 < i
     ·cases hd : digR r
      ·rw [hd] at h3 D1
       by_cases e1 : r = 95
       ·have := fin (by rw [← h3]; simp [hi, e1])
        simp -implicitDefEqProofs (disch := omega) [g, sr, beq_t, beq_f, e1]
        rw [e1] at L1 D1
        refine onC_mk _ L1 ?_
        simp -implicitDefEqProofs [hi]
        refine onC_mk _ D1 ?_
        simp -implicitDefEqProofs
        refine this _ (weak_mk ?_ ?_ ?_ ?_ ?_ ?_) <;> simp -implicitDefEqProofs [t1, e1]
       ·by_cases e2 : r = 45
        ·have := fin (by rw [← h3]; simp [hi, e2])
         simp -implicitDefEqProofs (disch := omega) [g, sr, e2]
         rw [e2] at L1 D1
         refine onC_mk _ L1 ?_
         simp -implicitDefEqProofs [hi]
         refine onC_mk _ D1 ?_
         simp -implicitDefEqProofs
         refine this _ (weak_mk ?_ ?_ ?_ ?_ ?_ ?_) <;> simp -implicitDefEqProofs [t1, e2]
        ·have b1 : (r == 95) = false := by rw [beq_eq_false_iff_ne]; exact e1
         have b2 : (r == 45) = false := by rw [beq_eq_false_iff_ne]; exact e2
         have : R = false := by rw [← h3, b1, b2]; simp
         subst this
         simp -implicitDefEqProofs [g, sr]
         refine onC_mk _ L1 ?_
         simp -implicitDefEqProofs [hi]
         refine onC_mk _ D1 ?_
         simp -implicitDefEqProofs [b1, b2]
      ·rw [hd] at h3 D1
       have := fin (by rw [← h3]; simp [hi])
       simp -implicitDefEqProofs [g, sr]
       refine onC_mk _ L1 ?_
       simp -implicitDefEqProofs [hi]
       refine onC_mk _ D1 ?_
       simp -implicitDefEqProofs
       refine this _ (weak_mk ?_ ?_ ?_ ?_ ?_ ?_) <;> simp -implicitDefEqProofs [t1]
     ·have : R = false := by rw [← h3]; simp [hi]
      subst this
      simp -implicitDefEqProofs [g, sr]
      refine onC_mk _ L1 ?_
      simp -implicitDefEqProofs [hi]
    ·rw [hlt] at h3 L1
     have := fin (by rw [← h3]; simp)
     simp -implicitDefEqProofs [g, sr]
     refine onC_mk _ L1 ?_
     simp -implicitDefEqProofs
     refine this _ (weak_mk ?_ ?_ ?_ ?_ ?_ ?_) <;> simp -implicitDefEqProofs [t1]
  ·rw [runesL_out g] at h3
   simp only [nameGo] at h3
   have L1 := tletter_spec last
   have D1 := tdigit_spec last
   clear hK hR h2
   by_cases n0 : 0 < n
   ·by_cases n1 : n ≤ 24
    ·have n1' : (n : Int) ≤ 24 := by omega
     rw [decide_eq_true (show 0 < n ∧ n ≤ 24 from ⟨n0, n1⟩), Bool.true_and] at h3
     cases hlt : letter last
     ·rw [hlt, Bool.false_or] at h3
      rw [hlt] at L1
      rw [h3] at D1
      simp -implicitDefEqProofs [g, n0, n1']
      refine onC_mk _ L1 ?_
      simp -implicitDefEqProofs
      refine onC_mk _ D1 ?_
      simp -implicitDefEqProofs
     ·rw [hlt] at h3 L1
      have : R = true := by rw [← h3]; rfl
      subst this
      simp -implicitDefEqProofs [g, n0, n1']
      refine onC_mk _ L1 ?_
      simp -implicitDefEqProofs
    ·have n1' : ¬ (n : Int) ≤ 24 := by omega
     rw [decide_eq_false (show ¬ (0 < n ∧ n ≤ 24) by omega)] at h3
     subst h3
     simp -implicitDefEqProofs [g, n0, n1']
   ·rw [decide_eq_false (show ¬ (0 < n ∧ n ≤ 24) by omega)] at h3
    subst h3
    simp -implicitDefEqProofs [g, n0]
 ·exact ⟨Nat.le_refl _, by simp, hR.symm, by simp⟩
 ·refine weak_mk ?_ ?_ ?_ ?_ ?_ ?_ <;> simp -implicitDefEqProofs
open Go.Proofs
end Go.Ai
