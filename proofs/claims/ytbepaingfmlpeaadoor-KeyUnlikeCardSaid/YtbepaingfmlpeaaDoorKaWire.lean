/- YtbepaingfmlpeaaDoorKaWire: part of the abstract interpreter library (values, rules, soundness against the model) or of what a function of the seat computes. Conditions: as each theorem says. -/
import Derived.Test.YtbepaingfmlpeaaDoorKaNum
import Derived.Test.YtbepaingfmlpeaaDoorKaKey
import Derived.Test.YtbepaingfmlpeaaDoorKaRead
set_option linter.unusedSimpArgs false
set_option linter.unusedVariables false
namespace Go.Ai
open Go.Proofs Go.RowKit
/-! ### Numbers and texts as bytes, no program in sight -/
def sz8 (n : Nat) : Nat := if h : n = 0 then 0 else sz8 (n / 256) + 1
termination_by n
decreasing_by omega
def be : Nat → Nat → List UInt8
  | 0, _ => []
  | k + 1, n => UInt8.ofNat (n / 256 ^ k) :: be k n
def numB (n : Nat) : List UInt8 := UInt8.ofNat (sz8 n) :: be (sz8 n) n
def textB (s : List UInt8) : List UInt8 := numB s.length ++ s
def flagB (f : Bool) : List UInt8 := [if f = true then 1 else 0]
theorem sz8_zero : sz8 0 = 0 := by rw [sz8, dif_pos rfl]
theorem sz8_pos {n : Nat} (h : n ≠ 0) : sz8 n = sz8 (n / 256) + 1 := by rw [sz8, dif_neg h]
theorem be_len (k n : Nat) : (be k n).length = k := by
  induction k with
  | zero => rfl
  | succ k ih => simp [be, ih]
theorem sz8_le (k n : Nat) (h : n < 256 ^ k) : sz8 n ≤ k := by
  induction k generalizing n with
  | zero => have : n = 0 := by simpa using h
            subst this; rw [sz8_zero]; exact Nat.le_refl _
  | succ k ih =>
    by_cases h0 : n = 0
    · subst h0; rw [sz8_zero]; omega
    · rw [sz8_pos h0]
      have := ih (n / 256) (by rw [Nat.pow_succ] at h; omega)
      omega
theorem sz8_le8 (n : Nat) (h : n < 18446744073709551616) : sz8 n ≤ 8 := sz8_le 8 n (by simpa using h)
theorem sz8_len (n : Nat) : (lenN n + 7) / 8 = sz8 n := by
  induction n using Nat.strongRecOn with
  | _ n ih =>
    by_cases h0 : n = 0
    · subst h0; rw [sz8_zero]; rfl
    · rw [sz8_pos h0]
      by_cases h1 : n < 256
      · have e : n / 256 = 0 := by omega
        rw [e, sz8_zero]
        have hl := lenN_le (x := n) (k := 8) (by omega)
        have : 1 ≤ lenN n := by unfold lenN; rw [if_neg h0]; omega
        omega
      · have := ih (n / 256) (by omega)
        rw [lenN_shr (x := n) (k := 8) (by omega)]
        rw [show n / 2 ^ 8 = n / 256 from rfl]
        omega
theorem numB_len (n : Nat) (h : n < 18446744073709551616) : (numB n).length ≤ 9 := by
  have := sz8_le8 n h
  simp [numB, be_len]; omega
theorem byteRows_app (a b : List UInt8) : byteRows (a ++ b) = byteRows a ++ byteRows b := by simp [byteRows]
theorem byteRows_len (a : List UInt8) : (byteRows a).length = a.length := by simp [byteRows]
theorem byteRows_one (a : List UInt8) : ∀ r ∈ byteRows a, r.length = 1 := by
  intro r hr; simp only [byteRows, List.mem_map] at hr; obtain ⟨x, _, rfl⟩ := hr; rfl
theorem byteRows_cons (b : UInt8) (a : List UInt8) : byteRows (b :: a) = [.int .u8 b.toNat] :: byteRows a := rfl
theorem rowBytes_of (a : List UInt8) : rowBytes (byteRows a) = some a := by
  induction a with
  | nil => rfl
  | cons b r ih =>
    rw [byteRows_cons]
    simp only [rowBytes, ih]
    congr 2
    simp
theorem byteRows_at (a : List UInt8) (i : Nat) (h : i < a.length) : (byteRows a)[i]? = some [.int .u8 a[i].toNat] := by simp [byteRows, h]
theorem byteRows_take (a : List UInt8) (n : Nat) : (byteRows a).take n = byteRows (a.take n) := by simp [byteRows, List.map_take]
theorem byteRows_drop (a : List UInt8) (n : Nat) : (byteRows a).drop n = byteRows (a.drop n) := by simp [byteRows, List.map_drop]
theorem shrB (n m : Nat) (hm : m ≤ 7) : (n : Int).fdiv (2 ^ (min (8 * (m : Int)).toNat IntKind.u64.bits)) = ((n / 256 ^ m : Nat) : Int) := by
  have e : (2 : Int) ^ (min (8 * (m : Int)).toNat IntKind.u64.bits) = ((256 ^ m : Nat) : Int) := by
    match m, hm with
    | 0, _ => rfl | 1, _ => rfl | 2, _ => rfl | 3, _ => rfl | 4, _ => rfl | 5, _ => rfl | 6, _ => rfl | 7, _ => rfl
  rw [e, Int.fdiv_eq_ediv_of_nonneg _ (Int.natCast_nonneg _)]
  rfl
theorem wrap_u8o (n : Nat) : IntKind.u8.wrap (n : Int) = ((UInt8.ofNat n).toNat : Int) := by
  have : IntKind.u8.wrap (n : Int) = if (false && decide ((n : Int) % 2 ^ 8 ≥ 2 ^ (8 - 1))) = true then (n : Int) % 2 ^ 8 - 2 ^ 8 else (n : Int) % 2 ^ 8 := rfl
  rw [this]
  simp
theorem or0_u8 (n : Nat) (h : n < 256) : bits BinOp.or IntKind.u8 0 (n : Int) = n := by
  have : ∀ x : Fin 256, bits BinOp.or IntKind.u8 0 ((x.val : Nat) : Int) = (x.val : Int) := by decide +kernel
  exact this ⟨n, h⟩
theorem and0_u8 (n : Nat) (h : n < 256) : bits BinOp.and IntKind.u8 (n : Int) 0 = 0 := by
  have : ∀ x : Fin 256, bits BinOp.and IntKind.u8 ((x.val : Nat) : Int) 0 = 0 := by decide +kernel
  exact this ⟨n, h⟩
theorem andNot0_u8 (n : Nat) (h : n < 256) : bits BinOp.andNot IntKind.u8 (n : Int) 0 = n := by
  have : ∀ x : Fin 256, bits BinOp.andNot IntKind.u8 ((x.val : Nat) : Int) 0 = (x.val : Int) := by decide +kernel
  exact this ⟨n, h⟩
theorem appS_mk {P : Program} {GL : List (Nat × List Value)} {f k : Nat} {rows out : List (List AV)} {l : List AV} (h : ∀ d, SpH P GL f d ⟨.sl rows :: l, [], [(.s 0, k)]⟩ ⟨.sl out, [], [(.s 0, k)]⟩) : appS (SpH P GL) f (some rows) k l out := h
theorem appN_mk {P : Program} {GL : List (Nat × List Value)} {f k : Nat} {out : List (List AV)} {l : List AV} (h : ∀ d, SpH P GL f d ⟨l, [], []⟩ ⟨.sl out, [], [(.s 0, k)]⟩) : appS (SpH P GL) f none k l out := h
theorem size_spec (n : Nat) (hn : n < 18446744073709551616) : Sp Tryd.prog gl 78 [u n] (i6 (sz8 n)) := by
  refine s78 rfl rfl ?_
  have L := len64_spec (x := n) hn
  have e := sz8_len n
  have hl : lenN n ≤ 64 := lenN_le (x := n) (k := 64) (by omega)
  have t1 : IntKind.i64.wrap ((lenN n : Int) + 7) = (lenN n : Int) + 7 := by rw [wrap_i64] <;> omega
  have t2 : ((lenN n : Int) + 7).tdiv 8 = (sz8 n : Nat) := by
    rw [Int.tdiv_eq_ediv_of_nonneg (by omega)]; omega
  have t3 : IntKind.i64.wrap ((sz8 n : Nat) : Int) = (sz8 n : Nat) := by rw [wrap_i64] <;> omega
  clear e
  generalize lenN n = ln at *
  generalize sz8 n = sn at *
  simp -implicitDefEqProofs [c78]
  refine onC_mk _ L ?_
  simp -implicitDefEqProofs [t1, t2, t3]
set_option maxRecDepth 20000 in
theorem put_spec (l : List UInt8) (n : Nat) (hl : l.length ≤ 1000000) (hn : n < 18446744073709551616) (d : Nat) :
    SpH Tryd.prog gl 56 d ⟨[.sl (byteRows l), .int .u8 0, u n], [], [(.s 0, 1)]⟩ ⟨.sl (byteRows (l ++ numB n)), [], [(.s 0, 1)]⟩ := by
  refine h56 rfl ?_
  have S := size_spec n hn
  have h8 := sz8_le8 n hn
  have hlim : lim = 140737488355328 := rfl
  have t0 : IntKind.u8.wrap ((sz8 n : Nat) : Int) = (sz8 n : Nat) := by rw [wrap_u8] <;> omega
  have t1 := or0_u8 (sz8 n) (by omega)
  have b1 : ((UInt8.ofNat (sz8 n)).toNat : Int) = (sz8 n : Nat) := by simp; omega
  obtain ⟨R, hR⟩ : ∃ R, R = l ++ numB n := ⟨_, rfl⟩
  rw [← hR]
  have one := byteRows_one l
  have bl := byteRows_len l
  have q1 : l.length + 1 ≤ 140737488355328 := by omega
  have first : byteRows l ++ [[AV.int .u8 (sz8 n : Nat)]] = byteRows (l ++ [UInt8.ofNat (sz8 n)]) := by
    rw [byteRows_app, byteRows_cons, b1]; rfl
  unfold numB at hR
  have hst : (l ++ [UInt8.ofNat (sz8 n)]) ++ be (sz8 n) n = R := by rw [hR]; simp
  generalize sz8 n = k at *
  simp only [inSt, mpL, mpB, mpP, AV.mp]
  simp -implicitDefEqProofs [c56]
  refine onC_mk _ S ?_
  simp -implicitDefEqProofs [t0, t1, hlim, bl, q1, first]
  refine ⟨one, ?_⟩
  refine wp_lpk (α := Nat × List UInt8) (fun x => ⟨[(0, .sl (byteRows x.2)), (2, u n), (7, i6 x.1)], [], [(.s 0, 1)]⟩) (fun x => x.1 ≤ 8 ∧ x.2.length + x.1 ≤ 1000010 ∧ x.2 ++ be x.1 n = R) (fun x => x.1) ?_ (k, l ++ [UInt8.ofNat k]) ?_ ?_
  · rintro K ⟨j, acc⟩ hK ⟨g1, g2, g3⟩
    simp only at g1 g2 g3
    cases j with
    | zero =>
      simp only [be, List.append_nil] at g3
      subst g3
      clear hK
      generalize byteRows acc = A at *
      simp -implicitDefEqProofs
      refine postH_r ⟨?_, ?_, ?_, ?_, ?_, ?_⟩ <;> simp -implicitDefEqProofs
    | succ j =>
      have fin : ∀ σ', Weak σ' ⟨[(0, .sl (byteRows (acc ++ [UInt8.ofNat (n / 256 ^ j)]))), (2, u n), (7, i6 (j : Nat))], [], [(.s 0, 1)]⟩ → K σ' :=
        fun σ' hσ => hK (j, acc ++ [UInt8.ofNat (n / 256 ^ j)]) σ' ⟨by simp only; omega, by simp; omega, by simp only [be] at g3; simp only [List.append_assoc, List.singleton_append]; exact g3⟩ (by simp only; omega) hσ
      have w1 : IntKind.i64.wrap ((j : Int) + 1 - 1) = (j : Nat) := by rw [wrap_i64] <;> omega
      have w2 : IntKind.i64.wrap (8 * (j : Int)) = 8 * (j : Int) := by rw [wrap_i64] <;> omega
      have w3 := shrB n j (by omega)
      have w4 := wrap_u8o (n / 256 ^ j)
      generalize n / 256 ^ j = x at *
      have w5 : (0 : Int) ≤ 8 * (j : Int) := by omega
      have w6 : (0 : Int) < (j : Int) + 1 := by omega
      have w7 : IntKind.i64.wrap (j : Int) = (j : Nat) := by rw [wrap_i64] <;> omega
      have one := byteRows_one acc
      have bl := byteRows_len acc
      have q1 : acc.length + 1 ≤ 140737488355328 := by omega
      rw [byteRows_app, byteRows_cons, show byteRows [] = [] from rfl] at fin
      generalize byteRows acc = A at *
      generalize (UInt8.ofNat x).toNat = bb at *
      clear hK g3
      simp -implicitDefEqProofs [w6, w7, w2, w5, w3, w4, hlim, bl, q1]
      refine ⟨one, fin _ (weak_mk ?_ ?_ ?_ ?_ ?_ ?_)⟩ <;> simp -implicitDefEqProofs
  · exact ⟨h8, by simp; omega, hst⟩
  · refine weak_mk ?_ ?_ ?_ ?_ ?_ ?_ <;> simp -implicitDefEqProofs
end Go.Ai
set_option linter.unusedSimpArgs false
set_option linter.unusedVariables false
namespace Go.Ai
open Go.Proofs Go.RowKit
theorem onA_mk {P : Program} {GL : List (Nat × List Value)} {K : St → Prop} {σ : St} {f d : Nat} {s : Option X} {ps : List X} (k : Nat) (out : List (List AV)) (h : caS (SpH P GL) f σ s ps k out) (hk : K (caSt d s (.sl out) k σ)) : onA (SpH P GL) f d s ps K σ := ⟨k, out, h, hk⟩
theorem wnum_spec (l : List UInt8) (n : Nat) (hl : l.length ≤ 1000000) (hn : n < 18446744073709551616) (d : Nat) :
    SpH Tryd.prog gl 32 d ⟨[.sl (byteRows l), u n], [], [(.s 0, 1)]⟩ ⟨.sl (byteRows (l ++ numB n)), [], [(.s 0, 1)]⟩ := by
  refine h32 rfl ?_
  have P := appS_mk (fun d => put_spec l n hl hn d)
  generalize byteRows (l ++ numB n) = R at *
  generalize byteRows l = A at *
  simp only [inSt, mpL, mpB, mpP, AV.mp]
  simp -implicitDefEqProofs [c32]
  refine onA_mk 1 R ?_ ?_
  · simp -implicitDefEqProofs [caS]
    exact P
  · simp -implicitDefEqProofs [caSt]
    refine postH_r ⟨?_, ?_, ?_, ?_, ?_, ?_⟩ <;> simp -implicitDefEqProofs
theorem wtext_spec (l s : List UInt8) (hl : l.length ≤ 500000) (hs : s.length ≤ 500000) (d : Nat) :
    SpH Tryd.prog gl 31 d ⟨[.sl (byteRows l), .str s], [], [(.s 0, 1)]⟩ ⟨.sl (byteRows (l ++ textB s)), [], [(.s 0, 1)]⟩ := by
  refine h31 rfl ?_
  have P := appS_mk (fun d => wnum_spec l s.length (by omega) (by omega) d)
  have hlim : lim = 140737488355328 := rfl
  have e : byteRows (l ++ textB s) = byteRows (l ++ numB s.length) ++ byteRows s := by unfold textB; rw [← List.append_assoc, byteRows_app]
  rw [e]
  have nl := numB_len s.length (by omega)
  have one := byteRows_one (l ++ numB s.length)
  have bl := byteRows_len (l ++ numB s.length)
  rw [List.length_append] at bl
  have q1 : l.length + (numB s.length).length + s.length ≤ 140737488355328 := by omega
  have t1 : IntKind.u64.wrap (s.length : Int) = s.length := by rw [wrap_u64] <;> omega
  generalize byteRows (l ++ numB s.length) = B at *
  generalize byteRows l = A at *
  simp only [inSt, mpL, mpB, mpP, AV.mp]
  simp -implicitDefEqProofs [c31, t1]
  refine onA_mk 1 B ?_ ?_
  · simp -implicitDefEqProofs [caS]
    exact P
  · simp -implicitDefEqProofs [caSt, hlim, bl, q1]
    refine ⟨one, postH_r ⟨?_, ?_, ?_, ?_, ?_, ?_⟩⟩ <;> simp -implicitDefEqProofs
theorem wflag_spec (l : List UInt8) (f : Bool) (hl : l.length ≤ 5000000) (d : Nat) :
    SpH Tryd.prog gl 30 d ⟨[.sl (byteRows l), .bool f], [], [(.s 0, 1)]⟩ ⟨.sl (byteRows (l ++ flagB f)), [], [(.s 0, 1)]⟩ := by
  refine h30 rfl ?_
  have hlim : lim = 140737488355328 := rfl
  have one := byteRows_one l
  have bl := byteRows_len l
  have q1 : l.length + 1 ≤ 140737488355328 := by omega
  have e : byteRows (l ++ flagB f) = byteRows l ++ [[.int .u8 (if f = true then 1 else 0)]] := by rw [byteRows_app]; cases f <;> rfl
  rw [e]
  generalize byteRows l = A at *
  simp only [inSt, mpL, mpB, mpP, AV.mp]
  cases f
  · simp -implicitDefEqProofs [c30, hlim, bl, q1]
    refine ⟨one, postH_r ⟨?_, ?_, ?_, ?_, ?_, ?_⟩⟩ <;> simp -implicitDefEqProofs
  · simp -implicitDefEqProofs [c30, hlim, bl, q1]
    refine ⟨one, postH_r ⟨?_, ?_, ?_, ?_, ?_, ?_⟩⟩ <;> simp -implicitDefEqProofs
def putK (k : Ky) : List UInt8 := textB k.g ++ (textB k.r ++ (flagB k.p ++ (numB k.e ++ flagB k.f)))
theorem textB_len (s : List UInt8) (h : s.length ≤ 500000) : (textB s).length ≤ s.length + 9 := by
  have := numB_len s.length (by omega)
  simp [textB]; omega
set_option maxRecDepth 20000 in
theorem kput_spec (l : List UInt8) (k : Ky) (hl : l.length ≤ 1000) (hg : k.g.length ≤ 1000) (hr : k.r.length ≤ 1000) (he : k.e < 18446744073709551616) (d : Nat) :
    SpH Tryd.prog gl 11 d ⟨[.sl (byteRows l), .agg k.row], [], [(.s 0, 1)]⟩ ⟨.sl (byteRows (l ++ putK k)), [], [(.s 0, 1)]⟩ := by
  refine h11 rfl ?_
  have L1 := textB_len k.g (by omega)
  have L2 := textB_len k.r (by omega)
  have P1 := appS_mk (fun d => wtext_spec l k.g (by omega) (by omega) d)
  have P2 := appS_mk (fun d => wtext_spec (l ++ textB k.g) k.r (by simp; omega) (by omega) d)
  have P3 := appS_mk (fun d => wflag_spec ((l ++ textB k.g) ++ textB k.r) k.p (by simp; omega) d)
  have L4 : (((l ++ textB k.g) ++ textB k.r) ++ flagB k.p).length ≤ 5000 := by simp [flagB]; omega
  have P4 := appS_mk (fun d => wnum_spec (((l ++ textB k.g) ++ textB k.r) ++ flagB k.p) k.e (by omega) he d)
  have L5 := numB_len k.e he
  have P5 := appS_mk (fun d => wflag_spec ((((l ++ textB k.g) ++ textB k.r) ++ flagB k.p) ++ numB k.e) k.f (by rw [List.length_append]; omega) d)
  have e : l ++ putK k = ((((l ++ textB k.g) ++ textB k.r) ++ flagB k.p) ++ numB k.e) ++ flagB k.f := by unfold putK; simp only [List.append_assoc]
  rw [e, krow]
  generalize byteRows (((((l ++ textB k.g) ++ textB k.r) ++ flagB k.p) ++ numB k.e) ++ flagB k.f) = R5 at *
  generalize byteRows ((((l ++ textB k.g) ++ textB k.r) ++ flagB k.p) ++ numB k.e) = R4 at *
  generalize byteRows (((l ++ textB k.g) ++ textB k.r) ++ flagB k.p) = R3 at *
  generalize byteRows ((l ++ textB k.g) ++ textB k.r) = R2 at *
  generalize byteRows (l ++ textB k.g) = R1 at *
  generalize byteRows l = R0 at *
  simp only [inSt, mpL, mpB, mpP, AV.mp]
  simp -implicitDefEqProofs [c11]
  refine onA_mk 1 R1 ?_ ?_
  · simp -implicitDefEqProofs [caS]
    exact P1
  simp -implicitDefEqProofs [caSt]
  refine onA_mk 1 R2 ?_ ?_
  · simp -implicitDefEqProofs [caS]
    exact P2
  simp -implicitDefEqProofs [caSt]
  refine onA_mk 1 R3 ?_ ?_
  · simp -implicitDefEqProofs [caS]
    exact P3
  simp -implicitDefEqProofs [caSt]
  refine onA_mk 1 R4 ?_ ?_
  · simp -implicitDefEqProofs [caS]
    exact P4
  simp -implicitDefEqProofs [caSt]
  refine onA_mk 1 R5 ?_ ?_
  · simp -implicitDefEqProofs [caS]
    exact P5
  simp -implicitDefEqProofs [caSt]
  refine postH_r ⟨?_, ?_, ?_, ?_, ?_, ?_⟩ <;> simp -implicitDefEqProofs
end Go.Ai
set_option linter.unusedSimpArgs false
set_option linter.unusedVariables false
namespace Go.Ai
/-! ### Reading what was put, no program in sight -/
abbrev RS := Option (List UInt8)
def numOf (l : List UInt8) : Nat := l.foldl (fun a b => 256 * a + b.toNat) 0
def getN : RS → RS × Nat
  | some (k :: r) => if k.toNat ≤ 8 ∧ k.toNat ≤ r.length ∧ ¬ (0 < k.toNat ∧ r.headD 1 = 0) then (some (r.drop k.toNat), numOf (r.take k.toNat)) else (none, 0)
  | _ => (none, 0)
def countN (most : Nat) (s : RS) : RS × Nat := if (getN s).2 ≤ most then getN s else (none, 0)
def takeN (s : RS) (n : Nat) : RS × List UInt8 := match s with
  | some b => if n ≤ b.length then (some (b.drop n), b.take n) else (none, [])
  | none => (none, [])
def textN (most : Nat) (s : RS) : RS × List UInt8 := takeN (countN most s).1 (countN most s).2
def flagN : RS → RS × Bool
  | some (b :: r) => if b.toNat ≤ 1 then (some r, b == 1) else (none, false)
  | _ => (none, false)
def getK (s : RS) : RS × Ky :=
  let a := textN 96 s
  let b := textN 96 a.1
  let c := flagN b.1
  let d := getN c.1
  let e := flagN d.1
  let k : Ky := ⟨a.2, b.2, c.2, d.2, e.2⟩
  match e.1 with
  | some r => if rightK k = true then (some r, k) else (none, kz)
  | none => (none, kz)
theorem numOf_acc (l : List UInt8) (a : Nat) : l.foldl (fun a b => 256 * a + b.toNat) a = a * 256 ^ l.length + numOf l := by
  unfold numOf
  induction l generalizing a with
  | nil => simp
  | cons b r ih =>
    simp only [List.foldl_cons, List.length_cons]
    rw [ih (256 * a + b.toNat), ih (256 * 0 + b.toNat), Nat.pow_succ]
    simp only [Nat.add_mul, Nat.mul_zero, Nat.zero_add]
    rw [show 256 * a * 256 ^ r.length = a * (256 ^ r.length * 256) by ac_rfl]
    omega
theorem numOf_cons (b : UInt8) (r : List UInt8) : numOf (b :: r) = b.toNat * 256 ^ r.length + numOf r := by
  have := numOf_acc r (256 * 0 + b.toNat)
  simp only [Nat.mul_zero, Nat.zero_add] at this
  rw [← this]; simp [numOf]
theorem numOf_be (k n : Nat) : numOf (be k n) = n % 256 ^ k := by
  induction k with
  | zero => simp [be, numOf, Nat.mod_one]
  | succ k ih =>
    rw [be, numOf_cons, ih, be_len]
    have e : (UInt8.ofNat (n / 256 ^ k)).toNat = n / 256 ^ k % 256 := by simp
    rw [e, Nat.pow_succ, Nat.mod_mul, Nat.mul_comm (n / 256 ^ k % 256), Nat.add_comm]
theorem sz8_bounds (n : Nat) : n < 256 ^ sz8 n ∧ (n ≠ 0 → 256 ^ (sz8 n - 1) ≤ n) := by
  induction n using Nat.strongRecOn with
  | _ n ih =>
    by_cases h0 : n = 0
    · subst h0; rw [sz8_zero]; simp
    · rw [sz8_pos h0]
      obtain ⟨h1, h2⟩ := ih (n / 256) (by omega)
      refine ⟨by rw [Nat.pow_succ]; omega, fun _ => ?_⟩
      rw [Nat.add_sub_cancel]
      by_cases h3 : n / 256 = 0
      · rw [h3, sz8_zero]; simp; omega
      · have h4 := h2 h3
        rw [sz8_pos h3] at h4 ⊢
        rw [Nat.add_sub_cancel] at h4
        rw [Nat.pow_succ]; omega
theorem getN_put (n : Nat) (r : List UInt8) (hn : n < 18446744073709551616) : getN (some (numB n ++ r)) = (some r, n) := by
  have h8 := sz8_le8 n hn
  obtain ⟨h1, h2⟩ := sz8_bounds n
  have ek : (UInt8.ofNat (sz8 n)).toNat = sz8 n := by simp; omega
  unfold numB
  rw [List.cons_append, getN, ek, if_pos]
  · have e1 : List.drop (sz8 n) (be (sz8 n) n ++ r) = r := List.drop_left' (be_len _ _)
    have e2 : List.take (sz8 n) (be (sz8 n) n ++ r) = be (sz8 n) n := List.take_left' (be_len _ _)
    rw [e1, e2, numOf_be, Nat.mod_eq_of_lt h1]
  · refine ⟨h8, by rw [List.length_append, be_len]; omega, ?_⟩
    rintro ⟨h3, h4⟩
    cases hs : sz8 n with
    | zero => omega
    | succ k =>
      rw [hs] at h4 h1 h2
      simp only [be, List.cons_append, List.headD_cons] at h4
      have h0 : n ≠ 0 := by rintro rfl; rw [sz8_zero] at hs; cases hs
      have h5 := h2 h0
      rw [Nat.add_sub_cancel] at h5
      have h6 := congrArg UInt8.toNat h4
      simp only [UInt8.toNat_ofNat', UInt8.toNat_zero] at h6
      have h7 : n / 256 ^ k < 256 := by rw [Nat.div_lt_iff_lt_mul (Nat.pow_pos (by omega))]; rw [Nat.pow_succ] at h1; omega
      have h9 : 1 ≤ n / 256 ^ k := by rw [Nat.le_div_iff_mul_le (Nat.pow_pos (by omega))]; omega
      omega
theorem textN_put (s r : List UInt8) (h : s.length ≤ 96) : textN 96 (some (textB s ++ r)) = (some r, s) := by
  unfold textN countN textB
  rw [List.append_assoc, getN_put s.length _ (by omega)]
  simp only
  rw [if_pos h]
  simp only [takeN]
  rw [if_pos (by rw [List.length_append]; omega)]
  rw [List.drop_left' rfl, List.take_left' rfl]
theorem flagN_put (f : Bool) (r : List UInt8) : flagN (some (flagB f ++ r)) = (some r, f) := by
  cases f <;> rfl
theorem stepR_w (s : List UInt8) (i : Nat) : (stepR s i).2 ≤ 4 := by
  have hF : ∀ n r0 least, n ≤ 3 → (stepF s i n r0 least).2 ≤ 4 := by
    intro n r0 least hn
    unfold stepF; split
    · simp only; omega
    · simp
  unfold stepR
  simp only
  split
  · simp
  · split
    · exact hF _ _ _ (by omega)
    · split
      · exact hF _ _ _ (by omega)
      · split
        · exact hF _ _ _ (by omega)
        · simp
theorem runes_few (s : List UInt8) : ∀ (n i : Nat), s.length - i ≤ n → s.length - i ≤ 4 * (runesL s i).length
  | 0, i, h => by omega
  | n + 1, i, h => by
    by_cases hi : i < s.length
    · rw [runesL_in hi]
      have h1 := stepR_w s i
      have h2 := stepR_pos s i
      have := runes_few s n (i + (stepR s i).2) (by omega)
      simp only [List.length_cons]; omega
    · omega
theorem nameGo_few : ∀ (l : List Int) (n : Nat) (last : Int), nameGo n last l = true → n + l.length ≤ 24
  | [], n, last, h => by simp only [nameGo, Bool.and_eq_true, decide_eq_true_eq] at h; simp; omega
  | x :: l, n, last, h => by
    simp only [nameGo, Bool.and_eq_true] at h
    have := nameGo_few l _ _ h.2
    simp only [List.length_cons]; omega
theorem nameT_len {s : List UInt8} (h : nameT s = true) : s.length ≤ 96 := by
  have h1 := nameGo_few _ _ _ h
  have h2 := runes_few s s.length 0 (by omega)
  omega
/-- A right key is got as it was put. -/
theorem getK_put (k : Ky) (r : List UInt8) (h : rightK k = true) : getK (some (putK k ++ r)) = (some r, k) := by
  have hr := h
  unfold rightK at hr
  simp only [Bool.and_eq_true] at hr
  have l1 := nameT_len hr.1.1
  have l2 := nameT_len hr.1.2
  have he := right_e h
  unfold getK putK
  simp only [List.append_assoc]
  rw [textN_put _ _ l1]
  simp only
  rw [textN_put _ _ l2]
  simp only
  rw [flagN_put]
  simp only
  rw [getN_put _ _ (by omega)]
  simp only
  rw [flagN_put]
  simp only
  rw [if_pos h]
theorem putK_inj {a b : Ky} (ha : rightK a = true) (hb : rightK b = true) (h : putK a = putK b) : a = b := by
  have h1 := getK_put a [] ha
  have h2 := getK_put b [] hb
  rw [h, h2] at h1
  exact (Prod.mk.inj h1).2.symm
theorem printK_inj {a b : Ky} (ha : rightK a = true) (hb : rightK b = true) (h : printK a = printK b) : a = b := by
  have h1 := read_print a
  have h2 := read_print b
  rw [if_pos ha] at h1
  rw [if_pos hb, ← h, h1] at h2
  exact (Prod.mk.inj h2).1
end Go.Ai
set_option linter.unusedSimpArgs false
set_option linter.unusedVariables false
namespace Go.Ai
open Go.Proofs Go.RowKit
theorem putK_eq {a b : Ky} (ha : rightK a = true) (hb : rightK b = true) : (putK a == putK b) = decide (a = b) := by
  by_cases h : a = b
  · subst h; simp
  · rw [decide_eq_false h, beq_eq_false_iff_ne]; exact fun e => h (putK_inj ha hb e)
theorem printK_eq {a b : Ky} (ha : rightK a = true) (hb : rightK b = true) : (printK a == printK b) = decide (a = b) := by
  by_cases h : a = b
  · subst h; simp
  · rw [decide_eq_false h, beq_eq_false_iff_ne]; exact fun e => h (printK_inj ha hb e)
set_option maxRecDepth 20000 in
theorem keyUnlike_spec (a b : Ky) : Sp Tryd.prog gl 3 [.agg a.row, .agg b.row] (.bool true) := by
  refine s3 rfl rfl ?_
  have H1 := heavy_agg a
  have H2 := heavy_agg b
  cases h1 : heavyK a
  · cases h2 : heavyK b
    · rw [h1] at H1
      rw [h2] at H2
      unfold heavyK at h1 h2
      rw [decide_eq_false_iff_not] at h1 h2
      have Q1 := rkright_spec a (by omega) (by omega)
      have Q2 := rkright_spec b (by omega) (by omega)
      cases r1 : rightK a
      · rw [r1] at Q1
        rw [krow] at H1 H2 Q1 Q2 ⊢
        rw [krow]
        simp -implicitDefEqProofs [c3]
        refine onC_mk _ awake25_spec ?_
        simp -implicitDefEqProofs
        refine onC_mk _ H1 ?_
        simp -implicitDefEqProofs
        refine onC_mk _ H2 ?_
        simp -implicitDefEqProofs
        refine onC_mk _ Q1 ?_
        simp -implicitDefEqProofs
      · cases r2 : rightK b
        · rw [r1] at Q1
          rw [r2] at Q2
          rw [krow] at H1 H2 Q1 Q2 ⊢
          rw [krow]
          simp -implicitDefEqProofs [c3]
          refine onC_mk _ awake25_spec ?_
          simp -implicitDefEqProofs
          refine onC_mk _ H1 ?_
          simp -implicitDefEqProofs
          refine onC_mk _ H2 ?_
          simp -implicitDefEqProofs
          refine onC_mk _ Q1 ?_
          simp -implicitDefEqProofs
          refine onC_mk _ Q2 ?_
          simp -implicitDefEqProofs
        · have P1 := kprint_spec a (by omega) (by omega)
          have P2 := kprint_spec b (by omega) (by omega)
          have e1 := right_e r1
          have e2 := right_e r2
          have U1 := appS_mk (fun d => kput_spec [] a (by simp) (by omega) (by omega) (by omega) d)
          have U2 := appS_mk (fun d => kput_spec [] b (by simp) (by omega) (by omega) (by omega) d)
          rw [List.nil_append, show byteRows [] = [] from rfl] at U1 U2
          have B1 := rowBytes_of (putK a)
          have B2 := rowBytes_of (putK b)
          have E1 := putK_eq r1 r2
          have E2 := printK_eq r1 r2
          have E3 := ky_beq a b
          rw [r1] at Q1
          rw [r2] at Q2
          generalize byteRows (putK a) = A1 at *
          generalize byteRows (putK b) = A2 at *
          generalize putK a = pa at *
          generalize putK b = pb at *
          generalize printK a = qa at *
          generalize printK b = qb at *
          generalize decide (a = b) = E at *
          rw [krow] at H1 H2 Q1 Q2 U1 U2 P1 P2 ⊢
          rw [krow]
          simp -implicitDefEqProofs [c3]
          refine onC_mk _ awake25_spec ?_
          simp -implicitDefEqProofs
          refine onC_mk _ H1 ?_
          simp -implicitDefEqProofs
          refine onC_mk _ H2 ?_
          simp -implicitDefEqProofs
          refine onC_mk _ Q1 ?_
          simp -implicitDefEqProofs
          refine onC_mk _ Q2 ?_
          simp -implicitDefEqProofs
          refine onC_mk _ P1 ?_
          simp -implicitDefEqProofs
          refine onC_mk _ P2 ?_
          simp -implicitDefEqProofs [E1, E2, E3]
          refine onA_mk 1 A1 ?_ ?_
          · simp -implicitDefEqProofs [caS]
            exact U1
          simp -implicitDefEqProofs [caSt, bytesA, B1]
          refine onA_mk 1 A2 ?_ ?_
          · simp -implicitDefEqProofs [caS]
            exact U2
          simp -implicitDefEqProofs [caSt, bytesA, B2, E1, E3]
    · rw [h1] at H1
      rw [h2] at H2
      rw [krow] at H1 H2 ⊢
      rw [krow]
      simp -implicitDefEqProofs [c3]
      refine onC_mk _ awake25_spec ?_
      simp -implicitDefEqProofs
      refine onC_mk _ H1 ?_
      simp -implicitDefEqProofs
      refine onC_mk _ H2 ?_
      simp -implicitDefEqProofs
  · rw [h1] at H1
    rw [krow] at H1 ⊢
    rw [krow]
    simp -implicitDefEqProofs [c3]
    refine onC_mk _ awake25_spec ?_
    simp -implicitDefEqProofs
    refine onC_mk _ H1 ?_
    simp -implicitDefEqProofs
end Go.Ai
