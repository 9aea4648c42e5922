/- YtbepaingfmlpeaaDoorKaKey: part of the abstract interpreter library (values, rules, soundness against the model) or of what a function of the seat computes. Conditions: as each theorem says. -/
import Derived.Test.YtbepaingfmlpeaaDoorKaName
import Derived.Lib.Bytealg
import Derived.Test.YtbepaingfmlpeaaDoorAiShelf
import Derived.Test.YtbepaingfmlpeaaDoorAiShelf2
set_option linter.unusedSimpArgs false
set_option linter.unusedVariables false
namespace Go.Ai
open Go.Proofs
theorem krow (k : Ky) : k.row = [.str k.g, .str k.r, .bool k.p, u k.e, .bool k.f] := rfl
theorem xheavy_spec (k : Ky) : Sp Tryd.prog gl 8 [.agg k.row] (.bool (decide (500 < k.g.length ∨ 500 < k.r.length))) := by
  refine s8 rfl rfl ?_
  obtain ⟨kg, kr, kp, ke, kf⟩ := k
  unfold Ky.row
  simp only
  by_cases h : 500 < kg.length
  · have h' : (500 : Int) < kg.length := by omega
    simp -implicitDefEqProofs [c8, h, h']
  · have h' : ¬ (500 : Int) < kg.length := by omega
    simp -implicitDefEqProofs [c8, h, h']
    omega
def heavyK (k : Ky) : Bool := decide (500 < k.g.length ∨ 500 < k.r.length)
theorem int_beq_nat (a b : Nat) : ((a : Int) == (b : Int)) = (a == b) := by
  rw [Bool.eq_iff_iff]; simp; omega
theorem ky_beq (a b : Ky) : (a.g == b.g && (a.r == b.r && (a.p == b.p && (((a.e : Int) == (b.e : Int)) && a.f == b.f)))) = decide (a = b) := by
  obtain ⟨g, r, p, e, f⟩ := a
  obtain ⟨g', r', p', e', f'⟩ := b
  rw [Bool.eq_iff_iff, int_beq_nat]
  simp
def rightK (k : Ky) : Bool := nameT k.g && nameT k.r && decide (1 ≤ k.e ∧ k.e ≤ 4611686018427387904)
theorem kright_spec (k : Ky) (hg : k.g.length ≤ 900000) (hr : k.r.length ≤ 900000) : Sp Tryd.prog gl 17 [.agg k.row] (.bool (rightK k)) := by
  refine s17 rfl rfl ?_
  obtain ⟨g, r, p, e, f⟩ := k
  have N1 := tname_spec g hg
  have N2 := tname_spec r hr
  unfold rightK Ky.row
  simp only at *
  generalize nameT g = n1 at *
  generalize nameT r = n2 at *
  cases n1
  · simp -implicitDefEqProofs [c17]
    refine onC_mk _ N1 ?_
    simp -implicitDefEqProofs
  · cases n2
    · simp -implicitDefEqProofs [c17]
      refine onC_mk _ N1 ?_
      simp -implicitDefEqProofs
      refine onC_mk _ N2 ?_
      simp -implicitDefEqProofs
    · simp -implicitDefEqProofs [c17]
      refine onC_mk _ N1 ?_
      simp -implicitDefEqProofs
      refine onC_mk _ N2 ?_
      by_cases h1 : 1 ≤ e
      · have h1' : (1 : Int) ≤ e := by omega
        by_cases h2 : e ≤ 4611686018427387904
        · have h2' : (e : Int) ≤ 4611686018427387904 := by omega
          simp -implicitDefEqProofs [h1, h1', h2, h2']
        · have h2' : ¬ (e : Int) ≤ 4611686018427387904 := by omega
          simp -implicitDefEqProofs [h1, h1', h2, h2']
      · have h1' : ¬ (1 : Int) ≤ e := by omega
        simp -implicitDefEqProofs [h1, h1']
theorem rkright_spec (k : Ky) (hg : k.g.length ≤ 900000) (hr : k.r.length ≤ 900000) : Sp Tryd.prog gl 9 [.agg k.row] (.bool (rightK k)) := by
  refine s9 rfl rfl ?_
  obtain ⟨g, r, p, e, f⟩ := k
  have N1 := rname_spec g hg
  have N2 := rname_spec r hr
  unfold rightK Ky.row
  simp only at *
  generalize nameT g = n1 at *
  generalize nameT r = n2 at *
  cases n1
  · simp -implicitDefEqProofs [c9]
    refine onC_mk _ N1 ?_
    simp -implicitDefEqProofs
  · cases n2
    · simp -implicitDefEqProofs [c9]
      refine onC_mk _ N1 ?_
      simp -implicitDefEqProofs
      refine onC_mk _ N2 ?_
      simp -implicitDefEqProofs
    · simp -implicitDefEqProofs [c9]
      refine onC_mk _ N1 ?_
      simp -implicitDefEqProofs
      refine onC_mk _ N2 ?_
      by_cases h1 : 0 < e
      · have h1' : (0 : Int) < e := by omega
        have h1n : 1 ≤ e := h1
        by_cases h2 : e ≤ 4611686018427387904
        · have h2' : (e : Int) ≤ 4611686018427387904 := by omega
          simp -implicitDefEqProofs [h1, h1', h2, h2', h1n]
        · have h2' : ¬ (e : Int) ≤ 4611686018427387904 := by omega
          simp -implicitDefEqProofs [h1, h1', h2, h2', h1n]
      · have h1' : ¬ (0 : Int) < e := by omega
        have h1n : ¬ 1 ≤ e := by omega
        simp -implicitDefEqProofs [h1, h1', h1n]
end Go.Ai
set_option linter.unusedSimpArgs false
set_option linter.unusedVariables false
namespace Go.Ai
open Go.Proofs
/-! ### One order, no program in sight -/
abbrev cmpB : List UInt8 → List UInt8 → Int := Lib.compareBytes
theorem cmpB_cons (a b : UInt8) (x y : List UInt8) : cmpB (a :: x) (b :: y) = if a < b then -1 else if b < a then 1 else cmpB x y := rfl
theorem u8_lt {a b : UInt8} : a < b ↔ a.toNat < b.toNat := UInt8.lt_iff_toNat_lt
theorem u8_eq {a b : UInt8} : a = b ↔ a.toNat = b.toNat := ⟨fun h => by rw [h], fun h => UInt8.toNat_inj.1 h⟩
theorem cmpB_zero : ∀ (a b : List UInt8), cmpB a b = 0 ↔ a = b
  | [], [] => by simp [cmpB, Lib.compareBytes]
  | [], _ :: _ => by simp [cmpB, Lib.compareBytes]
  | _ :: _, [] => by simp [cmpB, Lib.compareBytes]
  | a :: x, b :: y => by
    rw [cmpB_cons]
    simp only [List.cons.injEq, u8_lt, u8_eq]
    split
    · constructor
      · intro h; omega
      · intro h; omega
    · split
      · constructor
        · intro h; omega
        · intro h; omega
      · rw [cmpB_zero x y]
        constructor
        · intro h; exact ⟨by omega, h⟩
        · exact fun h => h.2
theorem cmpB_anti : ∀ (a b : List UInt8), cmpB b a = -cmpB a b
  | [], [] => rfl
  | [], _ :: _ => rfl
  | _ :: _, [] => rfl
  | a :: x, b :: y => by
    rw [cmpB_cons, cmpB_cons, cmpB_anti x y]
    simp only [u8_lt]
    by_cases h1 : a.toNat < b.toNat
    · rw [if_pos h1, if_neg (by omega), if_pos h1]; rfl
    · by_cases h2 : b.toNat < a.toNat
      · rw [if_pos h2, if_neg h1, if_pos h2]
      · rw [if_neg h2, if_neg h1, if_neg h1, if_neg h2]
theorem cmpB_less : ∀ (a b : List UInt8), Op.bytesLess a b = decide (cmpB a b < 0)
  | [], [] => rfl
  | [], _ :: _ => rfl
  | _ :: _, [] => rfl
  | a :: x, b :: y => by
    rw [cmpB_cons]
    simp only [Op.bytesLess, cmpB_less x y]
    by_cases h1 : a < b
    · simp [h1]
    · by_cases h2 : b < a
      · have h3 : (a == b) = false := by
          rw [beq_eq_false_iff_ne]; intro e; rw [e] at h2; exact UInt8.lt_irrefl b h2
        simp [h1, h2, h3]
      · have h3 : a = b := by
          rw [u8_lt] at h1 h2
          exact u8_eq.2 (by omega)
        subst h3
        simp [h1]
theorem cmpB_trans : ∀ (a b c : List UInt8), cmpB a b < 0 → cmpB b c < 0 → cmpB a c < 0
  | [], [], c, h, _ => by simp [cmpB, Lib.compareBytes] at h
  | [], _ :: _, [], _, h => by simp [cmpB, Lib.compareBytes] at h
  | [], _ :: _, _ :: _, _, _ => by simp [cmpB, Lib.compareBytes]
  | _ :: _, [], c, h, _ => by simp [cmpB, Lib.compareBytes] at h
  | _ :: _, _ :: _, [], _, h => by simp [cmpB, Lib.compareBytes] at h
  | a :: x, b :: y, c :: z, h1, h2 => by
    rw [cmpB_cons] at h1 h2 ⊢
    simp only [u8_lt] at h1 h2 ⊢
    split at h1
    · split at h2
      · rw [if_pos (by omega)]; omega
      · split at h2
        · omega
        · rw [if_pos (by omega)]; omega
    · split at h1
      · omega
      · split at h2
        · rw [if_pos (by omega)]; omega
        · split at h2
          · omega
          · rw [if_neg (by omega), if_neg (by omega)]; exact cmpB_trans x y z h1 h2
def fl (b : Bool) : Int := if b = true then 1 else 0
def cmpU (a b : Nat) : Int := if a < b then -1 else if b < a then 1 else 0
/-- The first that is not 0. -/
def orI : List Int → Int
  | [] => 0
  | x :: r => if x ≠ 0 then x else orI r
def cmpsK (a b : Ky) : List Int := [cmpB a.g b.g, cmpB a.r b.r, fl b.p - fl a.p, cmpU a.e b.e, fl a.f - fl b.f]
def cmpK (a b : Ky) : Int := orI (cmpsK a b)
def lessK (a b : Ky) : Bool := decide (cmpK a b < 0)
theorem cmpN_zero (a b : Nat) : cmpU a b = 0 ↔ a = b := by unfold cmpU; split; · omega
                                                           · split <;> omega
theorem fl_sub (a b : Bool) : fl b - fl a = 0 ↔ a = b := by cases a <;> cases b <;> decide
theorem cmpN_anti (a b : Nat) : cmpU b a = -cmpU a b := by
  unfold cmpU
  by_cases h1 : a < b
  · rw [if_pos h1, if_neg (by omega), if_pos h1]; rfl
  · by_cases h2 : b < a
    · rw [if_pos h2, if_neg h1, if_pos h2]
    · rw [if_neg h2, if_neg h1, if_neg h1, if_neg h2]; rfl
theorem orI_neg : ∀ (l : List Int), orI (l.map fun x => -x) = -orI l
  | [] => rfl
  | x :: r => by
    simp only [List.map_cons, orI]
    by_cases h : x = 0
    · subst h; simp [orI_neg r]
    · rw [if_pos (by omega), if_pos h]
theorem cmpK_anti (a b : Ky) : cmpK b a = -cmpK a b := by
  unfold cmpK
  rw [← orI_neg]
  congr 1
  simp only [cmpsK, List.map_cons, List.map_nil]
  rw [cmpB_anti a.g b.g, cmpB_anti a.r b.r, cmpN_anti a.e b.e]
  congr 3
  · omega
  · congr 2; omega
theorem orI_zero : ∀ (l : List Int), orI l = 0 ↔ ∀ x ∈ l, x = 0
  | [] => by simp [orI]
  | x :: r => by
    simp only [orI, List.mem_cons, forall_eq_or_imp]
    split
    · rename_i h; constructor
      · intro h2; exact absurd h2 h
      · intro h2; exact h2.1
    · rename_i h
      rw [orI_zero r]
      constructor
      · intro h2; exact ⟨by omega, h2⟩
      · exact fun h2 => h2.2
theorem cmpK_zero (a b : Ky) : cmpK a b = 0 ↔ a = b := by
  unfold cmpK
  rw [orI_zero]
  simp only [cmpsK, List.mem_cons, List.not_mem_nil, or_false, forall_eq_or_imp, forall_eq]
  obtain ⟨g, r, p, e, f⟩ := a
  obtain ⟨g', r', p', e', f'⟩ := b
  simp only [Ky.mk.injEq]
  rw [cmpB_zero, cmpB_zero, fl_sub, cmpN_zero, fl_sub]
  constructor
  · rintro ⟨h1, h2, h3, h4, h5⟩; exact ⟨h1, h2, h3, h4, h5.symm⟩
  · rintro ⟨h1, h2, h3, h4, h5⟩; exact ⟨h1, h2, h3, h4, h5.symm⟩
/-- One place after the other: what is ahead of one that is ahead is ahead. -/
theorem orI_trans : ∀ (x y z : List Int), x.length = y.length → y.length = z.length →
    (∀ (i : Nat) (a b c : Int), x[i]? = some a → y[i]? = some b → z[i]? = some c → (a < 0 → b < 0 → c < 0) ∧ (a = 0 → c = b) ∧ (b = 0 → c = a)) → orI x < 0 → orI y < 0 → orI z < 0
  | [], _, _, _, _, _, h, _ => by simp [orI] at h
  | _ :: _, [], _, h, _, _, _, _ => by simp at h
  | _ :: _, _ :: _, [], _, h, _, _, _ => by simp at h
  | a :: x, b :: y, c :: z, h1, h2, h3, h4, h5 => by
    obtain ⟨p1, p2, p3⟩ := h3 0 a b c rfl rfl rfl
    have ih := orI_trans x y z (by simpa using h1) (by simpa using h2) (fun i a b c g1 g2 g3 => h3 (i + 1) a b c (by simpa using g1) (by simpa using g2) (by simpa using g3))
    simp only [orI] at h4 h5 ⊢
    by_cases ha : a = 0
    · have hc := p2 ha
      rw [if_neg (by omega)] at h4
      by_cases hb : b = 0
      · rw [if_neg (by omega)] at h5
        rw [if_neg (by omega)]; exact ih h4 h5
      · rw [if_pos hb] at h5
        rw [if_pos (by omega)]; omega
    · rw [if_pos ha] at h4
      by_cases hb : b = 0
      · have hc := p3 hb
        rw [if_pos (by omega)]; omega
      · rw [if_pos hb] at h5
        have := p1 h4 h5
        rw [if_pos (by omega)]; exact this
theorem lessK_trans (a b c : Ky) (h1 : lessK a b = true) (h2 : lessK b c = true) : lessK a c = true := by
  unfold lessK at *
  rw [decide_eq_true_eq] at *
  refine orI_trans (cmpsK a b) (cmpsK b c) (cmpsK a c) rfl rfl ?_ h1 h2
  intro i x y z hx hy hz
  have flt : ∀ p q r : Bool, (fl q - fl p < 0 → fl r - fl q < 0 → fl r - fl p < 0) ∧ (fl q - fl p = 0 → fl r - fl p = fl r - fl q) ∧ (fl r - fl q = 0 → fl r - fl p = fl q - fl p) := by
    intro p q r; cases p <;> cases q <;> cases r <;> decide
  have cbt : ∀ p q r : List UInt8, (cmpB p q < 0 → cmpB q r < 0 → cmpB p r < 0) ∧ (cmpB p q = 0 → cmpB p r = cmpB q r) ∧ (cmpB q r = 0 → cmpB p r = cmpB p q) := by
    intro p q r
    refine ⟨cmpB_trans p q r, fun h => ?_, fun h => ?_⟩
    · rw [(cmpB_zero p q).1 h]
    · rw [(cmpB_zero q r).1 h]
  have cnt : ∀ p q r : Nat, (cmpU p q < 0 → cmpU q r < 0 → cmpU p r < 0) ∧ (cmpU p q = 0 → cmpU p r = cmpU q r) ∧ (cmpU q r = 0 → cmpU p r = cmpU p q) := by
    intro p q r
    refine ⟨fun h1 h2 => ?_, fun h => ?_, fun h => ?_⟩
    · unfold cmpU at *
      split at h1
      · split at h2
        · rw [if_pos (by omega)]; omega
        · split at h2 <;> omega
      · split at h1 <;> omega
    · rw [(cmpN_zero p q).1 h]
    · rw [(cmpN_zero q r).1 h]
  unfold cmpsK at hx hy hz
  match i with
  | 0 => simp at hx hy hz; subst hx hy hz; exact cbt _ _ _
  | 1 => simp at hx hy hz; subst hx hy hz; exact cbt _ _ _
  | 2 => simp at hx hy hz; subst hx hy hz; exact flt _ _ _
  | 3 => simp at hx hy hz; subst hx hy hz; exact cnt _ _ _
  | 4 =>
    simp at hx hy hz; subst hx hy hz
    obtain ⟨q1, q2, q3⟩ := flt c.f b.f a.f
    exact ⟨fun h1 h2 => by omega, fun h => by omega, fun h => by omega⟩
  | n + 5 => simp at hx
theorem lessK_asym (a b : Ky) (h : lessK a b = true) : lessK b a = false := by
  unfold lessK at *
  rw [decide_eq_true_eq] at h
  rw [decide_eq_false_iff_not, cmpK_anti a b]; omega
theorem lessK_eq (a b : Ky) : decide (a = b) = (!lessK a b && !lessK b a) := by
  unfold lessK
  rw [cmpK_anti a b, Bool.eq_iff_iff, decide_eq_true_eq, ← cmpK_zero]
  simp
  omega
/-- As the document has it. -/
theorem lessR_eq (a b : Ky) : lessK a b = if a.g ≠ b.g then Op.bytesLess a.g b.g else if a.r ≠ b.r then Op.bytesLess a.r b.r else if a.p ≠ b.p then a.p else if a.e ≠ b.e then decide (a.e < b.e) else !a.f && b.f := by
  have key : ∀ v, cmpK a b = v → lessK a b = decide (v < 0) := fun v h => by unfold lessK; rw [h]
  have e : cmpK a b = (if cmpB a.g b.g ≠ 0 then cmpB a.g b.g else if cmpB a.r b.r ≠ 0 then cmpB a.r b.r else if fl b.p - fl a.p ≠ 0 then fl b.p - fl a.p else if cmpU a.e b.e ≠ 0 then cmpU a.e b.e else if fl a.f - fl b.f ≠ 0 then fl a.f - fl b.f else 0) := rfl
  by_cases h1 : a.g = b.g
  · rw [if_neg (fun h => h ((cmpB_zero _ _).2 h1))] at e
    rw [if_neg (fun h => h h1)]
    by_cases h2 : a.r = b.r
    · rw [if_neg (fun h => h ((cmpB_zero _ _).2 h2))] at e
      rw [if_neg (fun h => h h2)]
      by_cases h3 : a.p = b.p
      · rw [if_neg (fun h => h ((fl_sub _ _).2 h3))] at e
        rw [if_neg (fun h => h h3)]
        by_cases h4 : a.e = b.e
        · rw [if_neg (fun h => h ((cmpN_zero _ _).2 h4))] at e
          rw [if_neg (fun h => h h4), key _ e]
          cases a.f <;> cases b.f <;> decide
        · rw [if_pos (fun h => h4 ((cmpN_zero _ _).1 h))] at e
          rw [if_pos h4, key _ e]
          unfold cmpU
          by_cases h5 : a.e < b.e
          · simp [h5]
          · by_cases h6 : b.e < a.e
            · simp [h5, h6]
            · omega
      · rw [if_pos (fun h => h3 ((fl_sub _ _).1 h))] at e
        rw [if_pos h3, key _ e]
        revert h3
        cases a.p <;> cases b.p <;> simp [fl]
    · rw [if_pos (fun h => h2 ((cmpB_zero _ _).1 h))] at e
      rw [if_pos h2, key _ e, cmpB_less]
  · rw [if_pos (fun h => h1 ((cmpB_zero _ _).1 h))] at e
    rw [if_pos h1, key _ e, cmpB_less]
end Go.Ai
set_option linter.unusedSimpArgs false
set_option linter.unusedVariables false
namespace Go.Ai
open Go.Proofs Go.Shelf
/-- The numbers of what strings.Join reaches, in this program. -/
def renJ : Ren := {
  f := fun x => match x with
    | 156 => 27
    | 165 => 52
    | 166 => 53
    | 169 => 54
    | 240 => 72
    | 241 => 73
    | 276 => 85
    | 277 => 86
    | n => n
  t := fun x => match x with
    | 31 => 52
    | 9 => 9
    | 3 => 3
    | 4 => 4
    | 0 => 0
    | 20 => 20
    | 72 => 88
    | 76 => 92
    | 70 => 86
    | 37 => 28
    | 75 => 91
    | 127 => 110
    | 164 => 124
    | 5 => 5
    | 80 => 94
    | n => n
  g := fun n => n }
theorem layJ : Lays.n156 Tryd.prog renJ where
  mixed := by kernel_rfl
  f156 := Eq.trans Tryd.func27 (congrArg some (show Tryd.f27 = Body.n156 renJ by kernel_rfl))
  f165 := Eq.trans Tryd.func52 (congrArg some (show Tryd.f52 = Body.n165 renJ by kernel_rfl))
  f166 := Eq.trans Tryd.func53 (congrArg some (show Tryd.f53 = Body.n166 renJ by kernel_rfl))
  f169 := Eq.trans Tryd.func54 (congrArg some (show Tryd.f54 = Body.n169 renJ by kernel_rfl))
  f240 := Eq.trans Tryd.func72 (congrArg some (show Tryd.f72 = Body.n240 renJ by kernel_rfl))
  f241 := Eq.trans Tryd.func73 (congrArg some (show Tryd.f73 = Body.n241 renJ by kernel_rfl))
  f276 := Eq.trans Tryd.func85 (congrArg some (show Tryd.f85 = Body.n276 renJ by kernel_rfl))
  f277 := Eq.trans Tryd.func86 (congrArg some (show Tryd.f86 = Body.n277 renJ by kernel_rfl))
  t0 := Tryd.underlying0
  a0 := Tryd.isAgg0
  z0 := Tryd.sizeOf0
  v0 := Tryd.zeroValue0
  t3 := Tryd.underlying3
  a3 := Tryd.isAgg3
  z3 := Tryd.sizeOf3
  v3 := Tryd.zeroValue3
  t4 := Tryd.underlying4
  a4 := Tryd.isAgg4
  z4 := Tryd.sizeOf4
  v4 := Tryd.zeroValue4
  t9 := Tryd.underlying9
  a9 := Tryd.isAgg9
  z9 := Tryd.sizeOf9
  v9 := Tryd.zeroValue9
  t20 := Tryd.underlying20
  a20 := Tryd.isAgg20
  z20 := Tryd.sizeOf20
  v20 := Tryd.zeroValue20
  t31 := Tryd.underlying52
  a31 := Tryd.isAgg52
  z31 := Tryd.sizeOf52
  v31 := Tryd.zeroValue52
  t37 := Tryd.underlying28
  a37 := Tryd.isAgg28
  z37 := Tryd.sizeOf28
  v37 := Tryd.zeroValue28
  t70 := Tryd.underlying86
  a70 := Tryd.isAgg86
  z70 := Tryd.sizeOf86
  v70 := Tryd.zeroValue86
  t72 := Tryd.underlying88
  a72 := Tryd.isAgg88
  z72 := Tryd.sizeOf88
  v72 := Tryd.zeroValue88
  t75 := Tryd.underlying91
  a75 := Tryd.isAgg91
  z75 := Tryd.sizeOf91
  v75 := Tryd.zeroValue91
  t76 := Tryd.underlying92
  a76 := Tryd.isAgg92
  z76 := Tryd.sizeOf92
  v76 := Tryd.zeroValue92
  t127 := Tryd.underlying110
  a127 := Tryd.isAgg110
  z127 := Tryd.sizeOf110
  v127 := Tryd.zeroValue110
  t164 := Tryd.underlying124
  a164 := Tryd.isAgg124
  z164 := Tryd.sizeOf124
  v164 := Tryd.zeroValue124
theorem extraJ : Builder.Extra Tryd.prog renJ where
  sizeBuilder := by kernel_rfl
  liesBuilder := by kernel_rfl
  t5 := Tryd.underlying5
  a5 := Tryd.isAgg5
  z5 := Tryd.sizeOf5
  v5 := Tryd.zeroValue5
  infoByte := by kernel_rfl
  cellsByte := by kernel_rfl
  sizeByte := by kernel_rfl
  neB5 := by decide
theorem join_spec (xs : List (List UInt8)) (sep : List UInt8) (hN : xs.length ≤ 140737488355328) (hlen : (Lib.join xs sep).length ≤ 140737488355328) : Sp Tryd.prog gl 27 [.sl (strRows xs), .str sep] (.str (Lib.join xs sep)) :=
  join_shelf layJ extraJ (by kernel_rfl) (by kernel_rfl) xs sep hN hlen
end Go.Ai
set_option linter.unusedSimpArgs false
set_option linter.unusedVariables false
namespace Go.Ai
open Go.Proofs Go.RowKit
theorem cmpstring_spec (a b : List UInt8) : Sp Tryd.prog gl 79 [.str a, .str b] (i6 (cmpB a b)) := by
  refine ext_spec (fn := Tryd.f79) (e := Extern.BytealgCompare.compare) Tryd.func79 (by kernel_rfl) (by kernel_rfl) (by kernel_rfl) (by kernel_rfl) ?_
  intro S gb w vs h
  simp only [PRlist, PR] at h
  obtain ⟨_, _, rfl, rfl, _, _, rfl, rfl, rfl⟩ := h
  refine ⟨_, Lib.run_compareString _ _ w, ?_⟩
  simp only [PR]
theorem compareString_spec (a b : List UInt8) : Sp Tryd.prog gl 57 [.str a, .str b] (i6 (cmpB a b)) := by
  refine s57 rfl rfl ?_
  have C := cmpstring_spec a b
  generalize cmpB a b = c at *
  simp -implicitDefEqProofs [c57]
  refine onC_mk _ C ?_
  simp -implicitDefEqProofs
theorem scompare_spec (a b : List UInt8) : Sp Tryd.prog gl 34 [.str a, .str b] (i6 (cmpB a b)) := by
  refine s34 rfl rfl ?_
  have C := compareString_spec a b
  generalize cmpB a b = c at *
  simp -implicitDefEqProofs [c34]
  refine onC_mk _ C ?_
  simp -implicitDefEqProofs
theorem flag_spec (b : Bool) : Sp Tryd.prog gl 35 [.bool b] (i6 (fl b)) := by
  refine s35 rfl rfl ?_
  cases b
  · simp -implicitDefEqProofs [c35, fl]
  · simp -implicitDefEqProofs [c35, fl]
theorem knan_spec (a : Nat) : Sp Tryd.prog gl 58 [u a] (.bool false) := by
  refine s58 rfl rfl ?_
  simp -implicitDefEqProofs [c58]
theorem ccmp_spec (a b : Nat) : Sp Tryd.prog gl 36 [u a, u b] (i6 (cmpU a b)) := by
  refine s36 rfl rfl ?_
  have A := knan_spec a
  have B := knan_spec b
  unfold cmpU
  by_cases h1 : a < b
  · have h1' : (a : Int) < b := by omega
    simp -implicitDefEqProofs [c36]
    refine onC_mk _ A ?_
    simp -implicitDefEqProofs
    refine onC_mk _ B ?_
    simp -implicitDefEqProofs [h1, h1']
  · have h1' : ¬ (a : Int) < b := by omega
    by_cases h2 : b < a
    · have h2' : (b : Int) < a := by omega
      simp -implicitDefEqProofs [c36]
      refine onC_mk _ A ?_
      simp -implicitDefEqProofs
      refine onC_mk _ B ?_
      simp -implicitDefEqProofs [h1, h1', h2, h2']
    · have h2' : ¬ (b : Int) < a := by omega
      simp -implicitDefEqProofs [c36]
      refine onC_mk _ A ?_
      simp -implicitDefEqProofs
      refine onC_mk _ B ?_
      simp -implicitDefEqProofs [h1, h1', h2, h2']
def intRows (l : List Int) : List (List AV) := l.map fun x => [i6 x]
set_option maxRecDepth 20000 in
theorem or_spec (l : List Int) (hl : l.length ≤ 1000000) : Sp Tryd.prog gl 33 [.sl (intRows l)] (i6 (orI l)) := by
  refine s33 rfl rfl ?_
  obtain ⟨R, hR⟩ : ∃ R, R = orI l := ⟨_, rfl⟩
  rw [← hR]
  unfold intRows
  simp -implicitDefEqProofs [c33]
  refine wp_lpk (α := Nat) (fun i => ⟨[(3, i6 0), (6, .sl (l.map fun x => [i6 x])), (7, i6 l.length), (8, i6 i)], [], []⟩) (fun i => i ≤ l.length ∧ orI (l.drop i) = R) (fun i => l.length - i) ?_ 0 ?_ ?_
  · rintro K i hK ⟨h1, h2⟩
    by_cases g : i < l.length
    · have t1 : IntKind.i64.wrap ((i : Int) + 1) = (i + 1 : Nat) := by rw [wrap_i64] <;> omega
      rw [List.drop_eq_getElem_cons g] at h2
      simp only [orI] at h2
      obtain ⟨x, hx⟩ : ∃ x, l[i] = x := ⟨_, rfl⟩
      rw [hx] at h2
      by_cases h0 : x = 0
      · rw [if_neg (fun h => h h0)] at h2
        have fin : ∀ σ', Weak σ' ⟨[(3, i6 0), (6, .sl (l.map fun x => [i6 x])), (7, i6 l.length), (8, i6 (i + 1 : Nat))], [], []⟩ → K σ' := fun σ' hσ => hK (i + 1) σ' ⟨by omega, h2⟩ (by omega) hσ
        have h0' : (x != 0) = false := by simp [h0]
        clear hK hR
        simp -implicitDefEqProofs [g, hx, h0']
        refine fin _ (weak_mk ?_ ?_ ?_ ?_ ?_ ?_) <;> simp -implicitDefEqProofs [t1]
      · rw [if_pos h0] at h2
        have h0' : (x != 0) = true := by simp [h0]
        subst h2
        clear hK hR
        simp -implicitDefEqProofs [g, hx, h0']
    · obtain rfl : i = l.length := by omega
      rw [List.drop_length] at h2
      simp only [orI] at h2
      subst h2
      clear hK
      simp -implicitDefEqProofs
  · exact ⟨Nat.zero_le _, hR.symm⟩
  · refine weak_mk ?_ ?_ ?_ ?_ ?_ ?_ <;> simp -implicitDefEqProofs
theorem fl_i6 (a b : Bool) : IntKind.i64.wrap (fl a - fl b) = fl a - fl b := by
  have : -1 ≤ fl a - fl b ∧ fl a - fl b ≤ 1 := by cases a <;> cases b <;> decide
  rw [wrap_i64] <;> omega
set_option maxRecDepth 20000 in
theorem less_spec (a b : Ky) : Sp Tryd.prog gl 12 [.agg a.row, .agg b.row] (.bool (lessK a b)) := by
  refine s12 rfl rfl ?_
  have C1 := scompare_spec a.g b.g
  have C2 := scompare_spec a.r b.r
  have F1 := flag_spec b.p
  have F2 := flag_spec a.p
  have C3 := ccmp_spec a.e b.e
  have F3 := flag_spec a.f
  have F4 := flag_spec b.f
  have O := or_spec (cmpsK a b) (by simp [cmpsK])
  have w1 := fl_i6 b.p a.p
  have w2 := fl_i6 a.f b.f
  have el : lessK a b = decide (orI (cmpsK a b) < 0) := rfl
  rw [el]
  generalize orI (cmpsK a b) = R at *
  unfold cmpsK intRows at O
  simp only [List.map_cons, List.map_nil] at O
  rw [krow, krow]
  generalize cmpB a.g b.g = x1 at *
  generalize cmpB a.r b.r = x2 at *
  generalize cmpU a.e b.e = x4 at *
  generalize fl b.p = y1 at *
  generalize fl a.p = y2 at *
  generalize fl a.f = y3 at *
  generalize fl b.f = y4 at *
  simp -implicitDefEqProofs [c12]
  refine onC_mk _ C1 ?_
  simp -implicitDefEqProofs
  refine onC_mk _ C2 ?_
  simp -implicitDefEqProofs
  refine onC_mk _ F1 ?_
  simp -implicitDefEqProofs
  refine onC_mk _ F2 ?_
  simp -implicitDefEqProofs
  refine onC_mk _ C3 ?_
  simp -implicitDefEqProofs
  refine onC_mk _ F3 ?_
  simp -implicitDefEqProofs
  refine onC_mk _ F4 ?_
  simp -implicitDefEqProofs
  rw [w1, w2]
  refine onC_mk _ O ?_
  simp -implicitDefEqProofs
theorem rless_spec (a b : Ky) : Sp Tryd.prog gl 13 [.agg a.row, .agg b.row] (.bool (lessK a b)) := by
  refine s13 rfl rfl ?_
  rw [lessR_eq]
  obtain ⟨g, r, p, e, f⟩ := a
  obtain ⟨g', r', p', e', f'⟩ := b
  rw [krow, krow]
  simp only
  by_cases h1 : g = g'
  · have b1 : (g == g') = true := by simp [h1]
    by_cases h2 : r = r'
    · have b2 : (r == r') = true := by simp [h2]
      by_cases h3 : p = p'
      · have b3 : (p != p') = false := by simp [h3]
        by_cases h4 : e = e'
        · have b4 : ((e : Int) != e') = false := by simp [h4]
          rw [if_neg (fun h => h h1), if_neg (fun h => h h2), if_neg (fun h => h h3), if_neg (fun h => h h4)]
          cases f
          · simp -implicitDefEqProofs [c13, b1, b2, b3, b4]
          · simp -implicitDefEqProofs [c13, b1, b2, b3, b4]
        · have b4 : ((e : Int) != e') = true := by simp; omega
          rw [if_neg (fun h => h h1), if_neg (fun h => h h2), if_neg (fun h => h h3), if_pos h4]
          have b5 : decide ((e : Int) < e') = decide (e < e') := by rw [Bool.eq_iff_iff]; simp
          simp -implicitDefEqProofs [c13, b1, b2, b3, b4, b5]
      · have b3 : (p != p') = true := by simp [h3]
        rw [if_neg (fun h => h h1), if_neg (fun h => h h2), if_pos h3]
        simp -implicitDefEqProofs [c13, b1, b2, b3]
    · have b2 : (r == r') = false := by simp [h2]
      rw [if_neg (fun h => h h1), if_pos h2]
      simp -implicitDefEqProofs [c13, b1, b2]
  · have b1 : (g == g') = false := by simp [h1]
    rw [if_pos h1]
    simp -implicitDefEqProofs [c13, b1]
def otherK (k : Ky) : Ky := { k with f := !k.f }
theorem other_spec (k : Ky) : Sp Tryd.prog gl 14 [.agg k.row] (.agg (otherK k).row) := by
  refine s14 rfl rfl ?_
  obtain ⟨g, r, p, e, f⟩ := k
  unfold otherK
  rw [krow, krow]
  simp -implicitDefEqProofs [c14]
theorem either_spec (b : Bool) (x y : List UInt8) : Sp Tryd.prog gl 28 [.bool b, .str x, .str y] (.str (if b = true then x else y)) := by
  refine s28 rfl rfl ?_
  cases b
  · simp -implicitDefEqProofs [c28]
  · simp -implicitDefEqProofs [c28]
end Go.Ai
set_option linter.unusedSimpArgs false
set_option linter.unusedVariables false
namespace Go.Ai
open Go.Proofs Go.RowKit
theorem runesL_ascii (s : List UInt8) (h : ∀ b ∈ s, b.toNat < 128) : ∀ (n i : Nat), s.length - i ≤ n → runesL s i = (s.drop i).map fun b => (b.toNat : Int)
  | 0, i, hn => by rw [runesL_out (by omega), List.drop_eq_nil_of_le (by omega)]; rfl
  | n + 1, i, hn => by
    by_cases hi : i < s.length
    · rw [runesL_in hi, List.drop_eq_getElem_cons hi, List.map_cons]
      have hb := byt_at hi
      have h128 := h _ (List.getElem_mem hi)
      have e : stepR s i = ((byt s i : Int), 1) := by unfold stepR; simp only; rw [if_pos (by rw [hb]; exact h128)]
      rw [e]
      simp only
      rw [runesL_ascii s h n (i + 1) (by omega), hb]
    · rw [runesL_out hi, List.drop_eq_nil_of_le (by omega)]; rfl
theorem nameT_ascii (s : List UInt8) (h : ∀ b ∈ s, b.toNat < 128) : nameT s = nameGo 0 32 (s.map fun b => (b.toNat : Int)) := by
  unfold nameT
  rw [runesL_ascii s h s.length 0 (by omega)]; rfl
def awkK : Ky := ⟨[97, 112, 105], [102, 97, 115, 116], true, 3, false⟩
theorem awkK_right : rightK awkK = true := by
  unfold rightK
  rw [nameT_ascii _ (by decide), nameT_ascii _ (by decide)]
  decide
theorem small3_spec : Sp Tryd.prog gl 74 [i6 3] (.str [51]) := by
  refine s74 rfl rfl ?_
  have t1 : IntKind.i64.wrap 4 = 4 := by rw [wrap_i64] <;> omega
  simp -implicitDefEqProofs [c74, t1]
theorem fmt3i_spec : Sp Tryd.prog gl 55 [u 3, i6 10] (.str [51]) := by
  refine s55 rfl rfl ?_
  have t1 : IntKind.i64.wrap 3 = 3 := by rw [wrap_i64] <;> omega
  simp -implicitDefEqProofs [c55, t1]
  refine onC_mk _ small3_spec ?_
  simp -implicitDefEqProofs
theorem fmt3_spec : Sp Tryd.prog gl 29 [u 3, i6 10] (.str [51]) := by
  refine s29 rfl rfl ?_
  simp -implicitDefEqProofs [c29]
  refine onC_mk _ fmt3i_spec ?_
  simp -implicitDefEqProofs
theorem print3_spec : Sp Tryd.prog gl 10 [.agg awkK.row] (.str [97, 112, 105, 47, 102, 97, 115, 116, 47, 112, 97, 103, 101, 47, 51, 47, 102, 105, 114, 101]) := by
  refine s10 rfl rfl ?_
  have R := kright_spec awkK (by decide) (by decide)
  rw [awkK_right] at R
  have E1 := either_spec true [112, 97, 103, 101] [116, 105, 99, 107, 101, 116]
  have E2 := either_spec false [114, 101, 115, 111, 108, 118, 101] [102, 105, 114, 101]
  have J := join_spec [[97, 112, 105], [102, 97, 115, 116], [112, 97, 103, 101], [51], [102, 105, 114, 101]] [47] (by decide) (by decide)
  rw [show Lib.join [[97, 112, 105], [102, 97, 115, 116], [112, 97, 103, 101], [51], [102, 105, 114, 101]] [47] = [97, 112, 105, 47, 102, 97, 115, 116, 47, 112, 97, 103, 101, 47, 51, 47, 102, 105, 114, 101] from rfl] at J
  unfold strRows at J
  simp only [List.map_cons, List.map_nil] at J
  simp only [if_true, Bool.false_eq_true, if_false] at E1 E2
  rw [krow] at R ⊢
  simp only [awkK] at R ⊢
  simp -implicitDefEqProofs [c10]
  refine onC_mk _ R ?_
  simp -implicitDefEqProofs
  refine onC_mk _ E1 ?_
  simp -implicitDefEqProofs
  refine onC_mk _ fmt3_spec ?_
  simp -implicitDefEqProofs
  refine onC_mk _ E2 ?_
  simp -implicitDefEqProofs
  refine onC_mk _ J ?_
  simp -implicitDefEqProofs
theorem awake25_spec : Sp Tryd.prog gl 7 [] (.bool true) := by
  refine s7 rfl rfl ?_
  have P := print3_spec
  rw [krow] at P
  simp only [awkK] at P
  simp -implicitDefEqProofs [c7]
  refine onC_mk _ P ?_
  simp -implicitDefEqProofs
theorem heavy_agg (k : Ky) : Sp Tryd.prog gl 8 [.agg k.row] (.bool (heavyK k)) := xheavy_spec k
end Go.Ai
set_option linter.unusedSimpArgs false
set_option linter.unusedVariables false
namespace Go.Ai
open Go.Proofs Go.Shelf Go.RowKit Go.Sort Go.Lib
def ren_laysSmall : Ren := {
  f := fun x => match x with
    | 283 => 74
    | n => n
  t := fun x => match x with
    | 3 => 3
    | 9 => 9
    | 4 => 4
    | n => n
  g := fun x => x }
theorem laysSmall : Lays.n283 Tryd.prog ren_laysSmall where
  mixed := by kernel_rfl
  f283 := Eq.trans Tryd.func74 (congrArg some (show Tryd.f74 = Body.n283 ren_laysSmall by kernel_rfl))
  t3 := Tryd.underlying3
  a3 := Tryd.isAgg3
  z3 := Tryd.sizeOf3
  v3 := Tryd.zeroValue3
  t4 := Tryd.underlying4
  a4 := Tryd.isAgg4
  z4 := Tryd.sizeOf4
  v4 := Tryd.zeroValue4
  t9 := Tryd.underlying9
  a9 := Tryd.isAgg9
  z9 := Tryd.sizeOf9
  v9 := Tryd.zeroValue9
def ren_laysDig : Ren := {
  f := fun x => match x with
    | 284 => 75
    | 129 => 88
    | 317 => 87
    | 318 => 89
    | n => n
  t := fun x => match x with
    | 53 => 22
    | 3 => 3
    | 212 => 127
    | 0 => 0
    | 4 => 4
    | 46 => 120
    | 5 => 5
    | 9 => 9
    | n => n
  g := fun x => match x with
    | 17 => 1
    | n => n }
theorem laysDig : LaysM.n284 Tryd.prog ren_laysDig where
  mixed := by kernel_rfl
  f129 := Eq.trans Tryd.func88 (congrArg some (show Tryd.f88 = Body.n129 ren_laysDig by kernel_rfl))
  f284 := Eq.trans Tryd.func75 (congrArg some (show Tryd.f75 = Body.n284 ren_laysDig by kernel_rfl))
  f317 := Eq.trans Tryd.func87 (congrArg some (show Tryd.f87 = Body.n317 ren_laysDig by kernel_rfl))
  f318 := Eq.trans Tryd.func89 (congrArg some (show Tryd.f89 = Body.n318 ren_laysDig by kernel_rfl))
  t0 := Tryd.underlying0
  a0 := Tryd.isAgg0
  z0 := Tryd.sizeOf0
  v0 := Tryd.zeroValue0
  t3 := Tryd.underlying3
  a3 := Tryd.isAgg3
  z3 := Tryd.sizeOf3
  v3 := Tryd.zeroValue3
  t4 := Tryd.underlying4
  a4 := Tryd.isAgg4
  z4 := Tryd.sizeOf4
  v4 := Tryd.zeroValue4
  t5 := Tryd.underlying5
  a5 := Tryd.isAgg5
  z5 := Tryd.sizeOf5
  v5 := Tryd.zeroValue5
  t9 := Tryd.underlying9
  a9 := Tryd.isAgg9
  z9 := Tryd.sizeOf9
  v9 := Tryd.zeroValue9
  t46 := Tryd.underlying120
  a46 := Tryd.isAgg120
  z46 := Tryd.sizeOf120
  v46 := Tryd.zeroValue120
  t53 := Tryd.underlying22
  a53 := Tryd.isAgg22
  z53 := Tryd.sizeOf22
  v53 := Tryd.zeroValue22
  t212 := Tryd.underlying127
  a212 := Tryd.isAgg127
  z212 := Tryd.sizeOf127
  v212 := Tryd.zeroValue127
  g17 := by kernel_rfl
  i0 := by kernel_rfl
  i3 := by kernel_rfl
  i4 := by kernel_rfl
  i5 := by kernel_rfl
  i9 := by kernel_rfl
  i46 := by kernel_rfl
  i53 := by kernel_rfl
  i212 := by kernel_rfl
  m17 := by kernel_rfl
def ren_laysFmt : Ren := {
  f := fun x => match x with
    | 285 => 76
    | n => n
  t := fun x => match x with
    | 37 => 28
    | 53 => 22
    | 3 => 3
    | 4 => 4
    | 51 => 128
    | 9 => 9
    | 5 => 5
    | 0 => 0
    | n => n
  g := fun x => x }
theorem laysFmt : Lays.n285 Tryd.prog ren_laysFmt where
  mixed := by kernel_rfl
  f285 := Eq.trans Tryd.func76 (congrArg some (show Tryd.f76 = Body.n285 ren_laysFmt by kernel_rfl))
  t0 := Tryd.underlying0
  a0 := Tryd.isAgg0
  z0 := Tryd.sizeOf0
  v0 := Tryd.zeroValue0
  t3 := Tryd.underlying3
  a3 := Tryd.isAgg3
  z3 := Tryd.sizeOf3
  v3 := Tryd.zeroValue3
  t4 := Tryd.underlying4
  a4 := Tryd.isAgg4
  z4 := Tryd.sizeOf4
  v4 := Tryd.zeroValue4
  t5 := Tryd.underlying5
  a5 := Tryd.isAgg5
  z5 := Tryd.sizeOf5
  v5 := Tryd.zeroValue5
  t9 := Tryd.underlying9
  a9 := Tryd.isAgg9
  z9 := Tryd.sizeOf9
  v9 := Tryd.zeroValue9
  t37 := Tryd.underlying28
  a37 := Tryd.isAgg28
  z37 := Tryd.sizeOf28
  v37 := Tryd.zeroValue28
  t51 := Tryd.underlying128
  a51 := Tryd.isAgg128
  z51 := Tryd.sizeOf128
  v51 := Tryd.zeroValue128
  t53 := Tryd.underlying22
  a53 := Tryd.isAgg22
  z53 := Tryd.sizeOf22
  v53 := Tryd.zeroValue22
theorem holds_zero0 (w : World) (T : TypeId) (nd : Nat) (hs : nd ≤ 24) : Holds (fun (b : UInt8) => Value.int .u8 (b.toNat : Int)) (w.alloc (.cells Lib.zeros24 T)) w.heap.size 0 (Array.replicate nd (0 : UInt8)) := fun j hj => by
  have hj' : j < nd := by simpa using hj
  refine ⟨?_, World.frozen?_alloc_new _ _ _ _⟩
  rw [World.cell?_alloc_new, zeros24_at _ (by omega), getElem!_pos _ j hj]
  simp
theorem below_grow (w : World) (os : Array Obj) (k : Nat) : Below w.heap.size w ((grow w os).drewN k) := by
  refine ⟨rfl, rfl, rfl, ?_, fun i hi => ?_⟩
  · show w.heap.size ≤ (w.heap ++ os).size
    simp
  · show (w.heap ++ os)[i]? = w.heap[i]?
    exact Array.getElem?_append_left hi
set_option maxHeartbeats 6400000 in
set_option maxRecDepth 100000 in
/-- internal/strconv.FormatUint at base 10, of 100 and more. -/
theorem fmtUint_calls (u : Nat) (hu1 : 100 ≤ u) (hu64 : u < 18446744073709551616) (w : World) (htab : ∀ q, q < 20 → w.cell? ⟨1, q, none⟩ = some (.int .u64 ((10 ^ q : Nat) : Int))) :
    Calls Tryd.prog 55 #[.int .u64 u, .int .i64 10] w fun e w' => e = .returned (.string ⟨(Lib.decDigits u).toArray⟩) ∧ Below w.heap.size w w' := by
  have hnd20 : Lib.nDigits u ≤ 20 := by have := Lib.numDigits_eq u (by omega) hu64; split at this <;> omega
  have hal : Tryd.prog.arrayLen 111 = 24 := by kernel_rfl
  have hsl : ∀ W, (Instr.sliceAt 111 (.pointer (some ⟨w.heap.size, 0, none⟩)) none (some (.int .i64 (Lib.nDigits u : Int))) none).run Tryd.prog W = .ok (.slice (some ⟨w.heap.size, 0, none⟩) (Lib.nDigits u) 24) W := fun W => by
    rw [run_sliceAt_array_h W 111 ⟨w.heap.size, 0, none⟩ (by kernel_rfl) .i64 (Lib.nDigits u : Int) (by omega) (by rw [hal]; omega)]
    go_simp
  have hH0 := holds_zero0 w 111 (Lib.nDigits u) (by omega)
  have hfmt := Any.internal_strconv_formatBase10 laysFmt w.heap.size 0 24 u (Array.replicate (Lib.nDigits u) 0) (w.alloc (.cells Lib.zeros24 111)) hH0 (by rw [Array.size_replicate]; exact Lib.lt_pow_nDigits u) hu64 (by rw [Array.size_replicate]; omega)
  rw [Array.size_replicate] at hfmt
  have HH0 := Lib.hid hH0
  clear hH0 hal
  have hnd : Calls Tryd.prog 75 #[.int .u64 u] (w.alloc (.cells Lib.zeros24 111)) fun e w' => e = .returned (.int .i64 (Lib.nDigits u)) ∧ w' = (w.alloc (.cells Lib.zeros24 111)) :=
    numDigits_cells laysDig u (by omega) hu64 _ (fun q hq => by
      have h1 := htab q hq
      have h2 := World.block_lt_of_cell? w _ h1
      exact (World.cell?_alloc_lt w _ _ h2).trans h1)
  go_enter Tryd.func55, Tryd.ntmps55
  go_wp2_with (first
    | (go_at_call 75; refine hnd.mono ?_; rintro e w' ⟨rfl, rfl⟩))
  go_at_call 76
  refine hfmt.mono ?_
  rintro e w' ⟨rfl, k, v', dk, rfl, hF⟩
  have hcv : (convert 28 9 (.slice (some ⟨w.heap.size, 0, none⟩) (Lib.nDigits u) 24)).run Tryd.prog ((putRow (fun (b : UInt8) => Value.int .u8 (b.toNat : Int)) (w.alloc (.cells Lib.zeros24 111)) w.heap.size 0 dk).drewN k) = .ok (.string ⟨(Lib.decDigits u).toArray⟩) ((putRow (fun (b : UInt8) => Value.int .u8 (b.toNat : Int)) (w.alloc (.cells Lib.zeros24 111)) w.heap.size 0 dk).drewN k) := by
    have h := run_convert_bytes_back (P := Tryd.prog) ((putRow (fun (b : UInt8) => Value.int .u8 (b.toNat : Int)) (w.alloc (.cells Lib.zeros24 111)) w.heap.size 0 dk).drewN k) 28 9 5 ⟨w.heap.size, 0, none⟩ 24 (Lib.decDigits u) Tryd.underlying28 Tryd.underlying5 Tryd.underlying9 (fun j hj => by
      rw [Lib.row_is_numeral hF j hj, Lib.add_plain, World.cell?_drewN]
      exact cell?_putRow (fun (b : UInt8) => Value.int .u8 (b.toNat : Int)) _ w.heap.size 0 _ dk HH0.out (by rw [hF.size, Array.size_replicate]) j (by rw [hF.size]; rw [Lib.decDigits_length] at hj; exact hj))
    rw [Lib.decDigits_length] at h
    exact h
  go_wp2
  go_ret
  refine ⟨rfl, ?_⟩
  rw [alloc_eq_grow]
  obtain ⟨os', _, eg⟩ := putRow_grow_new (fun (b : UInt8) => Value.int .u8 (b.toNat : Int)) w #[.cells Lib.zeros24 111] w.heap.size 0 dk (Nat.le_refl _)
  rw [eg]
  exact below_grow w os' k

theorem small_spec (n : Nat) (h : n < 100) : Sp Tryd.prog gl 74 [i6 n] (.str (Lib.decDigits n)) := by
  refine shelf_spec Tryd.func74 (by kernel_rfl) (by kernel_rfl) ?_
  intro S gb w vs hvs hag
  simp only [PRlist, PR] at hvs
  obtain ⟨_, _, rfl, rfl, rfl⟩ := hvs
  exact (Any.internal_strconv_small laysSmall n h w).mono fun e w' ⟨he, hw⟩ => ⟨_, he, hw ▸ Below.refl _ _, by simp [PR]⟩
theorem tab_gl : List.lookup 1 gl = some ((List.range 20).map fun q => Value.int .u64 ((10 ^ q : Nat) : Int)) := by kernel_rfl
theorem tab_cells {w : World} (h : ∀ i us, List.lookup i gl = some us → ∀ (o : Nat) (u : Value), us[o]? = some u → w.cell? ⟨i, o, none⟩ = some u) (q : Nat) (hq : q < 20) : w.cell? ⟨1, q, none⟩ = some (.int .u64 ((10 ^ q : Nat) : Int)) :=
  h 1 _ tab_gl q _ (by simp [hq])
theorem ifmt_spec (n : Nat) (h : n < 18446744073709551616) : Sp Tryd.prog gl 55 [u n, i6 10] (.str (Lib.decDigits n)) := by
  by_cases g : n < 100
  · refine s55 rfl rfl ?_
    have S := small_spec n g
    generalize Lib.decDigits n = R at *
    have t1 : IntKind.i64.wrap (n : Int) = n := by rw [wrap_i64] <;> omega
    have g' : (n : Int) < 100 := by omega
    simp -implicitDefEqProofs [c55, t1, g, g']
    refine onC_mk _ S ?_
    simp -implicitDefEqProofs
  · refine shelf_specG Tryd.func55 (by kernel_rfl) (by kernel_rfl) ?_
    intro S gb w vs hvs hag hgl
    simp only [PRlist, PR] at hvs
    obtain ⟨_, _, rfl, rfl, _, _, rfl, rfl, rfl⟩ := hvs
    exact (fmtUint_calls n (by omega) h w (tab_cells hgl)).mono fun e w' ⟨he, hw⟩ => ⟨_, he, hw, by simp [PR]⟩
theorem fmt_spec (n : Nat) (h : n < 18446744073709551616) : Sp Tryd.prog gl 29 [u n, i6 10] (.str (Lib.decDigits n)) := by
  refine s29 rfl rfl ?_
  have S := ifmt_spec n h
  generalize Lib.decDigits n = R at *
  simp -implicitDefEqProofs [c29]
  refine onC_mk _ S ?_
  simp -implicitDefEqProofs
end Go.Ai
