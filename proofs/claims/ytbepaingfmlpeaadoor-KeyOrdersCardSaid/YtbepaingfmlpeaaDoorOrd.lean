/- YtbepaingfmlpeaaDoorOrd: part of the abstract interpreter library (values, rules, soundness against the model) or of what a function of the seat computes. Conditions: as each theorem says. -/
import Derived.Test.YtbepaingfmlpeaaDoorKey1
import Derived.Lib.Bytealg
set_option linter.unusedSimpArgs false
set_option linter.unusedVariables false
namespace Go.Ai
open Go.Proofs
/-! ### One order, no program in sight -/
abbrev cmpB : List UInt8 → List UInt8 → Int := Lib.compareBytes
theorem cmpB_cons (a b : UInt8) (x y : List UInt8) : cmpB (a :: x) (b :: y) = if a < b then -1 else if b < a then 1 else cmpB x y := rfl
theorem u8_lt {a b : UInt8} : a < b ↔ a.toNat < b.toNat := UInt8.lt_iff_toNat_lt
theorem u8_eq {a b : UInt8} : a = b ↔ a.toNat = b.toNat := ⟨fun h => by rw [h], fun h => UInt8.toNat_inj.1 h⟩
theorem cmpB_zero : ∀ (a b : List UInt8), cmpB a b = 0 ↔ a = b
  | [], [] => by simp [cmpB, Lib.compareBytes]
  | [], _ :: _ => by simp [cmpB, Lib.compareBytes]
  | _ :: _, [] => by simp [cmpB, Lib.compareBytes]
  | a :: x, b :: y => by
    rw [cmpB_cons]
    simp only [List.cons.injEq, u8_lt, u8_eq]
    split
    · constructor
      · intro h; omega
      · intro h; omega
    · split
      · constructor
        · intro h; omega
        · intro h; omega
      · rw [cmpB_zero x y]
        constructor
        · intro h; exact ⟨by omega, h⟩
        · exact fun h => h.2
theorem cmpB_anti : ∀ (a b : List UInt8), cmpB b a = -cmpB a b
  | [], [] => rfl
  | [], _ :: _ => rfl
  | _ :: _, [] => rfl
  | a :: x, b :: y => by
    rw [cmpB_cons, cmpB_cons, cmpB_anti x y]
    simp only [u8_lt]
    by_cases h1 : a.toNat < b.toNat
    · rw [if_pos h1, if_neg (by omega), if_pos h1]; rfl
    · by_cases h2 : b.toNat < a.toNat
      · rw [if_pos h2, if_neg h1, if_pos h2]
      · rw [if_neg h2, if_neg h1, if_neg h1, if_neg h2]
theorem cmpB_less : ∀ (a b : List UInt8), Op.bytesLess a b = decide (cmpB a b < 0)
  | [], [] => rfl
  | [], _ :: _ => rfl
  | _ :: _, [] => rfl
  | a :: x, b :: y => by
    rw [cmpB_cons]
    simp only [Op.bytesLess, cmpB_less x y]
    by_cases h1 : a < b
    · simp [h1]
    · by_cases h2 : b < a
      · have h3 : (a == b) = false := by
          rw [beq_eq_false_iff_ne]; intro e; rw [e] at h2; exact UInt8.lt_irrefl b h2
        simp [h1, h2, h3]
      · have h3 : a = b := by
          rw [u8_lt] at h1 h2
          exact u8_eq.2 (by omega)
        subst h3
        simp [h1]
theorem cmpB_trans : ∀ (a b c : List UInt8), cmpB a b < 0 → cmpB b c < 0 → cmpB a c < 0
  | [], [], c, h, _ => by simp [cmpB, Lib.compareBytes] at h
  | [], _ :: _, [], _, h => by simp [cmpB, Lib.compareBytes] at h
  | [], _ :: _, _ :: _, _, _ => by simp [cmpB, Lib.compareBytes]
  | _ :: _, [], c, h, _ => by simp [cmpB, Lib.compareBytes] at h
  | _ :: _, _ :: _, [], _, h => by simp [cmpB, Lib.compareBytes] at h
  | a :: x, b :: y, c :: z, h1, h2 => by
    rw [cmpB_cons] at h1 h2 ⊢
    simp only [u8_lt] at h1 h2 ⊢
    split at h1
    · split at h2
      · rw [if_pos (by omega)]; omega
      · split at h2
        · omega
        · rw [if_pos (by omega)]; omega
    · split at h1
      · omega
      · split at h2
        · rw [if_pos (by omega)]; omega
        · split at h2
          · omega
          · rw [if_neg (by omega), if_neg (by omega)]; exact cmpB_trans x y z h1 h2
def fl (b : Bool) : Int := if b = true then 1 else 0
def cmpN (a b : Nat) : Int := if a < b then -1 else if b < a then 1 else 0
/-- The first that is not 0. -/
def orI : List Int → Int
  | [] => 0
  | x :: r => if x ≠ 0 then x else orI r
def cmpsK (a b : Ky) : List Int := [cmpB a.g b.g, cmpB a.r b.r, fl b.p - fl a.p, cmpN a.e b.e, fl a.f - fl b.f]
def cmpK (a b : Ky) : Int := orI (cmpsK a b)
def lessK (a b : Ky) : Bool := decide (cmpK a b < 0)
theorem cmpN_zero (a b : Nat) : cmpN a b = 0 ↔ a = b := by unfold cmpN; split; · omega
                                                           · split <;> omega
theorem fl_sub (a b : Bool) : fl b - fl a = 0 ↔ a = b := by cases a <;> cases b <;> decide
theorem cmpN_anti (a b : Nat) : cmpN b a = -cmpN a b := by
  unfold cmpN
  by_cases h1 : a < b
  · rw [if_pos h1, if_neg (by omega), if_pos h1]; rfl
  · by_cases h2 : b < a
    · rw [if_pos h2, if_neg h1, if_pos h2]
    · rw [if_neg h2, if_neg h1, if_neg h1, if_neg h2]; rfl
theorem orI_neg : ∀ (l : List Int), orI (l.map fun x => -x) = -orI l
  | [] => rfl
  | x :: r => by
    simp only [List.map_cons, orI]
    by_cases h : x = 0
    · subst h; simp [orI_neg r]
    · rw [if_pos (by omega), if_pos h]
theorem cmpK_anti (a b : Ky) : cmpK b a = -cmpK a b := by
  unfold cmpK
  rw [← orI_neg]
  congr 1
  simp only [cmpsK, List.map_cons, List.map_nil]
  rw [cmpB_anti a.g b.g, cmpB_anti a.r b.r, cmpN_anti a.e b.e]
  congr 3
  · omega
  · congr 2; omega
theorem orI_zero : ∀ (l : List Int), orI l = 0 ↔ ∀ x ∈ l, x = 0
  | [] => by simp [orI]
  | x :: r => by
    simp only [orI, List.mem_cons, forall_eq_or_imp]
    split
    · rename_i h; constructor
      · intro h2; exact absurd h2 h
      · intro h2; exact h2.1
    · rename_i h
      rw [orI_zero r]
      constructor
      · intro h2; exact ⟨by omega, h2⟩
      · exact fun h2 => h2.2
theorem cmpK_zero (a b : Ky) : cmpK a b = 0 ↔ a = b := by
  unfold cmpK
  rw [orI_zero]
  simp only [cmpsK, List.mem_cons, List.not_mem_nil, or_false, forall_eq_or_imp, forall_eq]
  obtain ⟨g, r, p, e, f⟩ := a
  obtain ⟨g', r', p', e', f'⟩ := b
  simp only [Ky.mk.injEq]
  rw [cmpB_zero, cmpB_zero, fl_sub, cmpN_zero, fl_sub]
  constructor
  · rintro ⟨h1, h2, h3, h4, h5⟩; exact ⟨h1, h2, h3, h4, h5.symm⟩
  · rintro ⟨h1, h2, h3, h4, h5⟩; exact ⟨h1, h2, h3, h4, h5.symm⟩
/-- One place after the other: what is ahead of one that is ahead is ahead. -/
theorem orI_trans : ∀ (x y z : List Int), x.length = y.length → y.length = z.length →
    (∀ (i : Nat) (a b c : Int), x[i]? = some a → y[i]? = some b → z[i]? = some c → (a < 0 → b < 0 → c < 0) ∧ (a = 0 → c = b) ∧ (b = 0 → c = a)) → orI x < 0 → orI y < 0 → orI z < 0
  | [], _, _, _, _, _, h, _ => by simp [orI] at h
  | _ :: _, [], _, h, _, _, _, _ => by simp at h
  | _ :: _, _ :: _, [], _, h, _, _, _ => by simp at h
  | a :: x, b :: y, c :: z, h1, h2, h3, h4, h5 => by
    obtain ⟨p1, p2, p3⟩ := h3 0 a b c rfl rfl rfl
    have ih := orI_trans x y z (by simpa using h1) (by simpa using h2) (fun i a b c g1 g2 g3 => h3 (i + 1) a b c (by simpa using g1) (by simpa using g2) (by simpa using g3))
    simp only [orI] at h4 h5 ⊢
    by_cases ha : a = 0
    · have hc := p2 ha
      rw [if_neg (by omega)] at h4
      by_cases hb : b = 0
      · rw [if_neg (by omega)] at h5
        rw [if_neg (by omega)]; exact ih h4 h5
      · rw [if_pos hb] at h5
        rw [if_pos (by omega)]; omega
    · rw [if_pos ha] at h4
      by_cases hb : b = 0
      · have hc := p3 hb
        rw [if_pos (by omega)]; omega
      · rw [if_pos hb] at h5
        have := p1 h4 h5
        rw [if_pos (by omega)]; exact this
theorem lessK_trans (a b c : Ky) (h1 : lessK a b = true) (h2 : lessK b c = true) : lessK a c = true := by
  unfold lessK at *
  rw [decide_eq_true_eq] at *
  refine orI_trans (cmpsK a b) (cmpsK b c) (cmpsK a c) rfl rfl ?_ h1 h2
  intro i x y z hx hy hz
  have flt : ∀ p q r : Bool, (fl q - fl p < 0 → fl r - fl q < 0 → fl r - fl p < 0) ∧ (fl q - fl p = 0 → fl r - fl p = fl r - fl q) ∧ (fl r - fl q = 0 → fl r - fl p = fl q - fl p) := by
    intro p q r; cases p <;> cases q <;> cases r <;> decide
  have cbt : ∀ p q r : List UInt8, (cmpB p q < 0 → cmpB q r < 0 → cmpB p r < 0) ∧ (cmpB p q = 0 → cmpB p r = cmpB q r) ∧ (cmpB q r = 0 → cmpB p r = cmpB p q) := by
    intro p q r
    refine ⟨cmpB_trans p q r, fun h => ?_, fun h => ?_⟩
    · rw [(cmpB_zero p q).1 h]
    · rw [(cmpB_zero q r).1 h]
  have cnt : ∀ p q r : Nat, (cmpN p q < 0 → cmpN q r < 0 → cmpN p r < 0) ∧ (cmpN p q = 0 → cmpN p r = cmpN q r) ∧ (cmpN q r = 0 → cmpN p r = cmpN p q) := by
    intro p q r
    refine ⟨fun h1 h2 => ?_, fun h => ?_, fun h => ?_⟩
    · unfold cmpN at *
      split at h1
      · split at h2
        · rw [if_pos (by omega)]; omega
        · split at h2 <;> omega
      · split at h1 <;> omega
    · rw [(cmpN_zero p q).1 h]
    · rw [(cmpN_zero q r).1 h]
  unfold cmpsK at hx hy hz
  match i with
  | 0 => simp at hx hy hz; subst hx hy hz; exact cbt _ _ _
  | 1 => simp at hx hy hz; subst hx hy hz; exact cbt _ _ _
  | 2 => simp at hx hy hz; subst hx hy hz; exact flt _ _ _
  | 3 => simp at hx hy hz; subst hx hy hz; exact cnt _ _ _
  | 4 =>
    simp at hx hy hz; subst hx hy hz
    obtain ⟨q1, q2, q3⟩ := flt c.f b.f a.f
    exact ⟨fun h1 h2 => by omega, fun h => by omega, fun h => by omega⟩
  | n + 5 => simp at hx
theorem lessK_asym (a b : Ky) (h : lessK a b = true) : lessK b a = false := by
  unfold lessK at *
  rw [decide_eq_true_eq] at h
  rw [decide_eq_false_iff_not, cmpK_anti a b]; omega
theorem lessK_eq (a b : Ky) : decide (a = b) = (!lessK a b && !lessK b a) := by
  unfold lessK
  rw [cmpK_anti a b, Bool.eq_iff_iff, decide_eq_true_eq, ← cmpK_zero]
  simp
  omega
/-- As the document has it. -/
theorem lessR_eq (a b : Ky) : lessK a b = if a.g ≠ b.g then Op.bytesLess a.g b.g else if a.r ≠ b.r then Op.bytesLess a.r b.r else if a.p ≠ b.p then a.p else if a.e ≠ b.e then decide (a.e < b.e) else !a.f && b.f := by
  have key : ∀ v, cmpK a b = v → lessK a b = decide (v < 0) := fun v h => by unfold lessK; rw [h]
  have e : cmpK a b = (if cmpB a.g b.g ≠ 0 then cmpB a.g b.g else if cmpB a.r b.r ≠ 0 then cmpB a.r b.r else if fl b.p - fl a.p ≠ 0 then fl b.p - fl a.p else if cmpN a.e b.e ≠ 0 then cmpN a.e b.e else if fl a.f - fl b.f ≠ 0 then fl a.f - fl b.f else 0) := rfl
  by_cases h1 : a.g = b.g
  · rw [if_neg (fun h => h ((cmpB_zero _ _).2 h1))] at e
    rw [if_neg (fun h => h h1)]
    by_cases h2 : a.r = b.r
    · rw [if_neg (fun h => h ((cmpB_zero _ _).2 h2))] at e
      rw [if_neg (fun h => h h2)]
      by_cases h3 : a.p = b.p
      · rw [if_neg (fun h => h ((fl_sub _ _).2 h3))] at e
        rw [if_neg (fun h => h h3)]
        by_cases h4 : a.e = b.e
        · rw [if_neg (fun h => h ((cmpN_zero _ _).2 h4))] at e
          rw [if_neg (fun h => h h4), key _ e]
          cases a.f <;> cases b.f <;> decide
        · rw [if_pos (fun h => h4 ((cmpN_zero _ _).1 h))] at e
          rw [if_pos h4, key _ e]
          unfold cmpN
          by_cases h5 : a.e < b.e
          · simp [h5]
          · by_cases h6 : b.e < a.e
            · simp [h5, h6]
            · omega
      · rw [if_pos (fun h => h3 ((fl_sub _ _).1 h))] at e
        rw [if_pos h3, key _ e]
        revert h3
        cases a.p <;> cases b.p <;> simp [fl]
    · rw [if_pos (fun h => h2 ((cmpB_zero _ _).1 h))] at e
      rw [if_pos h2, key _ e, cmpB_less]
  · rw [if_pos (fun h => h1 ((cmpB_zero _ _).1 h))] at e
    rw [if_pos h1, key _ e, cmpB_less]
end Go.Ai
