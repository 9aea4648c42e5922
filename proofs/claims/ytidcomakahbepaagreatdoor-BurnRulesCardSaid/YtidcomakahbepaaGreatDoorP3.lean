/- P3: a part of the proof: the rules, or what functions compute. Conditions: as each theorem says. -/
import Derived.Test.YtidcomakahbepaaGreatDoorP2
import Derived.Test.YtidcomakahbepaaGreatDoorAiUse
import Derived.Test.YtidcomakahbepaaGreatDoorP1
set_option linter.unusedSimpArgs false
set_option linter.unusedVariables false
set_option maxRecDepth 20000
namespace Go.Ai
open Go.Proofs
structure Lb where
 n : List UInt8
 t : List UInt8
 deriving DecidableEq
structure Ru where
 n : List UInt8
 p : Bool
 l : Int
 s : Int
 f : Nat
 w : Int
 k : Int
 deriving DecidableEq
structure Gl where
 n : List UInt8
 t : Nat
 g : Int
 a : Int
 o : Int
 c : Int
 lb : List Lb
 ru : List Ru
 deriving DecidableEq
structure Cf where
 gs : List Gl
 r : Int
 v : Int
 i : Int
 x : Int
 y : Int
def Lb.row (x : Lb) : List AV := [.str x.n, .str x.t]
def Ru.row (x : Ru) : List AV := [.str x.n, .bool x.p, i6 x.l, i6 x.s, u x.f, i6 x.w, i6 x.k]
def Gl.row (x : Gl) : List AV := [.str x.n, .int .u32 x.t, i6 x.g, i6 x.a, i6 x.o, i6 x.c, .sl (x.lb.map Lb.row), .sl (x.ru.map Ru.row)]
def Cf.row (x : Cf) : List AV := [.sl (x.gs.map Gl.row), i6 x.r, i6 x.v, i6 x.i, i6 x.x, i6 x.y]
def distR {α : Type} [DecidableEq α] : List α → Nat
 | [] => 0
 | x :: r => distR r + if x ∈ r then 0 else 1
theorem distR_le {α : Type} [DecidableEq α] : ∀ l : List α, distR l ≤ l.length
 | [] => Nat.le_refl _
 | x :: r => by have := distR_le r; simp only [distR, List.length_cons]; split <;> omega
theorem distR_iff {α : Type} [DecidableEq α] : ∀ l : List α, distR l = l.length ↔ l.Nodup
 | [] => by simp [distR]
 | x :: r => by
  have h1 := distR_le r
  have h2 := distR_iff r
  simp only [distR, List.length_cons, List.nodup_cons]
  by_cases h : x ∈ r
  ·rw [if_pos h]
   constructor
   ·intro e; omega
   ·intro e; exact absurd h e.1
  ·rw [if_neg h, ← h2]
   constructor
   ·intro e; exact ⟨h, by omega⟩
   ·intro e; omega
def uniq (l : List (List UInt8)) : Bool := decide l.Nodup
theorem uniq_dist (l : List (List UInt8)) : (((distR l.reverse : Nat) : Int) == ((l.length : Nat) : Int)) = uniq l := by
 unfold uniq
 rw [Bool.eq_iff_iff]
 simp only [beq_iff_eq, decide_eq_true_eq]
 rw [show ((distR l.reverse : Nat) : Int) = ((l.length : Nat) : Int) ↔ distR l.reverse = l.reverse.length by rw [List.length_reverse]; omega, distR_iff]
 unfold List.Nodup
 rw [List.pairwise_reverse]
 constructor
 ·intro h; exact h.imp (fun h => Ne.symm h)
 ·intro h; exact h.imp (fun h => Ne.symm h)
def cntV (l : List (List UInt8 × Nat)) : List (MK × MK) := l.map fun p => (.s p.1, .i .i64 p.2)
def bump (l : List (List UInt8 × Nat)) (n : List UInt8) : List (List UInt8 × Nat) := match l with
 | [] => [(n, 1)]
 | (m, c) :: r => if n = m then (m, c + 1) :: r else (m, c) :: bump r n
theorem bump_len (n : List UInt8) : ∀ l, (bump l n).length = l.length + if n ∈ l.map Prod.fst then 0 else 1
 | [] => by simp [bump]
 | (m, c) :: r => by
  simp only [bump]
  split
  ·rename_i h; subst h; simp
  ·rename_i h
   simp only [List.length_cons, List.map_cons, List.mem_cons, bump_len n r]
   by_cases h2 : n ∈ r.map Prod.fst
   ·rw [if_pos h2, if_pos (.inr h2)]
   ·rw [if_neg h2, if_neg (fun e => e.elim h h2)]
theorem bump_mem (n x : List UInt8) : ∀ l, x ∈ (bump l n).map Prod.fst ↔ x = n ∨ x ∈ l.map Prod.fst
 | [] => by simp [bump]
 | (m, c) :: r => by
  simp only [bump]
  split
  ·rename_i h; subst h; simp
  ·rename_i h
   simp only [List.map_cons, List.mem_cons, bump_mem n x r]
   constructor
   ·rintro (h | h | h)
    ·exact .inr (.inl h)
    ·exact .inl h
    ·exact .inr (.inr h)
   ·rintro (h | h | h)
    ·exact .inr (.inl h)
    ·exact .inl h
    ·exact .inr (.inr h)
theorem bump_le (n : List UInt8) (N : Nat) : ∀ l, (∀ p ∈ l, p.2 ≤ N) → ∀ p ∈ bump l n, p.2 ≤ N + 1
 | [], _, p, hp => by simp only [bump, List.mem_singleton] at hp; subst hp; simp
 | (m, c) :: r, h, p, hp => by
  simp only [bump] at hp
  have h1 := h (m, c) (by simp)
  simp only at h1
  split at hp
  ·rcases List.mem_cons.1 hp with rfl | hp
   ·simp only; omega
   ·have := h p (by simp [hp]); omega
  ·rcases List.mem_cons.1 hp with rfl | hp
   ·simp only; omega
   ·exact bump_le n N r (fun q hq => h q (by simp [hq])) p hp
theorem cnt_find (n : List UInt8) : ∀ (l : List (List UInt8 × Nat)) (i : Nat),
  (mfind (.s n) (cntV l) i = some none ∧ cntV (bump l n) = cntV l ++ [(.s n, .i .i64 1)]) ∨ ∃ j c, (n, c) ∈ l ∧ mfind (.s n) (cntV l) i = some (some (i + j, .i .i64 (c : Nat))) ∧ mset (cntV l) j (.i .i64 ((c + 1 : Nat) : Int)) = cntV (bump l n)
 | [], i => .inl ⟨rfl, rfl⟩
 | (m, c) :: r, i => by
  have e : cntV ((m, c) :: r) = (.s m, .i .i64 c) :: cntV r := rfl
  rw [e]
  simp only [mfind, MK.same, bump]
  by_cases h : n = m
  ·subst h
   refine .inr ⟨0, c, by simp, ?_, ?_⟩
   ·simp
   ·rw [if_pos rfl]; rfl
  ·have hb : (n == m) = false := by simpa using h
   rw [hb, if_neg h]
   rcases cnt_find n r (i + 1) with ⟨h1, h2⟩ | ⟨j, c', h0, h1, h2⟩
   ·refine .inl ⟨by simp [h1], ?_⟩
    show (MK.s m, MK.i .i64 (c : Int)) :: cntV (bump r n) = _
    rw [h2]; rfl
   ·refine .inr ⟨j + 1, c', by simp [h0], ?_, ?_⟩
    ·simp only [h1]; rw [show i + 1 + j = i + (j + 1) by omega]
    ·show mset _ (j + 1) _ = (MK.s m, MK.i .i64 (c : Int)) :: cntV (bump r n)
     rw [← h2]; rfl
open Go.Proofs
structure Nms (M A : Id) (R B : Nat → Id) : Prop where
 mi : M.isIt = false
 ai : A.isIt = false
 ri : ∀ i, (R i).isIt = false
 bi : ∀ i, (B i).isIt = false
 rr : ∀ i j, R i = R j → i = j
 bb : ∀ i j, B i = B j → i = j
 rb : ∀ i j, R i ≠ B j
 mr : ∀ i, M ≠ R i
 mb : ∀ i, M ≠ B i
 ar : ∀ i, A ≠ R i
 ab : ∀ i, A ≠ B i
 ma : M ≠ A
 na : ∀ e, M.isNw e = A.isNw e
 nr : ∀ i e, M.isNw e = (R i).isNw e
 nb : ∀ i e, M.isNw e = (B i).isNw e
theorem Nms.up {M A : Id} {R B : Nat → Id} (h : Nms M A R B) : Nms (.up M) (.up A) (fun i => .up (R i)) (fun i => .up (B i)) :=
 ⟨h.mi, h.ai, h.ri, h.bi, fun i j e => h.rr i j (Id.up.inj e), fun i j e => h.bb i j (Id.up.inj e), fun i j e => h.rb i j (Id.up.inj e), fun i e => h.mr i (Id.up.inj e), fun i e => h.mb i (Id.up.inj e),
  fun i e => h.ar i (Id.up.inj e), fun i e => h.ab i (Id.up.inj e), fun e => h.ma (Id.up.inj e), fun _ => rfl, fun _ _ => rfl, fun _ _ => rfl⟩
theorem Nms.pr {M A : Id} {R B : Nat → Id} (h : Nms M A R B) (i : Nat) : Pr2 (R i) (B i) := ⟨h.ri i, h.bi i, h.rb i i, fun e => by rw [← h.nr, ← h.nb]⟩
theorem Nms.pa {M A : Id} {R B : Nat → Id} (h : Nms M A R B) : Pr2 M A := ⟨h.mi, h.ai, h.ma, h.na⟩
def rgsB (R B : Nat → Id) (C : Nat → Id → List AV) (D : Nat → List AV) (n : Nat) : List (Id × List AV) := (List.range n).flatMap fun i => [(R i, C i (B i)), (B i, D i)]
theorem rgsB_succ (R B : Nat → Id) (C : Nat → Id → List AV) (D : Nat → List AV) (n : Nat) : rgsB R B C D (n + 1) = rgsB R B C D n ++ [(R n, C n (B n)), (B n, D n)] := by
 unfold rgsB; rw [List.range_succ]; simp
theorem mem_rgsB {R B : Nat → Id} {C : Nat → Id → List AV} {D : Nat → List AV} {n : Nat} {p : Id × List AV} : p ∈ rgsB R B C D n ↔ ∃ i, i < n ∧ (p = (R i, C i (B i)) ∨ p = (B i, D i)) := by
 unfold rgsB; simp [List.mem_flatMap]
theorem rgsB_none {R B : Nat → Id} {C : Nat → Id → List AV} {D : Nat → List AV} {x : Id} (h1 : ∀ i, x ≠ R i) (h2 : ∀ i, x ≠ B i) : ∀ n, lkB (rgsB R B C D n) x = none
 | 0 => rfl
 | n + 1 => by
  rw [rgsB_succ, lkB_app, rgsB_none h1 h2 n]
  simp only [lkB]
  rw [if_neg (fun e => h1 n e.symm), if_neg (fun e => h2 n e.symm)]
theorem rgsB_R {M A : Id} {R B : Nat → Id} (h : Nms M A R B) {C : Nat → Id → List AV} {D : Nat → List AV} {i : Nat} : ∀ n, i < n → lkB (rgsB R B C D n) (R i) = some (C i (B i))
 | n + 1, hi => by
  rw [rgsB_succ, lkB_app]
  by_cases e : i = n
  ·subst e
   have : ∀ m, m ≤ i → lkB (rgsB R B C D m) (R i) = none := by
    intro m
    induction m with
    | zero => intro _; rfl
    | succ m ih =>
     intro hm
     rw [rgsB_succ, lkB_app, ih (by omega)]
     simp only [lkB]
     rw [if_neg (fun e => by have := h.rr _ _ e; omega), if_neg (fun e => h.rb _ _ e.symm)]
   rw [this i (Nat.le_refl _)]
   simp [lkB]
  ·rw [rgsB_R h n (by omega)]
theorem rgsB_B {M A : Id} {R B : Nat → Id} (h : Nms M A R B) {C : Nat → Id → List AV} {D : Nat → List AV} {i : Nat} : ∀ n, i < n → lkB (rgsB R B C D n) (B i) = some (D i)
 | n + 1, hi => by
  rw [rgsB_succ, lkB_app]
  by_cases e : i = n
  ·subst e
   have : ∀ m, m ≤ i → lkB (rgsB R B C D m) (B i) = none := by
    intro m
    induction m with
    | zero => intro _; rfl
    | succ m ih =>
     intro hm
     rw [rgsB_succ, lkB_app, ih (by omega)]
     simp only [lkB]
     rw [if_neg (fun e => h.rb _ _ e), if_neg (fun e => by have := h.bb _ _ e; omega)]
   rw [this i (Nat.le_refl _)]
   simp only [lkB]
   rw [if_neg (h.rb _ _)]
   simp
  ·rw [rgsB_B h n (by omega)]
theorem mem_rmB {x : Id} {p : Id × List AV} : ∀ {l : List (Id × List AV)}, p ∈ rmB l x → p ∈ l
 | (d, c) :: r, h => by
  simp only [rmB] at h
  split at h
  ·exact List.mem_cons_of_mem _ (mem_rmB h)
  ·rcases List.mem_cons.1 h with h | h
   ·rw [h]; exact List.mem_cons_self ..
   ·exact List.mem_cons_of_mem _ (mem_rmB h)
theorem rmB_app (x : Id) : ∀ (a b : List (Id × List AV)), rmB (a ++ b) x = rmB a x ++ rmB b x
 | [], b => rfl
 | (d, c) :: r, b => by
  simp only [List.cons_append, rmB]
  split
  ·exact rmB_app x r b
  ·rw [rmB_app x r b]; rfl
theorem rgsB_rm {R B : Nat → Id} {C : Nat → Id → List AV} {D : Nat → List AV} {x : Id} (h1 : ∀ i, x ≠ R i) (h2 : ∀ i, x ≠ B i) : ∀ n, rmB (rgsB R B C D n) x = rgsB R B C D n
 | 0 => rfl
 | n + 1 => by
  rw [rgsB_succ, rmB_app, rgsB_rm h1 h2 n]
  simp only [rmB]
  rw [if_neg (fun e => h1 n e.symm), if_neg (fun e => h2 n e.symm)]
theorem mpB_app (f : Id → Id) : ∀ (a b : List (Id × List AV)), mpB f (a ++ b) = mpB f a ++ mpB f b
 | [], b => rfl
 | (d, c) :: r, b => by simp only [List.cons_append, mpB, mpB_app f r b]
theorem mpB_rgs {f : Id → Id} {R B : Nat → Id} {C : Nat → Id → List AV} {D : Nat → List AV} (hC : ∀ i x, mpL f (C i x) = C i (f x)) (hD : ∀ i, mpL f (D i) = D i) : ∀ n, mpB f (rgsB R B C D n) = rgsB (fun i => f (R i)) (fun i => f (B i)) C D n
 | 0 => rfl
 | n + 1 => by rw [rgsB_succ, mpB_app, mpB_rgs hC hD n, rgsB_succ]; simp only [mpB, hC, hD]
def upto {α : Type} (k : Nat) (a b : Nat → α) (i : Nat) : α := if i < k then a i else b i
theorem upto_lt {α : Type} {k i : Nat} {a b : Nat → α} (h : i < k) : upto k a b i = a i := if_pos h
theorem upto_ge {α : Type} {k i : Nat} {a b : Nat → α} (h : k ≤ i) : upto k a b i = b i := if_neg (by omega)
theorem upto_zero {α : Type} {a b : Nat → α} : upto 0 a b = b := by funext i; exact upto_ge (Nat.zero_le _)
theorem rgsB_congr {R B : Nat → Id} {C C' : Nat → Id → List AV} {D D' : Nat → List AV} {n : Nat} (h : ∀ i, i < n → C i = C' i ∧ D i = D' i) : rgsB R B C D n = rgsB R B C' D' n := by
 induction n with
 | zero => rfl
 | succ n ih => rw [rgsB_succ, rgsB_succ, ih (fun i hi => h i (by omega)), (h n (by omega)).1, (h n (by omega)).2]
theorem rgsB_upto {R B : Nat → Id} {C C' : Nat → Id → List AV} {D D' : Nat → List AV} {n : Nat} : rgsB R B (upto n C' C) (upto n D' D) n = rgsB R B C' D' n := rgsB_congr fun i hi => ⟨upto_lt hi, upto_lt hi⟩
theorem rgs_step {M A : Id} {R B : Nat → Id} (h : Nms M A R B) {C C' : Nat → Id → List AV} {D D' : Nat → List AV} {k n : Nat} (hk : k < n) {bx : List (Id × List AV)}
  (hR : lkB bx (R k) = some (C' k (B k))) (hB : lkB bx (B k) = some (D' k)) (ho : ∀ i, i < n → i ≠ k → lkB bx (R i) = some (upto k C' C i (B i)) ∧ lkB bx (B i) = some (upto k D' D i)) :
  ∀ p ∈ rgsB R B (upto (k + 1) C' C) (upto (k + 1) D' D) n, wkB bx p.1 p.2 := by
 intro p hp
 obtain ⟨i, hi, e⟩ := mem_rgsB.1 hp
 by_cases hik : i = k
 ·subst hik
  rcases e with rfl | rfl
  ·simp only [wkB, hR, upto_lt (Nat.lt_succ_self i)]; exact wkL_rfl' _
  ·simp only [wkB, hB, upto_lt (Nat.lt_succ_self i)]; exact wkL_rfl' _
 ·have e1 : ∀ {α : Type} (a b : Nat → α), upto (k + 1) a b i = upto k a b i := fun a b => by unfold upto; by_cases g : i < k <;> simp [g] <;> omega
  obtain ⟨q1, q2⟩ := ho i hi hik
  rcases e with rfl | rfl
  ·simp only [wkB, q1, e1]; exact wkL_rfl' _
  ·simp only [wkB, q2, e1]; exact wkL_rfl' _
theorem rgs_call {M A : Id} {R B : Nat → Id} (h : Nms M A R B) {C : Nat → Id → List AV} {D : Nat → List AV} {k n : Nat} (hk : k < n) {c d mc ac : List AV} :
  let bx := (R k, c) :: (B k, d) :: (M, mc) :: (A, ac) :: rmB (rmB (rgsB R B C D n) (R k)) (B k)
  lkB bx (R k) = some c ∧ lkB bx (B k) = some d ∧ ∀ i, i < n → i ≠ k → lkB bx (R i) = some (C i (B i)) ∧ lkB bx (B i) = some (D i) := by
 intro bx
 refine ⟨by simp [bx, lkB], ?_, fun i hi hne => ?_⟩
 ·simp only [bx, lkB]
  rw [if_neg (h.rb _ _)]; simp
 ·constructor
  ·simp only [bx, lkB]
   rw [if_neg (fun e => hne (h.rr _ _ e).symm), if_neg (fun e => h.rb _ _ e.symm), if_neg (h.mr _), if_neg (h.ar _), lkB_rmB, if_neg (fun e => h.rb _ _ e.symm), lkB_rmB, if_neg (fun e => hne (h.rr _ _ e).symm)]
   exact rgsB_R h n hi
  ·simp only [bx, lkB]
   rw [if_neg (h.rb _ _), if_neg (fun e => hne (h.bb _ _ e).symm), if_neg (h.mb _), if_neg (h.ab _), lkB_rmB, if_neg (fun e => hne (h.bb _ _ e).symm), lkB_rmB, if_neg (h.rb _ _)]
   exact rgsB_B h n hi
def ptrC (R : Nat → Id) (n : Nat) : List AV := (List.range n).map fun i => .ptr (R i) 0
theorem ptrC_len (R : Nat → Id) (n : Nat) : (ptrC R n).length = n := by simp [ptrC]
theorem ptrC_at {R : Nat → Id} {n i : Nat} (h : i < n) : (ptrC R n)[i]? = some (.ptr (R i) 0) := by simp [ptrC, h]
theorem ptrC_mp (f : Id → Id) (R : Nat → Id) : ∀ n, mpL f (ptrC R n) = ptrC (fun i => f (R i)) n := by
 intro n
 have app : ∀ a b : List AV, mpL f (a ++ b) = mpL f a ++ mpL f b := by
  intro a b
  induction a with
  | nil => rfl
  | cons x r ih => simp only [List.cons_append, mpL, ih]
 have succ : ∀ (R : Nat → Id) n, ptrC R (n + 1) = ptrC R n ++ [.ptr (R n) 0] := fun R n => by unfold ptrC; rw [List.range_succ]; simp
 induction n with
 | zero => rfl
 | succ n ih => rw [succ, app, ih, succ]; rfl
theorem ptrC_ids {R : Nat → Id} {n : Nat} {x : Id} (h : x ∈ idsL (ptrC R n)) : ∃ i, i < n ∧ x = R i := by
 have app : ∀ a b : List AV, idsL (a ++ b) = idsL a ++ idsL b := by
  intro a b
  induction a with
  | nil => rfl
  | cons y r ih => simp only [List.cons_append, idsL, ih, List.append_assoc]
 have succ : ∀ n, ptrC R (n + 1) = ptrC R n ++ [.ptr (R n) 0] := fun n => by unfold ptrC; rw [List.range_succ]; simp
 induction n with
 | zero => simp [ptrC, idsL] at h
 | succ n ih =>
  rw [succ, app] at h
  rcases List.mem_append.1 h with h | h
  ·obtain ⟨i, h1, h2⟩ := ih h; exact ⟨i, by omega, h2⟩
  ·simp [idsL, AV.ids] at h; exact ⟨n, by omega, h⟩
def mtC (x : Gl) (A : Id) (n : Nat) (W : List (List AV)) (fr to cg ct t : Nat) (sd : Bool) : List AV :=
 [.str x.n, .int .u32 x.t, i6 x.g, i6 x.a, i6 x.o, i6 x.c, .sl (x.lb.map Lb.row), .sl (x.ru.map Ru.row), .sl W, .ms A 0 n 1, i6 fr, i6 to, u cg, u ct, i6 t, .bool sd]
theorem mtC_mp (f : Id → Id) (x : Gl) (A : Id) (n : Nat) (W : List (List AV)) (fr to cg ct t : Nat) (sd : Bool) : mpL f (mtC x A n W fr to cg ct t sd) = mtC x (f A) n W fr to cg ct t sd := rfl
end Go.Ai
namespace Go.Ai
def leapN (y : Nat) : Bool := decide (y % 4 = 0) && !decide (y % 100 = 0) || decide (y % 400 = 0)
def dimN (y m : Nat) : Nat := if m < 1 ∨ 12 < m then 0 else if m = 2 then (if leapN y = true then 29 else 28) else 30 + (m + m / 8) % 2
def diyN (y : Nat) : Nat := if leapN y = true then 366 else 365
def aheadN (y m : Nat) : Nat := if m < 3 then 365 * (y - 1) + (y - 1) / 4 - (y - 1) / 100 + (y - 1) / 400 + (153 * (m + 9) + 2) / 5 else 365 * y + y / 4 - y / 100 + y / 400 + (153 * (m - 3) + 2) / 5
theorem leapN_iff (y : Nat) : leapN y = true ↔ (y % 4 = 0 ∧ y % 100 ≠ 0) ∨ y % 400 = 0 := by simp [leapN]
theorem year4 (y : Nat) : ∃ u v t s, y = 400 * u + 100 * v + 4 * t + s ∧ v < 4 ∧ t < 25 ∧ s < 4 ∧ y / 4 = 100 * u + 25 * v + t ∧ y / 100 = 4 * u + v ∧ y / 400 = u :=
 ⟨y / 400, y % 400 / 100, y % 100 / 4, y % 4, by omega, by omega, by omega, by omega, by omega, by omega, rfl⟩
theorem leap4 {y u v t s : Nat} (h : y = 400 * u + 100 * v + 4 * t + s) (hv : v < 4) (ht : t < 25) (hs : s < 4) : leapN y = true ↔ s = 0 ∧ (t ≠ 0 ∨ v = 0) := by
 rw [leapN_iff]
 have e1 : y % 4 = s := by omega
 have e2 : y % 100 = 4 * t + s := by omega
 have e3 : y % 400 = 100 * v + 4 * t + s := by omega
 rw [e1, e2, e3]
 omega
theorem sub1_4 {y u v t s : Nat} (hy : 1 ≤ y) (h : y = 400 * u + 100 * v + 4 * t + s) (hv : v < 4) (ht : t < 25) (hs : s < 4) :
  (y - 1) / 4 = (if s = 0 then 100 * u + 25 * v + t - 1 else 100 * u + 25 * v + t) ∧ (y - 1) / 100 = (if s = 0 ∧ t = 0 then 4 * u + v - 1 else 4 * u + v) ∧ (y - 1) / 400 = (if s = 0 ∧ t = 0 ∧ v = 0 then u - 1 else u) := by
 refine ⟨?_, ?_, ?_⟩ <;> split <;> omega
theorem ahead_feb (y : Nat) (hy : 1 ≤ y) : 365 * y + y / 4 - y / 100 + y / 400 = 365 * (y - 1) + (y - 1) / 4 - (y - 1) / 100 + (y - 1) / 400 + diyN y := by
 obtain ⟨u, v, t, s, h, hv, ht, hs, d1, d2, d3⟩ := year4 y
 obtain ⟨e1, e2, e3⟩ := sub1_4 hy h hv ht hs
 have hl := leap4 h hv ht hs
 rw [d1, d2, d3, e1, e2, e3]
 unfold diyN
 by_cases c1 : s = 0
 ·subst c1
  by_cases c2 : t = 0
  ·subst c2
   by_cases c3 : v = 0
   ·subst c3
    have : leapN y = true := hl.2 ⟨rfl, .inr rfl⟩
    simp [this]; omega
   ·have : leapN y = false := by
     cases hb : leapN y
     ·rfl
     ·have := hl.1 hb; omega
    simp [this, c3]; omega
  ·have : leapN y = true := hl.2 ⟨rfl, .inl c2⟩
   simp [this, c2]; omega
 ·have : leapN y = false := by
   cases hb : leapN y
   ·rfl
   ·have := hl.1 hb; omega
  simp [this, c1]; omega
theorem ahead_month (y m : Nat) (hy : 1 ≤ y) (h1 : 1 ≤ m) (h2 : m ≤ 11) : aheadN y (m + 1) = aheadN y m + dimN y m := by
 have hm : m = 1 ∨ m = 2 ∨ m = 3 ∨ m = 4 ∨ m = 5 ∨ m = 6 ∨ m = 7 ∨ m = 8 ∨ m = 9 ∨ m = 10 ∨ m = 11 := by omega
 by_cases h3 : m = 2
 ·subst h3
  have hf := ahead_feb y hy
  unfold aheadN dimN
  unfold diyN at hf
  simp only [show ¬ 2 + 1 < 3 by omega, show (2 : Nat) < 3 by omega, if_true, if_false, show ¬ ((2 : Nat) < 1 ∨ 12 < 2) by omega, hf]
  cases h : leapN y <;> simp <;> omega
 ·unfold aheadN dimN
  generalize 365 * y + y / 4 - y / 100 + y / 400 = A
  generalize 365 * (y - 1) + (y - 1) / 4 - (y - 1) / 100 + (y - 1) / 400 = B
  rcases hm with rfl | rfl | rfl | rfl | rfl | rfl | rfl | rfl | rfl | rfl | rfl <;> first
   | (exact absurd rfl h3)
   | (simp; done)
   | (simp; omega)
theorem ahead_dec (y : Nat) : aheadN (y + 1) 1 = aheadN y 12 + 31 := by
 unfold aheadN
 simp
theorem ahead_year (y : Nat) (hy : 1 ≤ y) : aheadN (y + 1) 1 = aheadN y 1 + diyN y := by
 have hf := ahead_feb y hy
 unfold aheadN
 simp only [show (1 : Nat) < 3 by omega, if_true, Nat.add_sub_cancel]
 rw [hf]
 omega
theorem epochN : aheadN 1970 1 = 719468 := by decide
def cenN (n : Nat) : Nat := (4 * n + 3) / 146097
def restN (n : Nat) : Nat := n - 146097 * cenN n / 4
def yrN (n : Nat) : Nat := (4 * restN n + 3) / 1461
def rest2N (n : Nat) : Nat := restN n - 1461 * yrN n / 4
def moN (n : Nat) : Nat := (5 * rest2N n + 2) / 153
def yearN (n : Nat) : Nat := if 9 < moN n then 100 * cenN n + yrN n + 1 else 100 * cenN n + yrN n
def monthN (n : Nat) : Nat := if 9 < moN n then moN n - 9 else moN n + 3
theorem rest_le (n : Nat) : 146097 * cenN n / 4 ≤ n ∧ restN n ≤ 36524 ∧ (restN n = 36524 → cenN n % 4 = 3) := by
 unfold restN
 have h : cenN n = (4 * n + 3) / 146097 := rfl
 generalize cenN n = c at *
 refine ⟨?_, ?_, ?_⟩ <;> omega
theorem yr_le (n : Nat) : yrN n ≤ 99 ∧ 1461 * yrN n / 4 ≤ restN n ∧ rest2N n ≤ 365 ∧ (rest2N n = 365 → yrN n % 4 = 3 ∧ (yrN n = 99 → cenN n % 4 = 3)) := by
 obtain ⟨h1, h2, h3⟩ := rest_le n
 unfold rest2N
 have h : yrN n = (4 * restN n + 3) / 1461 := rfl
 generalize restN n = r at *
 generalize yrN n = y at *
 generalize cenN n = c at *
 refine ⟨by omega, by omega, by omega, fun h5 => ⟨by omega, fun h6 => h3 ?_⟩⟩
 omega
theorem mo_le (n : Nat) : moN n ≤ 11 := by
 have := (yr_le n).2.2.1
 unfold moN; omega
theorem cy4 (c y : Nat) (hy : y ≤ 99) : ∃ q v p s, c = 4 * q + v ∧ v < 4 ∧ y = 4 * p + s ∧ s < 4 ∧ p < 25 ∧ 146097 * c / 4 = 36524 * c + q ∧ 1461 * y / 4 = 365 * y + p ∧ (100 * c + y) / 4 = 25 * c + p ∧ (100 * c + y) / 100 = c ∧ (100 * c + y) / 400 = q := by
 refine ⟨c / 4, c % 4, y / 4, y % 4, by omega, by omega, by omega, by omega, by omega, by omega, by omega, by omega, by omega, by omega⟩
theorem ahead_in (n : Nat) (h0 : 1 ≤ 100 * cenN n + yrN n) : 1 ≤ monthN n ∧ monthN n ≤ 12 ∧ aheadN (yearN n) (monthN n) ≤ n ∧ n < aheadN (yearN n) (monthN n) + dimN (yearN n) (monthN n) := by
 obtain ⟨a1, a2, a3⟩ := rest_le n
 obtain ⟨b1, b2, b3, b4⟩ := yr_le n
 have m1 := mo_le n
 have hr : restN n = n - 146097 * cenN n / 4 := rfl
 have hr2 : rest2N n = restN n - 1461 * yrN n / 4 := rfl
 have hm : moN n = (5 * rest2N n + 2) / 153 := rfl
 obtain ⟨q, v, p, s, k1, k2, k3, k4, k5, e1, e2, e3, e4, e5⟩ := cy4 (cenN n) (yrN n) b1
 rw [e1] at a1 hr
 rw [e2] at b2 hr2
 have hn : n = 365 * (100 * cenN n + yrN n) + (25 * cenN n + p) - cenN n + q + rest2N n := by omega
 have hlp : rest2N n = 365 → leapN (100 * cenN n + yrN n + 1) = true := by
  intro h5
  obtain ⟨q1, q2⟩ := b4 h5
  rw [leapN_iff]
  by_cases h9 : yrN n = 99
  ·have := q2 h9
   right; omega
  ·left; omega
 unfold yearN monthN aheadN dimN
 clear hr hr2 e1 e2 a1 a2 a3 b2 b4
 generalize moN n = m at *
 generalize rest2N n = r2 at *
 generalize restN n = r at *
 generalize yrN n = y at *
 generalize cenN n = c at *
 by_cases g : 9 < m
 ·rw [if_pos g, if_pos g]
  have hmm : m = 10 ∨ m = 11 := by omega
  rcases hmm with rfl | rfl
  ·simp only [show (10 : Nat) - 9 = 1 by omega, show (1 : Nat) < 3 by omega, if_true, Nat.add_sub_cancel, e3, e4, e5]
   simp
   omega
  ·simp only [show 11 - 9 = 2 by omega, show (2 : Nat) < 3 by omega, if_true, show ¬ ((2 : Nat) < 1 ∨ 12 < 2) by omega, if_false, Nat.add_sub_cancel, e3, e4, e5]
   cases hl : leapN (100 * c + y + 1)
   ·have : r2 ≠ 365 := by
     intro h5
     rw [hlp h5] at hl; cases hl
    simp
    omega
   ·simp
    omega
 ·rw [if_neg g, if_neg g]
  have hmm : m = 0 ∨ m = 1 ∨ m = 2 ∨ m = 3 ∨ m = 4 ∨ m = 5 ∨ m = 6 ∨ m = 7 ∨ m = 8 ∨ m = 9 := by omega
  rw [e3, e4, e5]
  rcases hmm with rfl | rfl | rfl | rfl | rfl | rfl | rfl | rfl | rfl | rfl <;> simp <;> omega
end Go.Ai
namespace Go.Ai
def startK (k : Nat) : Nat := aheadN (k / 12) (k % 12 + 1)
def dimK (k : Nat) : Nat := dimN (k / 12) (k % 12 + 1)
theorem dimN_ge (y m : Nat) (h1 : 1 ≤ m) (h2 : m ≤ 12) : 28 ≤ dimN y m ∧ dimN y m ≤ 31 := by
 unfold dimN
 rw [if_neg (by omega)]
 split
 ·split <;> omega
 ·omega
theorem dim_dec (y : Nat) : dimN y 12 = 31 := by simp [dimN]
theorem startK_next (k : Nat) (h : 12 ≤ k) : startK (k + 1) = startK k + dimK k := by
 unfold startK dimK
 by_cases h1 : k % 12 = 11
 ·rw [show (k + 1) / 12 = k / 12 + 1 by omega, show (k + 1) % 12 = 0 by omega, h1]
  have := ahead_dec (k / 12)
  rw [show (11 : Nat) + 1 = 12 from rfl, dim_dec]
  exact this
 ·rw [show (k + 1) / 12 = k / 12 by omega, show (k + 1) % 12 = k % 12 + 1 by omega]
  exact ahead_month _ _ (by omega) (by omega) (by omega)
theorem startK_le (k : Nat) (h : 12 ≤ k) : ∀ d, startK k + 28 * d ≤ startK (k + d)
 | 0 => by simp
 | d + 1 => by
  have i1 := startK_le k h d
  have i2 := startK_next (k + d) (by omega)
  have i3 := dimN_ge ((k + d) / 12) ((k + d) % 12 + 1) (by omega) (by omega)
  have i4 : dimK (k + d) = dimN ((k + d) / 12) ((k + d) % 12 + 1) := rfl
  rw [show k + (d + 1) = k + d + 1 by omega]
  omega
theorem startK_uniq {j k n : Nat} (hj : 12 ≤ j) (hk : 12 ≤ k) (j1 : startK j ≤ n) (j2 : n < startK j + dimK j) (k1 : startK k ≤ n) (k2 : n < startK k + dimK k) : j = k := by
 rw [← startK_next j hj] at j2
 rw [← startK_next k hk] at k2
 rcases Nat.lt_trichotomy j k with h | h | h
 ·have := startK_le (j + 1) (by omega) (k - (j + 1))
  rw [show j + 1 + (k - (j + 1)) = k by omega] at this
  omega
 ·exact h
 ·have := startK_le (k + 1) (by omega) (j - (k + 1))
  rw [show k + 1 + (j - (k + 1)) = j by omega] at this
  omega
theorem startK_at {y m : Nat} (h1 : 1 ≤ m) (h2 : m ≤ 12) : startK (12 * y + (m - 1)) = aheadN y m ∧ dimK (12 * y + (m - 1)) = dimN y m := by
 unfold startK dimK
 rw [show (12 * y + (m - 1)) / 12 = y by omega, show (12 * y + (m - 1)) % 12 + 1 = m by omega]
 exact ⟨rfl, rfl⟩
theorem month_uniq {y m y' m' n : Nat} (hy : 1 ≤ y) (h1 : 1 ≤ m) (h2 : m ≤ 12) (hy' : 1 ≤ y') (h1' : 1 ≤ m') (h2' : m' ≤ 12)
  (a1 : aheadN y m ≤ n) (a2 : n < aheadN y m + dimN y m) (b1 : aheadN y' m' ≤ n) (b2 : n < aheadN y' m' + dimN y' m') : y = y' ∧ m = m' := by
 have e := startK_at (y := y) h1 h2
 have e' := startK_at (y := y') h1' h2'
 have := startK_uniq (j := 12 * y + (m - 1)) (k := 12 * y' + (m' - 1)) (n := n) (by omega) (by omega) (by rw [e.1]; exact a1) (by rw [e.1, e.2]; exact a2) (by rw [e'.1]; exact b1) (by rw [e'.1, e'.2]; exact b2)
 constructor <;> omega
theorem ahead_le_year (y : Nat) (hy : 1 ≤ y) (m : Nat) (h1 : 1 ≤ m) (h2 : m ≤ 12) : aheadN y 1 ≤ aheadN y m ∧ aheadN y m + 28 ≤ aheadN (y + 1) 1 := by
 have e := startK_at (y := y) h1 h2
 have e1 := startK_at (y := y) (m := 1) (by omega) (by omega)
 have e2 := startK_at (y := y + 1) (m := 1) (by omega) (by omega)
 have i1 := startK_le (12 * y) (by omega) (m - 1)
 have i2 := startK_le (12 * y + (m - 1)) (by omega) (12 - (m - 1))
 rw [show 12 * y + (m - 1) + (12 - (m - 1)) = 12 * (y + 1) + (1 - 1) by omega] at i2
 simp only [Nat.sub_self, Nat.add_zero] at e1 e2 i2
 rw [e.1] at i1 i2
 rw [e1.1] at i1
 rw [e2.1] at i2
 omega
theorem ahead_years1 (y : Nat) (hy : 1 ≤ y) : aheadN y 1 + 336 ≤ aheadN (y + 1) 1 := by
 have i3 := ahead_year y hy
 have i4 : 336 ≤ diyN y := by unfold diyN; split <;> omega
 rw [i3]
 exact Nat.add_le_add_left i4 _
theorem ahead_years (y : Nat) (hy : 1 ≤ y) (d : Nat) : aheadN y 1 + 336 * d ≤ aheadN (y + d) 1 := by
 induction d with
 | zero => exact Nat.le_refl _
 | succ d ih =>
  have i3 := ahead_years1 (y + d) (Nat.le_trans hy (Nat.le_add_right _ _))
  have e : 336 * (d + 1) = 336 * d + 336 := Nat.mul_succ 336 d
  have e2 : y + (d + 1) = y + d + 1 := (Nat.add_assoc y d 1).symm
  rw [e, e2, ← Nat.add_assoc (aheadN y 1)]
  exact Nat.le_trans (Nat.add_le_add_right ih 336) i3
open Go.Proofs
theorem tdivL {x y : Int} {a b : Nat} (hx : x = a) (hy : y = b) : x.tdiv y = ((a / b : Nat) : Int) := by subst hx hy; exact (Int.ofNat_tdiv a b).symm
theorem tmodL {x y : Int} {a b : Nat} (hx : x = a) (hy : y = b) : x.tmod y = ((a % b : Nat) : Int) := by subst hx hy; exact (Int.ofNat_tmod a b).symm
theorem wr {x : Int} (h1 : -4000000000000000000 ≤ x) (h2 : x ≤ 4000000000000000000) : IntKind.i64.wrap x = x := by rw [wrap_i64] <;> omega
theorem ahead_lt {y m : Nat} (hy : y ≤ 20000) (h1 : 1 ≤ m) (h2 : m ≤ 12) : aheadN y m ≤ 10000000 := by
 unfold aheadN; split <;> omega
theorem cahead_spec (y m : Nat) (hy1 : 1 ≤ y) (hy : y ≤ 20000) (h1 : 1 ≤ m) (h2 : m ≤ 12) : Sp Tryz.prog gl 220 [.agg [i6 y, i6 m, i6 1]] (i6 (aheadN y m)) := by
 refine s220 rfl rfl ?_
 have run : ∀ (Y p : Nat), Y ≤ 20000 → p ≤ 20 →
   IntKind.i64.wrap (IntKind.i64.wrap (IntKind.i64.wrap (IntKind.i64.wrap (IntKind.i64.wrap (IntKind.i64.wrap (IntKind.i64.wrap (365 * (Y : Int)) + IntKind.i64.wrap ((Y : Int).tdiv 4)) - IntKind.i64.wrap ((Y : Int).tdiv 100)) + IntKind.i64.wrap ((Y : Int).tdiv 400)) +
    IntKind.i64.wrap ((IntKind.i64.wrap (IntKind.i64.wrap (153 * (p : Int)) + 2)).tdiv 5)) + 1) - 1) = ((365 * Y + Y / 4 - Y / 100 + Y / 400 + (153 * p + 2) / 5 : Nat) : Int) := by
  intro Y p hY hp
  rw [tdivL (x := (Y : Int)) (y := 4) (a := Y) (b := 4) rfl rfl, tdivL (x := (Y : Int)) (y := 100) (a := Y) (b := 100) rfl rfl, tdivL (x := (Y : Int)) (y := 400) (a := Y) (b := 400) rfl rfl]
  rw [wr (x := 153 * (p : Int)) (by omega) (by omega), wr (x := 153 * (p : Int) + 2) (by omega) (by omega), tdivL (x := 153 * (p : Int) + 2) (y := 5) (a := 153 * p + 2) (b := 5) (by omega) rfl]
  have h4 : Y / 100 ≤ 365 * Y := by omega
  generalize h5 : Y / 4 = Y4 at *
  generalize h6 : Y / 100 = Y1 at *
  generalize h7 : Y / 400 = Y0 at *
  generalize h8 : (153 * p + 2) / 5 = pp at *
  have l4 : Y4 ≤ 20000 := by omega
  have l1 : Y1 ≤ 20000 := by omega
  have l0 : Y0 ≤ 20000 := by omega
  have lp : pp ≤ 1000 := by omega
  rw [wr (x := 365 * (Y : Int)) (by omega) (by omega), wr (x := (Y4 : Int)) (by omega) (by omega), wr (x := (Y1 : Int)) (by omega) (by omega), wr (x := (Y0 : Int)) (by omega) (by omega), wr (x := (pp : Int)) (by omega) (by omega)]
  rw [wr (x := 365 * (Y : Int) + Y4) (by omega) (by omega), wr (x := 365 * (Y : Int) + Y4 - Y1) (by omega) (by omega), wr (x := 365 * (Y : Int) + Y4 - Y1 + Y0) (by omega) (by omega), wr (x := 365 * (Y : Int) + Y4 - Y1 + Y0 + pp) (by omega) (by omega)]
  rw [wr (x := 365 * (Y : Int) + Y4 - Y1 + Y0 + pp + 1) (by omega) (by omega), wr (by omega) (by omega)]
  omega
 have t1 : IntKind.i64.wrap ((m : Int) - 3) = (m : Int) - 3 := wr (by omega) (by omega)
 by_cases g : m < 3
 ·have R := run (y - 1) (m + 9) (by omega) (by omega)
  have e : aheadN y m = 365 * (y - 1) + (y - 1) / 4 - (y - 1) / 100 + (y - 1) / 400 + (153 * (m + 9) + 2) / 5 := by unfold aheadN; rw [if_pos g]
  rw [e, ← R]
  have g' : (m : Int) - 3 < 0 := by omega
  have t2 : IntKind.i64.wrap ((y : Int) - 1) = (y - 1 : Nat) := by rw [wr] <;> omega
  have t3 : IntKind.i64.wrap ((m : Int) - 3 + 12) = (m + 9 : Nat) := by rw [wr] <;> omega
  clear R run e
  generalize ((y - 1 : Nat) : Int) = Y at *
  generalize ((m + 9 : Nat) : Int) = p at *
  simp -implicitDefEqProofs [c220]
  simp only [t1]
  simp -implicitDefEqProofs [g']
  simp only [t1, t2, t3]
 ·have R := run y (m - 3) (by omega) (by omega)
  have e : aheadN y m = 365 * y + y / 4 - y / 100 + y / 400 + (153 * (m - 3) + 2) / 5 := by unfold aheadN; rw [if_neg g]
  rw [e, ← R]
  have g' : ¬ ((m : Int) - 3 < 0) := by omega
  have t3 : (m : Int) - 3 = (m - 3 : Nat) := by omega
  clear R run e
  rw [t3] at t1 g'
  simp -implicitDefEqProofs [c220]
  rw [t3]
  simp only [t1]
  simp -implicitDefEqProofs [g']
open Go.Proofs
theorem epoch_spec : Sp Tryz.prog gl 219 [] (i6 719468) := by
 refine s219 rfl rfl ?_
 have A := cahead_spec 1970 1 (by omega) (by omega) (by omega) (by omega)
 rw [epochN] at A
 simp -implicitDefEqProofs [c219]
 refine onC_mk _ A ?_
 simp -implicitDefEqProofs
def stN (y m : Nat) : Nat := if 12 < m then aheadN (y + 1) (m - 12) else aheadN y m
theorem ahead_ge {y m : Nat} (hy : 1970 ≤ y) (h1 : 1 ≤ m) (h2 : m ≤ 12) : 719468 ≤ aheadN y m := by
 have e1 := ahead_years 1970 (by omega) (y - 1970)
 rw [epochN, show 1970 + (y - 1970) = y by omega] at e1
 have e2 := (ahead_le_year y (by omega) m h1 h2).1
 exact Nat.le_trans (Nat.le_trans (Nat.le_add_right _ _) e1) e2
theorem stN_ge {y m : Nat} (hy : 1970 ≤ y) (h1 : 1 ≤ m) (h2 : m ≤ 15) : 719468 ≤ stN y m := by
 unfold stN
 split
 ·exact ahead_ge (by omega) (by omega) (by omega)
 ·exact ahead_ge hy h1 (by omega)
theorem stN_lt {y m : Nat} (hy : y ≤ 19999) (h1 : 1 ≤ m) (h2 : m ≤ 15) : stN y m ≤ 10000000 := by
 unfold stN
 split
 ·exact ahead_lt (by omega) (by omega) (by omega)
 ·exact ahead_lt (by omega) h1 (by omega)
theorem start_spec (y m : Nat) (hy1 : 1970 ≤ y) (hy : y ≤ 19999) (h1 : 1 ≤ m) (h2 : m ≤ 15) : Sp Tryz.prog gl 209 [i6 y, i6 m] (i6 (86400 * (stN y m - 719468) : Nat)) := by
 refine s209 rfl rfl ?_
 have E := epoch_spec
 have ge := stN_ge hy1 h1 h2
 have lt := stN_lt hy h1 h2
 have w1 : IntKind.i64.wrap ((stN y m : Int) - 719468) = (stN y m : Int) - 719468 := wr (by omega) (by omega)
 have w2 : IntKind.i64.wrap (((stN y m : Int) - 719468) * 86400) = (86400 * (stN y m - 719468) : Nat) := by rw [wr] <;> omega
 by_cases g : 12 < m
 ·have g' : (12 : Int) < m := by omega
  have A := cahead_spec (y + 1) (m - 12) (by omega) (by omega) (by omega) (by omega)
  have e : stN y m = aheadN (y + 1) (m - 12) := by unfold stN; rw [if_pos g]
  rw [← e] at A
  have t1 : IntKind.i64.wrap ((y : Int) + 1) = (y + 1 : Nat) := by rw [wr] <;> omega
  have t2 : IntKind.i64.wrap ((m : Int) - 12) = (m - 12 : Nat) := by rw [wr] <;> omega
  clear e
  generalize ((86400 * (stN y m - 719468) : Nat) : Int) = V at *
  generalize ((stN y m : Nat) : Int) = S at *
  generalize ((y + 1 : Nat) : Int) = Y at *
  generalize ((m - 12 : Nat) : Int) = M at *
  simp -implicitDefEqProofs [c209, g, g']
  simp only [t1, t2]
  refine onC_mk _ A ?_
  simp -implicitDefEqProofs
  refine onC_mk _ E ?_
  simp -implicitDefEqProofs
  simp only [w1, w2]
 ·have g' : ¬ (12 : Int) < m := by omega
  have A := cahead_spec y m (by omega) (by omega) h1 (by omega)
  have e : stN y m = aheadN y m := by unfold stN; rw [if_neg g]
  rw [← e] at A
  clear e
  generalize ((86400 * (stN y m - 719468) : Nat) : Int) = V at *
  generalize ((stN y m : Nat) : Int) = S at *
  simp -implicitDefEqProofs [c209, g, g']
  refine onC_mk _ A ?_
  simp -implicitDefEqProofs
  refine onC_mk _ E ?_
  simp -implicitDefEqProofs
  simp only [w1, w2]
def dayN (n : Nat) : Nat := rest2N n + 1 - (153 * moN n + 2) / 5
theorem cat_spec (t : Nat) (ht : t ≤ 253402300799) : Sp Tryz.prog gl 208 [i6 t] (.tup [.agg [i6 (yearN (t / 86400 + 719468)), i6 (monthN (t / 86400 + 719468)), i6 (dayN (t / 86400 + 719468))], i6 0]) := by
 refine s208 rfl rfl ?_
 obtain ⟨z,hz,E⟩ : ∃ z : Int,z=719468∧Sp Tryz.prog gl 219 [] (i6 z) := ⟨_,rfl,epoch_spec⟩
 have c1 : ¬ ((253402300799 : Int) < t) := by omega
 have c1' : ¬ (253402300799 < t) := by omega
 have c0 : ¬ ((t : Int) < 0) := by omega
 have e1 := tdivL (x := (t : Int)) (y := 86400) (a := t) (b := 86400) rfl rfl
 have f1 : (t : Int) / 86400 = (t / 86400 : Nat) := by omega
 have Tl : t / 86400 ≤ 2932896 := by omega
 generalize t / 86400 = T at *
 have w1 : IntKind.i64.wrap (T : Int) = T := wr (by omega) (by omega)
 have w2 : IntKind.i64.wrap ((T : Int) + z) = (T + 719468 : Nat) := by rw [wr] <;> omega
 generalize hn : T + 719468 = n at *
 have nl : n ≤ 3652364 := by omega
 have hc : cenN n = (4 * n + 3) / 146097 := rfl
 have hr : restN n = n - 146097 * cenN n / 4 := rfl
 have hy : yrN n = (4 * restN n + 3) / 1461 := rfl
 have hr2 : rest2N n = restN n - 1461 * yrN n / 4 := rfl
 have hm : moN n = (5 * rest2N n + 2) / 153 := rfl
 have hd : dayN n = rest2N n + 1 - (153 * moN n + 2) / 5 := rfl
 have hY : yearN n = if 9 < moN n then 100 * cenN n + yrN n + 1 else 100 * cenN n + yrN n := rfl
 have hM : monthN n = if 9 < moN n then moN n - 9 else moN n + 3 := rfl
 have r1 := rest_le n
 have r2 := yr_le n
 have r3 := mo_le n
 generalize cenN n = c at *
 generalize restN n = r at *
 generalize yrN n = y at *
 generalize rest2N n = q at *
 generalize moN n = m at *
 generalize dayN n = D at *
 generalize yearN n = Y at *
 generalize monthN n = M at *
 have cl : c ≤ 100 := by omega
 have yl : y ≤ 99 := by omega
 have k1 : 146097 * c / 4 ≤ n := r1.1
 have k2 : 1461 * y / 4 ≤ r := r2.2.1
 have k3 : (153 * m + 2) / 5 ≤ q := by omega
 have w3 : IntKind.i64.wrap (4 * (n : Int)) = 4 * (n : Int) := wr (by omega) (by omega)
 have w4 : IntKind.i64.wrap (4 * (n : Int) + 3) = 4 * (n : Int) + 3 := wr (by omega) (by omega)
 have e2 : (4 * (n : Int) + 3).tdiv 146097 = (c : Int) := (tdivL (x := 4 * (n : Int) + 3) (y := 146097) (a := 4 * n + 3) (b := 146097) (by omega) rfl).trans (by rw [← hc])
 have w5 : IntKind.i64.wrap (c : Int) = c := wr (by omega) (by omega)
 have w6 : IntKind.i64.wrap (146097 * (c : Int)) = 146097 * (c : Int) := wr (by omega) (by omega)
 have e3 : (146097 * (c : Int)).tdiv 4 = (146097 * c / 4 : Nat) := tdivL (x := 146097 * (c : Int)) (y := 4) (a := 146097 * c) (b := 4) (by omega) rfl
 have w7 : IntKind.i64.wrap ((146097 * c / 4 : Nat) : Int) = (146097 * c / 4 : Nat) := wr (by omega) (by omega)
 have w8 : IntKind.i64.wrap ((n : Int) - (146097 * c / 4 : Nat)) = (r : Int) := by rw [wr] <;> omega
 have w9 : IntKind.i64.wrap (4 * (r : Int)) = 4 * (r : Int) := wr (by omega) (by omega)
 have w10 : IntKind.i64.wrap (4 * (r : Int) + 3) = 4 * (r : Int) + 3 := wr (by omega) (by omega)
 have e4 : (4 * (r : Int) + 3).tdiv 1461 = (y : Int) := (tdivL (x := 4 * (r : Int) + 3) (y := 1461) (a := 4 * r + 3) (b := 1461) (by omega) rfl).trans (by rw [← hy])
 have w11 : IntKind.i64.wrap (y : Int) = y := wr (by omega) (by omega)
 have w12 : IntKind.i64.wrap (1461 * (y : Int)) = 1461 * (y : Int) := wr (by omega) (by omega)
 have e5 : (1461 * (y : Int)).tdiv 4 = (1461 * y / 4 : Nat) := tdivL (x := 1461 * (y : Int)) (y := 4) (a := 1461 * y) (b := 4) (by omega) rfl
 have w13 : IntKind.i64.wrap ((1461 * y / 4 : Nat) : Int) = (1461 * y / 4 : Nat) := wr (by omega) (by omega)
 have w14 : IntKind.i64.wrap ((r : Int) - (1461 * y / 4 : Nat)) = (q : Int) := by rw [wr] <;> omega
 have w15 : IntKind.i64.wrap (5 * (q : Int)) = 5 * (q : Int) := wr (by omega) (by omega)
 have w16 : IntKind.i64.wrap (5 * (q : Int) + 2) = 5 * (q : Int) + 2 := wr (by omega) (by omega)
 have e6 : (5 * (q : Int) + 2).tdiv 153 = (m : Int) := (tdivL (x := 5 * (q : Int) + 2) (y := 153) (a := 5 * q + 2) (b := 153) (by omega) rfl).trans (by rw [← hm])
 have w17 : IntKind.i64.wrap (m : Int) = m := wr (by omega) (by omega)
 have w18 : IntKind.i64.wrap (100 * (c : Int)) = 100 * (c : Int) := wr (by omega) (by omega)
 have w19 : IntKind.i64.wrap (100 * (c : Int) + y) = 100 * (c : Int) + y := wr (by omega) (by omega)
 have w20 : IntKind.i64.wrap ((m : Int) + 3) = (m : Int) + 3 := wr (by omega) (by omega)
 have w21 : IntKind.i64.wrap (153 * (m : Int)) = 153 * (m : Int) := wr (by omega) (by omega)
 have w22 : IntKind.i64.wrap (153 * (m : Int) + 2) = 153 * (m : Int) + 2 := wr (by omega) (by omega)
 have e7 : (153 * (m : Int) + 2).tdiv 5 = ((153 * m + 2) / 5 : Nat) := tdivL (x := 153 * (m : Int) + 2) (y := 5) (a := 153 * m + 2) (b := 5) (by omega) rfl
 have w23 : IntKind.i64.wrap (((153 * m + 2) / 5 : Nat) : Int) = ((153 * m + 2) / 5 : Nat) := wr (by omega) (by omega)
 have w24 : IntKind.i64.wrap ((q : Int) - ((153 * m + 2) / 5 : Nat)) = (q : Int) - ((153 * m + 2) / 5 : Nat) := wr (by omega) (by omega)
 have w25 : IntKind.i64.wrap ((q : Int) - ((153 * m + 2) / 5 : Nat) + 1) = (D : Int) := by rw [wr] <;> omega
 clear hc hr hy hr2 hm hd r1 r2 k1 k2 k3
 generalize ((146097 * c / 4 : Nat) : Int) = x1 at *
 generalize ((1461 * y / 4 : Nat) : Int) = x2 at *
 generalize (((153 * m + 2) / 5 : Nat) : Int) = x3 at *
 simp -implicitDefEqProofs [c208, c0, c1, c1']
 try simp only [e1, w1]
 try simp only [f1, w1]
 refine onC_mk _ E ?_
 simp -implicitDefEqProofs
 simp only [w2, w3, w4, e2, w5, w6, e3, w7, w8, w9, w10, e4, w11, w12, e5, w13, w14, w15, w16, e6, w17, w18, w19, w20, w21, w22, e7, w23, w24, w25]
 by_cases g : 9 < m
 ·have g' : (12 : Int) < (m : Int) + 3 := by omega
  rw [if_pos g] at hY hM
  have w26 : IntKind.i64.wrap (100 * (c : Int) + y + 1) = (Y : Int) := by rw [wr] <;> omega
  have w27 : IntKind.i64.wrap ((m : Int) + 3 - 12) = (M : Int) := by rw [wr] <;> omega
  clear hY hM
  generalize (m : Int) + 3 = m3 at *
  generalize 100 * (c : Int) + (y : Int) = cy at *
  simp -implicitDefEqProofs [g']
  simp only [w26, w27]
  trivial
 ·have g' : ¬ (12 : Int) < (m : Int) + 3 := by omega
  rw [if_neg g] at hY hM
  have hY' : 100 * (c : Int) + (y : Int) = (Y : Int) := by omega
  have hM' : (m : Int) + 3 = (M : Int) := by omega
  clear hY hM
  generalize (m : Int) + 3 = m3 at *
  generalize 100 * (c : Int) + (y : Int) = cy at *
  subst hY' hM'
  simp -implicitDefEqProofs [g']
end Go.Ai
