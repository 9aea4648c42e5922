/- P16: a part of the proof: the rules, or what functions compute. Conditions: as each theorem says. -/
import Derived.Test.YtidcomakahbepaaGreatDoorP15
import Derived.Test.YtidcomakahbepaaGreatDoorP14
set_option linter.unusedSimpArgs false
set_option linter.unusedVariables false
set_option maxRecDepth 20000
namespace Go.Ai
open Go.Proofs
open Go.Proofs
theorem lk_pre {pre l : List (Id × List AV)} (hu : ∀ p ∈ l, lkB l p.1 = some p.2) (hp : ∀ p ∈ pre, lkB l p.1 = none) : ∀ p ∈ l, lkB (pre ++ l) p.1 = some p.2 := fun p h => by
 have := lk_mid (suf := []) hu hp p h
 rwa [List.append_nil] at this
open Go.Proofs
end Go.Ai
namespace Go.Ai
open Go.Proofs
open Go.Proofs
end Go.Ai
namespace Go.Ai
open Go.Proofs
def lM (d : Nat) : Id := .nw d (.n 16)
def lA (d : Nat) : Id := .nw d (.n 40)
def lR (d : Nat) (i : Nat) : Id := .nw d (R0 i)
def lB (d : Nat) (i : Nat) : Id := .nw d (B0 i)
theorem nmL (d k : Nat) : NmX (lM d) (lA d) (lR d) (lB d) (.n k) := by
 refine ⟨nms0 d, rfl, ?_, ?_, fun i => ?_, fun i => ?_, fun e _ => rfl⟩
 ·intro e; simp [lM] at e
 ·intro e; simp [lA] at e
 ·intro e; simp [lR] at e
 ·intro e; simp [lB] at e
theorem lm_nw (d : Nat) (x : Gl) (n : Nat) (W : List (List AV)) (K w : Nat → Nat) (s : Mt) : ∀ (a : Id) (b : List AV), (a, b) ∈ mtB (lM d) (lA d) (lR d) (lB d) x n W K w s.t s.L s.sd → a.isIt = false ∧ ∀ t, a.isNw t = (d == t) := by
 intro a b hp
 unfold mtB at hp
 rcases List.mem_cons.1 hp with e | hp
 ·cases e; exact ⟨rfl, fun s => by simp [lM, Id.isNw, Id.isUp]⟩
 ·rcases List.mem_cons.1 hp with e | hp
  ·cases e; exact ⟨rfl, fun s => by simp [lA, Id.isNw, Id.isUp]⟩
  ·obtain ⟨i, _, e | e⟩ := mem_rgsB.1 hp
   ·cases e; exact ⟨rfl, fun s => by simp [lR, R0, Id.isNw, Id.isUp]⟩
   ·cases e; exact ⟨rfl, fun s => by simp [lB, B0, Id.isNw, Id.isUp]⟩
theorem lx_nw (d k : Nat) (x : Gl) (n : Nat) (Wl : List Int) (K w : Nat → Nat) (s : Mt) : ∀ (a : Id) (b : List AV), (a, b) ∈ mxB (lM d) (lA d) (lR d) (lB d) (.n k) x n Wl K w s → a.isIt = false ∧ ∀ t, t ≠ d → a.isNw t = false := by
 intro a b hp
 unfold mxB at hp
 rcases List.mem_cons.1 hp with e | hp
 ·cases e; exact ⟨rfl, fun _ _ => rfl⟩
 ·obtain ⟨h1, h2⟩ := lm_nw d x n _ K w s a b hp
  exact ⟨h1, fun t ht => by rw [h2, beq_eq_false_iff_ne]; exact fun e => ht e.symm⟩
theorem lm_n (d : Nat) (x : Gl) (n : Nat) (W : List (List AV)) (K w : Nat → Nat) (s : Mt) (j : Nat) : lkB (mtB (lM d) (lA d) (lR d) (lB d) x n W K w s.t s.L s.sd) (.n j) = none :=
 mt_n x n _ K w _ _ _ _ (by simp [lM]) (by simp [lA]) (fun i => by simp [lR]) (fun i => by simp [lB])
theorem lx_n (d k : Nat) (x : Gl) (n : Nat) (Wl : List Int) (K w : Nat → Nat) (s : Mt) (j : Nat) (hj : j ≠ k) : lkB (mxB (lM d) (lA d) (lR d) (lB d) (.n k) x n Wl K w s) (.n j) = none := by
 unfold mxB
 simp only [lkB]
 rw [if_neg (fun e => hj (by injection e with e; exact e.symm))]
 exact lm_n d x n _ K w s j
end Go.Ai
