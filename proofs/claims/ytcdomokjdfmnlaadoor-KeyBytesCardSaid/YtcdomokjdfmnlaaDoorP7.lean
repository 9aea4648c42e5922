/- YtcdomokjdfmnlaaDoorP7: part of the abstract interpreter library (values, rules, soundness against the model) or of what a function of the seat computes. Conditions: as each theorem says. -/
import Derived.Test.YtcdomokjdfmnlaaDoorP6
import Derived.Test.YtcdomokjdfmnlaaDoorP2
import Derived.Lib.Bytealg
import Derived.Test.YtcdomokjdfmnlaaDoorCode
import Derived.Test.YtcdomokjdfmnlaaDoorAiShelf2
import Derived.Shelf.Lays
import Derived.Shelf.LaysM
import Derived.Shelf.Strings.BuilderX
import Derived.Test.YtcdomokjdfmnlaaDoorP1
import Derived.Test.YtcdomokjdfmnlaaDoorAiShelf
set_option linter.unusedSimpArgs false
set_option linter.unusedVariables false
namespace Go.Ai
open Go.Proofs Go.RowKit
structure Gt where
  N : Nat
  S : List UInt8
  F : Bool
def Gt.row (g : Gt) : List AV := [u g.N, i6 0, .str g.S, .bool g.F]
def stepT (k : Nat) (B : List UInt8) (a : Nat) : Option (Gt × Nat) :=
  if k = 3 then (match B.drop a with | [] => none | b :: _ => if b.toNat < 2 then some (⟨0, [], b == 1⟩, a + 1) else none)
  else match gotN B a with
    | some (n, nx) => if k = 0 then some (⟨n, [], false⟩, nx) else if n ≤ 96 ∧ n ≤ B.length - nx then some (⟨0, (B.drop nx).take n, false⟩, nx + n) else none
    | none => none
theorem gotN_le {B : List UInt8} {a n nx : Nat} (h : gotN B a = some (n, nx)) : nx ≤ B.length := by
  unfold gotN at h
  split at h
  · cases h
  · rename_i k r e
    split at h
    · rename_i hc
      have hl := congrArg List.length e
      rw [List.length_drop, List.length_cons] at hl
      simp only [Option.some.injEq, Prod.mk.injEq] at h
      omega
    · cases h
def mmK (k : Nat) : Int := if k = 2 then 96 else 0
theorem rgetS (k : Nat) (hk : k = 0 ∨ k = 2 ∨ k = 3) (B : List UInt8) (a : Nat) (hB : B.length ≤ 1000000) (ha : a ≤ 1000000) :
    ∃ r x ok, Sp Tryd.prog gl 53 [.sl (byteRows B), i6 a, .agg [i6 k, i6 (mmK k)]] (.tup [.agg r, i6 x, .bool ok]) ∧ r.length = 4 ∧ idsL r = [] ∧
      ((ok = false ∧ stepT k B a = none) ∨ (ok = true ∧ ∃ g nx, stepT k B a = some (g, nx) ∧ r = g.row ∧ x = (nx : Nat) ∧ nx ≤ B.length)) := by
  rcases hk with rfl | rfl | rfl
  · have S := rget_num true B a hB ha
    unfold stepT gotR kindR at *
    rw [if_neg (by decide)]
    cases h : gotN B a with
    | none =>
      rw [h] at S
      exact ⟨gz, 0, false, S, rfl, rfl, .inl ⟨rfl, rfl⟩⟩
    | some p =>
      obtain ⟨n, nx⟩ := p
      rw [h] at S
      exact ⟨_, _, true, S, rfl, rfl, .inr ⟨rfl, ⟨n, [], false⟩, nx, rfl, rfl, rfl, gotN_le h⟩⟩
  · have S := rget_num false B a hB ha
    unfold stepT gotR kindR at *
    rw [if_neg (by decide)]
    cases h : gotN B a with
    | none =>
      rw [h] at S
      exact ⟨gz, 0, false, S, rfl, rfl, .inl ⟨rfl, rfl⟩⟩
    | some p =>
      obtain ⟨n, nx⟩ := p
      rw [h] at S
      have hle := gotN_le h
      simp only [Bool.false_eq_true, if_false] at S
      unfold textR at S
      by_cases g : n ≤ 96 ∧ n ≤ B.length - nx
      · rw [if_pos g] at S
        refine ⟨_, _, true, S, rfl, rfl, .inr ⟨rfl, ⟨0, (B.drop nx).take n, false⟩, nx + n, ?_, rfl, rfl, by omega⟩⟩
        simp only
        rw [if_neg (by decide), if_pos g]
      · rw [if_neg g] at S
        refine ⟨gz, 0, false, S, rfl, rfl, .inl ⟨rfl, ?_⟩⟩
        simp only
        rw [if_neg (by decide), if_neg g]
  · have S := rget_flag B a hB ha
    unfold stepT flagR at *
    rw [if_pos rfl]
    cases h : B.drop a with
    | nil =>
      rw [h] at S
      exact ⟨gz, 0, false, S, rfl, rfl, .inl ⟨rfl, rfl⟩⟩
    | cons b r =>
      rw [h] at S
      have hl := congrArg List.length h
      rw [List.length_drop, List.length_cons] at hl
      simp only at S ⊢
      by_cases g : b.toNat < 2
      · rw [decide_eq_true g] at S
        rw [if_pos g]
        exact ⟨_, _, true, S, rfl, rfl, .inr ⟨rfl, ⟨0, [], b == 1⟩, a + 1, rfl, rfl, rfl, by omega⟩⟩
      · rw [decide_eq_false g] at S
        rw [if_neg g]
        exact ⟨_, _, false, S, rfl, rfl, .inl ⟨rfl, rfl⟩⟩
theorem stepT_len {k : Nat} {B : List UInt8} {a nx : Nat} {g : Gt} (h : stepT k B a = some (g, nx)) : g.S.length ≤ B.length := by
  unfold stepT at h
  split at h
  · split at h
    · cases h
    · split at h
      · simp only [Option.some.injEq, Prod.mk.injEq] at h; rw [← h.1]; exact Nat.zero_le _
      · cases h
  · split at h
    · split at h
      · simp only [Option.some.injEq, Prod.mk.injEq] at h; rw [← h.1]; exact Nat.zero_le _
      · split at h
        · simp only [Option.some.injEq, Prod.mk.injEq] at h; rw [← h.1]; simp; omega
        · cases h
    · cases h
theorem kinds_at (i : Nat) (h : i < 5) : ∃ k : Nat, (k = 0 ∨ k = 2 ∨ k = 3) ∧ ([2, 2, 3, 0, 3] : List Nat).drop i = k :: ([2, 2, 3, 0, 3] : List Nat).drop (i + 1) ∧ ∀ h2, ([[i6 2, i6 96], [i6 2, i6 96], [i6 3, i6 0], [i6 0, i6 0], [i6 3, i6 0]] : List (List AV))[i]'h2 = [i6 k, i6 (mmK k)] := by
  match i, h with
  | 0, _ => exact ⟨2, by simp, rfl, fun _ => rfl⟩
  | 1, _ => exact ⟨2, by simp, rfl, fun _ => rfl⟩
  | 2, _ => exact ⟨3, by simp, rfl, fun _ => rfl⟩
  | 3, _ => exact ⟨0, by simp, rfl, fun _ => rfl⟩
  | 4, _ => exact ⟨3, by simp, rfl, fun _ => rfl⟩
def failR : AV := .tup [.agg kz.row, i6 0, .bool false]
def finR (acc : List Gt) (a : Nat) : AV := match acc with
  | [x0, x1, x2, x3, x4] => .tup [.agg (Ky.row ⟨x0.S, x1.S, x2.F, x3.N, x4.F⟩), i6 a, .bool (rightK ⟨x0.S, x1.S, x2.F, x3.N, x4.F⟩)]
  | _ => failR
def goG (B : List UInt8) : List Nat → Nat → List Gt → AV
  | [], a, acc => finR acc a
  | k :: ks, a, acc => match stepT k B a with
    | some (g, nx) => goG B ks nx (acc ++ [g])
    | none => failR
def kindsL : List Nat := [2, 2, 3, 0, 3]
def gtRows (l : List Gt) : List (List AV) := l.map Gt.row
theorem gtRows_app (l : List Gt) (g : Gt) : gtRows (l ++ [g]) = gtRows l ++ [g.row] := by simp [gtRows]
theorem gtRows_one (l : List Gt) : ∀ r ∈ gtRows l, r.length = 4 := by
  intro r hr; simp only [gtRows, List.mem_map] at hr; obtain ⟨g, _, rfl⟩ := hr; rfl
theorem gtRows_len (l : List Gt) : (gtRows l).length = l.length := by simp [gtRows]
def kdRows : List (List AV) := [[i6 2, i6 96], [i6 2, i6 96], [i6 3, i6 0], [i6 0, i6 0], [i6 3, i6 0]]
set_option maxRecDepth 20000 in
theorem rget25_tail (x0 x1 x2 x3 x4 : Gt) (a : Nat) (h0 : x0.S.length ≤ 900000) (h1 : x1.S.length ≤ 900000) (e : List (Nat × AV)) (pm : List (Pl × Nat)) (l1 : lk e 1 = i6 a) (l4 : lk e 4 = .ptr (.n 4) 0)
    (l8 : lk e 8 = .sl [x0.row, x1.row, x2.row, x3.row, x4.row]) :
    wpA (SpH Tryd.prog gl) (AC.tl 4 c17) (postA [.ca 4 5, .t 5, .t 6] (finR [x0, x1, x2, x3, x4] a)) ⟨e, [(.n 4, [.str [], .str [], .bool false, u 0, .bool false])], pm⟩ := by
  simp only [c17, AC.tl]
  have Q := rkright_spec ⟨x0.S, x1.S, x2.F, x3.N, x4.F⟩ h0 h1
  simp only [finR]
  generalize rightK ⟨x0.S, x1.S, x2.F, x3.N, x4.F⟩ = rt at *
  rw [krow] at Q ⊢
  simp only at Q ⊢
  unfold Gt.row at l8
  simp -implicitDefEqProofs [l1, l4, l8]
  refine onC_mk _ Q ?_
  simp -implicitDefEqProofs [l1, l4, l8]
set_option maxRecDepth 20000 in
theorem rget25_spec (B : List UInt8) (hB : B.length ≤ 900000) : Sp Tryd.prog gl 17 [.sl (byteRows B), i6 0] (goG B kindsL 0 []) := by
  refine s17 rfl rfl ?_
  have T := fun x0 x1 x2 x3 x4 a => rget25_tail x0 x1 x2 x3 x4 a
  have hlim : lim = 140737488355328 := rfl
  have G := fun k hk a ha => rgetS k hk B a (by omega) ha
  have ec : c17 = AC.cutAt 4 (AC.tl 4 c17) c17 := rfl
  rw [ec]
  generalize AC.tl 4 c17 = t at T ⊢
  simp only [c17, AC.cutAt]
  obtain ⟨R, hR⟩ : ∃ R, R = goG B kindsL 0 [] := ⟨_, rfl⟩
  rw [← hR]
  have kat := kinds_at
  have e5 : ([[i6 2, i6 96], [i6 2, i6 96], [i6 3, i6 0], [i6 0, i6 0], [i6 3, i6 0]] : List (List AV)) = kdRows := rfl
  rw [e5] at kat
  have kdl : kdRows.length = 5 := rfl
  generalize byteRows B = BR at *
  simp -implicitDefEqProofs
  rw [e5]
  generalize kdRows = KD at *
  refine wp_lpk (α := Nat × Nat × List Gt) (fun x => ⟨[(0, .sl BR), (1, i6 x.2.1), (4, .ptr (.n 4) 0), (5, i6 0), (6, .bool false), (7, .sl KD), (8, .sl (gtRows x.2.2)), (9, i6 x.1)], [(.n 4, [.str [], .str [], .bool false, u 0, .bool false])], [(.s 8, 4)]⟩)
    (fun x => x.1 ≤ 5 ∧ x.2.1 ≤ 900000 ∧ x.2.2.length = x.1 ∧ goG B ([2, 2, 3, 0, 3].drop x.1) x.2.1 x.2.2 = R ∧ ∀ g ∈ x.2.2, g.S.length ≤ 900000) (fun x => 5 - x.1) ?_ (0, 0, []) ?_ ?_
  · rintro K ⟨i, a, acc⟩ hK ⟨h1, h2, h3, h4, h5⟩
    simp only at h1 h2 h3 h4 h5
    by_cases g : i < 5
    · have g' : (i : Int) < 5 := by omega
      obtain ⟨k, hk, hd, hat⟩ := kat i g
      obtain ⟨r, x, ok, S, rl, rid, hcase⟩ := G k hk a (by omega)
      rw [hd] at h4
      simp only [goG] at h4
      have hat2 : ∀ h2, KD[i]'h2 = [i6 k, i6 (mmK k)] := hat
      have gk : i < KD.length := by omega
      generalize mmK k = mk at *
      rcases hcase with ⟨rfl, hs⟩ | ⟨rfl, gg, nx, hs, rfl, rfl, hnx⟩
      · rw [hs] at h4
        simp only [failR] at h4
        subst h4
        obtain ⟨r0, r1, r2, r3, rfl⟩ : ∃ r0 r1 r2 r3, r = [r0, r1, r2, r3] := by
          match r, rl with
          | [a, b, c, d], _ => exact ⟨a, b, c, d, rfl⟩
        clear hK hat hd T
        rw [show kz.row = [.str [], .str [], .bool false, u 0, .bool false] from rfl]
        simp -implicitDefEqProofs [g, g', gk, kdl, hat2]
        refine onC_mk _ S ?_
        simp -implicitDefEqProofs
      · rw [hs] at h4
        simp only at h4
        have hl := stepT_len hs
        have fin : ∀ σ', Weak σ' ⟨[(0, .sl BR), (1, i6 nx), (4, .ptr (.n 4) 0), (5, i6 0), (6, .bool false), (7, .sl KD), (8, .sl (gtRows (acc ++ [gg]))), (9, i6 (i + 1 : Nat))], [(.n 4, [.str [], .str [], .bool false, u 0, .bool false])], [(.s 8, 4)]⟩ → K σ' :=
          fun σ' hσ => hK (i + 1, nx, acc ++ [gg]) σ' ⟨by simp only; omega, by simp only; omega, by simp [h3], h4, fun g hg => by
            rcases List.mem_append.1 hg with hg | hg
            · exact h5 g hg
            · simp at hg; subst hg; omega⟩ (by simp only; omega) hσ
        have t1 : IntKind.i64.wrap ((i : Int) + 1) = (i + 1 : Nat) := by rw [wrap_i64] <;> omega
        have one := gtRows_one acc
        have rl2 := gtRows_len acc
        have q1 : (acc.length + 1) * 40 ≤ 140737488355328 := by omega
        rw [gtRows_app] at fin
        generalize gtRows acc = RR at *
        unfold Gt.row at S fin
        clear hK hat hd T h4
        simp -implicitDefEqProofs [g, g', gk, kdl, hat2]
        refine onC_mk _ S ?_
        simp -implicitDefEqProofs [hlim, rl2, q1]
        refine ⟨one, fin _ (weak_mk ?_ ?_ ?_ ?_ ?_ ?_)⟩ <;> simp -implicitDefEqProofs [t1]
    · obtain rfl : i = 5 := by omega
      simp only [goG, List.drop] at h4
      subst h4
      obtain ⟨x0, x1, x2, x3, x4, rfl⟩ : ∃ x0 x1 x2 x3 x4, acc = [x0, x1, x2, x3, x4] := by
        match acc, h3 with
        | [a, b, c, d, e], _ => exact ⟨a, b, c, d, e, rfl⟩
      have T' := T x0 x1 x2 x3 x4 a (h5 x0 (by simp)) (h5 x1 (by simp))
      clear T hK G
      simp only [gtRows, List.map_cons, List.map_nil]
      simp -implicitDefEqProofs
      refine T' _ _ ?_ ?_ ?_ <;> simp -implicitDefEqProofs
  · exact ⟨by simp, by simp, rfl, hR.symm, by simp⟩
  · refine weak_mk ?_ ?_ ?_ ?_ ?_ ?_ <;> simp -implicitDefEqProofs [gtRows]
end Go.Ai
set_option linter.unusedSimpArgs false
set_option linter.unusedVariables false
namespace Go.Ai
open Go.Proofs
/-! ### One order, no program in sight -/
abbrev cmpB : List UInt8 → List UInt8 → Int := Lib.compareBytes
theorem cmpB_cons (a b : UInt8) (x y : List UInt8) : cmpB (a :: x) (b :: y) = if a < b then -1 else if b < a then 1 else cmpB x y := rfl
theorem u8_lt {a b : UInt8} : a < b ↔ a.toNat < b.toNat := UInt8.lt_iff_toNat_lt
theorem u8_eq {a b : UInt8} : a = b ↔ a.toNat = b.toNat := ⟨fun h => by rw [h], fun h => UInt8.toNat_inj.1 h⟩
theorem cmpB_zero : ∀ (a b : List UInt8), cmpB a b = 0 ↔ a = b
  | [], [] => by simp [cmpB, Lib.compareBytes]
  | [], _ :: _ => by simp [cmpB, Lib.compareBytes]
  | _ :: _, [] => by simp [cmpB, Lib.compareBytes]
  | a :: x, b :: y => by
    rw [cmpB_cons]
    simp only [List.cons.injEq, u8_lt, u8_eq]
    split
    · constructor
      · intro h; omega
      · intro h; omega
    · split
      · constructor
        · intro h; omega
        · intro h; omega
      · rw [cmpB_zero x y]
        constructor
        · intro h; exact ⟨by omega, h⟩
        · exact fun h => h.2
theorem cmpB_anti : ∀ (a b : List UInt8), cmpB b a = -cmpB a b
  | [], [] => rfl
  | [], _ :: _ => rfl
  | _ :: _, [] => rfl
  | a :: x, b :: y => by
    rw [cmpB_cons, cmpB_cons, cmpB_anti x y]
    simp only [u8_lt]
    by_cases h1 : a.toNat < b.toNat
    · rw [if_pos h1, if_neg (by omega), if_pos h1]; rfl
    · by_cases h2 : b.toNat < a.toNat
      · rw [if_pos h2, if_neg h1, if_pos h2]
      · rw [if_neg h2, if_neg h1, if_neg h1, if_neg h2]
theorem cmpB_less : ∀ (a b : List UInt8), Op.bytesLess a b = decide (cmpB a b < 0)
  | [], [] => rfl
  | [], _ :: _ => rfl
  | _ :: _, [] => rfl
  | a :: x, b :: y => by
    rw [cmpB_cons]
    simp only [Op.bytesLess, cmpB_less x y]
    by_cases h1 : a < b
    · simp [h1]
    · by_cases h2 : b < a
      · have h3 : (a == b) = false := by
          rw [beq_eq_false_iff_ne]; intro e; rw [e] at h2; exact UInt8.lt_irrefl b h2
        simp [h1, h2, h3]
      · have h3 : a = b := by
          rw [u8_lt] at h1 h2
          exact u8_eq.2 (by omega)
        subst h3
        simp [h1]
theorem cmpB_trans : ∀ (a b c : List UInt8), cmpB a b < 0 → cmpB b c < 0 → cmpB a c < 0
  | [], [], c, h, _ => by simp [cmpB, Lib.compareBytes] at h
  | [], _ :: _, [], _, h => by simp [cmpB, Lib.compareBytes] at h
  | [], _ :: _, _ :: _, _, _ => by simp [cmpB, Lib.compareBytes]
  | _ :: _, [], c, h, _ => by simp [cmpB, Lib.compareBytes] at h
  | _ :: _, _ :: _, [], _, h => by simp [cmpB, Lib.compareBytes] at h
  | a :: x, b :: y, c :: z, h1, h2 => by
    rw [cmpB_cons] at h1 h2 ⊢
    simp only [u8_lt] at h1 h2 ⊢
    split at h1
    · split at h2
      · rw [if_pos (by omega)]; omega
      · split at h2
        · omega
        · rw [if_pos (by omega)]; omega
    · split at h1
      · omega
      · split at h2
        · rw [if_pos (by omega)]; omega
        · split at h2
          · omega
          · rw [if_neg (by omega), if_neg (by omega)]; exact cmpB_trans x y z h1 h2
def fl (b : Bool) : Int := if b = true then 1 else 0
def cmpU (a b : Nat) : Int := if a < b then -1 else if b < a then 1 else 0
/-- The first that is not 0. -/
def orI : List Int → Int
  | [] => 0
  | x :: r => if x ≠ 0 then x else orI r
def cmpsK (a b : Ky) : List Int := [cmpB a.g b.g, cmpB a.r b.r, fl b.p - fl a.p, cmpU a.e b.e, fl a.f - fl b.f]
def cmpK (a b : Ky) : Int := orI (cmpsK a b)
def lessK (a b : Ky) : Bool := decide (cmpK a b < 0)
theorem cmpN_zero (a b : Nat) : cmpU a b = 0 ↔ a = b := by unfold cmpU; split; · omega
                                                           · split <;> omega
theorem fl_sub (a b : Bool) : fl b - fl a = 0 ↔ a = b := by cases a <;> cases b <;> decide
theorem cmpN_anti (a b : Nat) : cmpU b a = -cmpU a b := by
  unfold cmpU
  by_cases h1 : a < b
  · rw [if_pos h1, if_neg (by omega), if_pos h1]; rfl
  · by_cases h2 : b < a
    · rw [if_pos h2, if_neg h1, if_pos h2]
    · rw [if_neg h2, if_neg h1, if_neg h1, if_neg h2]; rfl
theorem orI_neg : ∀ (l : List Int), orI (l.map fun x => -x) = -orI l
  | [] => rfl
  | x :: r => by
    simp only [List.map_cons, orI]
    by_cases h : x = 0
    · subst h; simp [orI_neg r]
    · rw [if_pos (by omega), if_pos h]
theorem cmpK_anti (a b : Ky) : cmpK b a = -cmpK a b := by
  unfold cmpK
  rw [← orI_neg]
  congr 1
  simp only [cmpsK, List.map_cons, List.map_nil]
  rw [cmpB_anti a.g b.g, cmpB_anti a.r b.r, cmpN_anti a.e b.e]
  congr 3
  · omega
  · congr 2; omega
theorem orI_zero : ∀ (l : List Int), orI l = 0 ↔ ∀ x ∈ l, x = 0
  | [] => by simp [orI]
  | x :: r => by
    simp only [orI, List.mem_cons, forall_eq_or_imp]
    split
    · rename_i h; constructor
      · intro h2; exact absurd h2 h
      · intro h2; exact h2.1
    · rename_i h
      rw [orI_zero r]
      constructor
      · intro h2; exact ⟨by omega, h2⟩
      · exact fun h2 => h2.2
theorem cmpK_zero (a b : Ky) : cmpK a b = 0 ↔ a = b := by
  unfold cmpK
  rw [orI_zero]
  simp only [cmpsK, List.mem_cons, List.not_mem_nil, or_false, forall_eq_or_imp, forall_eq]
  obtain ⟨g, r, p, e, f⟩ := a
  obtain ⟨g', r', p', e', f'⟩ := b
  simp only [Ky.mk.injEq]
  rw [cmpB_zero, cmpB_zero, fl_sub, cmpN_zero, fl_sub]
  constructor
  · rintro ⟨h1, h2, h3, h4, h5⟩; exact ⟨h1, h2, h3, h4, h5.symm⟩
  · rintro ⟨h1, h2, h3, h4, h5⟩; exact ⟨h1, h2, h3, h4, h5.symm⟩
/-- One place after the other: what is ahead of one that is ahead is ahead. -/
theorem orI_trans : ∀ (x y z : List Int), x.length = y.length → y.length = z.length →
    (∀ (i : Nat) (a b c : Int), x[i]? = some a → y[i]? = some b → z[i]? = some c → (a < 0 → b < 0 → c < 0) ∧ (a = 0 → c = b) ∧ (b = 0 → c = a)) → orI x < 0 → orI y < 0 → orI z < 0
  | [], _, _, _, _, _, h, _ => by simp [orI] at h
  | _ :: _, [], _, h, _, _, _, _ => by simp at h
  | _ :: _, _ :: _, [], _, h, _, _, _ => by simp at h
  | a :: x, b :: y, c :: z, h1, h2, h3, h4, h5 => by
    obtain ⟨p1, p2, p3⟩ := h3 0 a b c rfl rfl rfl
    have ih := orI_trans x y z (by simpa using h1) (by simpa using h2) (fun i a b c g1 g2 g3 => h3 (i + 1) a b c (by simpa using g1) (by simpa using g2) (by simpa using g3))
    simp only [orI] at h4 h5 ⊢
    by_cases ha : a = 0
    · have hc := p2 ha
      rw [if_neg (by omega)] at h4
      by_cases hb : b = 0
      · rw [if_neg (by omega)] at h5
        rw [if_neg (by omega)]; exact ih h4 h5
      · rw [if_pos hb] at h5
        rw [if_pos (by omega)]; omega
    · rw [if_pos ha] at h4
      by_cases hb : b = 0
      · have hc := p3 hb
        rw [if_pos (by omega)]; omega
      · rw [if_pos hb] at h5
        have := p1 h4 h5
        rw [if_pos (by omega)]; exact this
theorem lessK_trans (a b c : Ky) (h1 : lessK a b = true) (h2 : lessK b c = true) : lessK a c = true := by
  unfold lessK at *
  rw [decide_eq_true_eq] at *
  refine orI_trans (cmpsK a b) (cmpsK b c) (cmpsK a c) rfl rfl ?_ h1 h2
  intro i x y z hx hy hz
  have flt : ∀ p q r : Bool, (fl q - fl p < 0 → fl r - fl q < 0 → fl r - fl p < 0) ∧ (fl q - fl p = 0 → fl r - fl p = fl r - fl q) ∧ (fl r - fl q = 0 → fl r - fl p = fl q - fl p) := by
    intro p q r; cases p <;> cases q <;> cases r <;> decide
  have cbt : ∀ p q r : List UInt8, (cmpB p q < 0 → cmpB q r < 0 → cmpB p r < 0) ∧ (cmpB p q = 0 → cmpB p r = cmpB q r) ∧ (cmpB q r = 0 → cmpB p r = cmpB p q) := by
    intro p q r
    refine ⟨cmpB_trans p q r, fun h => ?_, fun h => ?_⟩
    · rw [(cmpB_zero p q).1 h]
    · rw [(cmpB_zero q r).1 h]
  have cnt : ∀ p q r : Nat, (cmpU p q < 0 → cmpU q r < 0 → cmpU p r < 0) ∧ (cmpU p q = 0 → cmpU p r = cmpU q r) ∧ (cmpU q r = 0 → cmpU p r = cmpU p q) := by
    intro p q r
    refine ⟨fun h1 h2 => ?_, fun h => ?_, fun h => ?_⟩
    · unfold cmpU at *
      split at h1
      · split at h2
        · rw [if_pos (by omega)]; omega
        · split at h2 <;> omega
      · split at h1 <;> omega
    · rw [(cmpN_zero p q).1 h]
    · rw [(cmpN_zero q r).1 h]
  unfold cmpsK at hx hy hz
  match i with
  | 0 => simp at hx hy hz; subst hx hy hz; exact cbt _ _ _
  | 1 => simp at hx hy hz; subst hx hy hz; exact cbt _ _ _
  | 2 => simp at hx hy hz; subst hx hy hz; exact flt _ _ _
  | 3 => simp at hx hy hz; subst hx hy hz; exact cnt _ _ _
  | 4 =>
    simp at hx hy hz; subst hx hy hz
    obtain ⟨q1, q2, q3⟩ := flt c.f b.f a.f
    exact ⟨fun h1 h2 => by omega, fun h => by omega, fun h => by omega⟩
  | n + 5 => simp at hx
theorem lessK_asym (a b : Ky) (h : lessK a b = true) : lessK b a = false := by
  unfold lessK at *
  rw [decide_eq_true_eq] at h
  rw [decide_eq_false_iff_not, cmpK_anti a b]; omega
theorem lessK_eq (a b : Ky) : decide (a = b) = (!lessK a b && !lessK b a) := by
  unfold lessK
  rw [cmpK_anti a b, Bool.eq_iff_iff, decide_eq_true_eq, ← cmpK_zero]
  simp
  omega
/-- As the document has it. -/
theorem lessR_eq (a b : Ky) : lessK a b = if a.g ≠ b.g then Op.bytesLess a.g b.g else if a.r ≠ b.r then Op.bytesLess a.r b.r else if a.p ≠ b.p then a.p else if a.e ≠ b.e then decide (a.e < b.e) else !a.f && b.f := by
  have key : ∀ v, cmpK a b = v → lessK a b = decide (v < 0) := fun v h => by unfold lessK; rw [h]
  have e : cmpK a b = (if cmpB a.g b.g ≠ 0 then cmpB a.g b.g else if cmpB a.r b.r ≠ 0 then cmpB a.r b.r else if fl b.p - fl a.p ≠ 0 then fl b.p - fl a.p else if cmpU a.e b.e ≠ 0 then cmpU a.e b.e else if fl a.f - fl b.f ≠ 0 then fl a.f - fl b.f else 0) := rfl
  by_cases h1 : a.g = b.g
  · rw [if_neg (fun h => h ((cmpB_zero _ _).2 h1))] at e
    rw [if_neg (fun h => h h1)]
    by_cases h2 : a.r = b.r
    · rw [if_neg (fun h => h ((cmpB_zero _ _).2 h2))] at e
      rw [if_neg (fun h => h h2)]
      by_cases h3 : a.p = b.p
      · rw [if_neg (fun h => h ((fl_sub _ _).2 h3))] at e
        rw [if_neg (fun h => h h3)]
        by_cases h4 : a.e = b.e
        · rw [if_neg (fun h => h ((cmpN_zero _ _).2 h4))] at e
          rw [if_neg (fun h => h h4), key _ e]
          cases a.f <;> cases b.f <;> decide
        · rw [if_pos (fun h => h4 ((cmpN_zero _ _).1 h))] at e
          rw [if_pos h4, key _ e]
          unfold cmpU
          by_cases h5 : a.e < b.e
          · simp [h5]
          · by_cases h6 : b.e < a.e
            · simp [h5, h6]
            · omega
      · rw [if_pos (fun h => h3 ((fl_sub _ _).1 h))] at e
        rw [if_pos h3, key _ e]
        revert h3
        cases a.p <;> cases b.p <;> simp [fl]
    · rw [if_pos (fun h => h2 ((cmpB_zero _ _).1 h))] at e
      rw [if_pos h2, key _ e, cmpB_less]
  · rw [if_pos (fun h => h1 ((cmpB_zero _ _).1 h))] at e
    rw [if_pos h1, key _ e, cmpB_less]
end Go.Ai
set_option linter.unusedSimpArgs false
set_option linter.unusedVariables false
namespace Go.Ai
open Go.Proofs Go.Shelf
def ren_laysJoin : Ren := {
  f := fun x => match x with
    | 156 => 81
    | 165 => 115
    | 166 => 69
    | 169 => 71
    | 240 => 107
    | 241 => 155
    | 276 => 141
    | 277 => 183
    | n => n
  t := fun x => match x with
    | 31 => 132
    | 9 => 9
    | 3 => 3
    | 4 => 4
    | 0 => 0
    | 20 => 20
    | 72 => 124
    | 76 => 127
    | 70 => 122
    | 37 => 25
    | 75 => 126
    | 127 => 164
    | 164 => 193
    | 5 => 5
    | 80 => 129
    | n => n
  g := fun x => x }
theorem laysJoin : Lays.n156 Tryd.prog ren_laysJoin where
  mixed := by kernel_rfl
  f156 := Eq.trans Tryd.func81 (congrArg some (show Tryd.f81 = Body.n156 ren_laysJoin by kernel_rfl))
  f165 := Eq.trans Tryd.func115 (congrArg some (show Tryd.f115 = Body.n165 ren_laysJoin by kernel_rfl))
  f166 := Eq.trans Tryd.func69 (congrArg some (show Tryd.f69 = Body.n166 ren_laysJoin by kernel_rfl))
  f169 := Eq.trans Tryd.func71 (congrArg some (show Tryd.f71 = Body.n169 ren_laysJoin by kernel_rfl))
  f240 := Eq.trans Tryd.func107 (congrArg some (show Tryd.f107 = Body.n240 ren_laysJoin by kernel_rfl))
  f241 := Eq.trans Tryd.func155 (congrArg some (show Tryd.f155 = Body.n241 ren_laysJoin by kernel_rfl))
  f276 := Eq.trans Tryd.func141 (congrArg some (show Tryd.f141 = Body.n276 ren_laysJoin by kernel_rfl))
  f277 := Eq.trans Tryd.func183 (congrArg some (show Tryd.f183 = Body.n277 ren_laysJoin by kernel_rfl))
  t0 := Tryd.underlying0
  a0 := Tryd.isAgg0
  z0 := Tryd.sizeOf0
  v0 := Tryd.zeroValue0
  t3 := Tryd.underlying3
  a3 := Tryd.isAgg3
  z3 := Tryd.sizeOf3
  v3 := Tryd.zeroValue3
  t4 := Tryd.underlying4
  a4 := Tryd.isAgg4
  z4 := Tryd.sizeOf4
  v4 := Tryd.zeroValue4
  t9 := Tryd.underlying9
  a9 := Tryd.isAgg9
  z9 := Tryd.sizeOf9
  v9 := Tryd.zeroValue9
  t20 := Tryd.underlying20
  a20 := Tryd.isAgg20
  z20 := Tryd.sizeOf20
  v20 := Tryd.zeroValue20
  t31 := Tryd.underlying132
  a31 := Tryd.isAgg132
  z31 := Tryd.sizeOf132
  v31 := Tryd.zeroValue132
  t37 := Tryd.underlying25
  a37 := Tryd.isAgg25
  z37 := Tryd.sizeOf25
  v37 := Tryd.zeroValue25
  t70 := Tryd.underlying122
  a70 := Tryd.isAgg122
  z70 := Tryd.sizeOf122
  v70 := Tryd.zeroValue122
  t72 := Tryd.underlying124
  a72 := Tryd.isAgg124
  z72 := Tryd.sizeOf124
  v72 := Tryd.zeroValue124
  t75 := Tryd.underlying126
  a75 := Tryd.isAgg126
  z75 := Tryd.sizeOf126
  v75 := Tryd.zeroValue126
  t76 := Tryd.underlying127
  a76 := Tryd.isAgg127
  z76 := Tryd.sizeOf127
  v76 := Tryd.zeroValue127
  t127 := Tryd.underlying164
  a127 := Tryd.isAgg164
  z127 := Tryd.sizeOf164
  v127 := Tryd.zeroValue164
  t164 := Tryd.underlying193
  a164 := Tryd.isAgg193
  z164 := Tryd.sizeOf193
  v164 := Tryd.zeroValue193
def ren_laysSmall : Ren := {
  f := fun x => match x with
    | 283 => 156
    | n => n
  t := fun x => match x with
    | 3 => 3
    | 9 => 9
    | 4 => 4
    | n => n
  g := fun x => x }
theorem laysSmall : Lays.n283 Tryd.prog ren_laysSmall where
  mixed := by kernel_rfl
  f283 := Eq.trans Tryd.func156 (congrArg some (show Tryd.f156 = Body.n283 ren_laysSmall by kernel_rfl))
  t3 := Tryd.underlying3
  a3 := Tryd.isAgg3
  z3 := Tryd.sizeOf3
  v3 := Tryd.zeroValue3
  t4 := Tryd.underlying4
  a4 := Tryd.isAgg4
  z4 := Tryd.sizeOf4
  v4 := Tryd.zeroValue4
  t9 := Tryd.underlying9
  a9 := Tryd.isAgg9
  z9 := Tryd.sizeOf9
  v9 := Tryd.zeroValue9
def ren_laysDig : Ren := {
  f := fun x => match x with
    | 284 => 157
    | 129 => 137
    | 317 => 184
    | 318 => 185
    | n => n
  t := fun x => match x with
    | 53 => 22
    | 3 => 3
    | 212 => 233
    | 0 => 0
    | 4 => 4
    | 46 => 162
    | 5 => 5
    | 9 => 9
    | n => n
  g := fun x => match x with
    | 17 => 0
    | n => n }
theorem laysDig : LaysM.n284 Tryd.prog ren_laysDig where
  mixed := by kernel_rfl
  f129 := Eq.trans Tryd.func137 (congrArg some (show Tryd.f137 = Body.n129 ren_laysDig by kernel_rfl))
  f284 := Eq.trans Tryd.func157 (congrArg some (show Tryd.f157 = Body.n284 ren_laysDig by kernel_rfl))
  f317 := Eq.trans Tryd.func184 (congrArg some (show Tryd.f184 = Body.n317 ren_laysDig by kernel_rfl))
  f318 := Eq.trans Tryd.func185 (congrArg some (show Tryd.f185 = Body.n318 ren_laysDig by kernel_rfl))
  t0 := Tryd.underlying0
  a0 := Tryd.isAgg0
  z0 := Tryd.sizeOf0
  v0 := Tryd.zeroValue0
  t3 := Tryd.underlying3
  a3 := Tryd.isAgg3
  z3 := Tryd.sizeOf3
  v3 := Tryd.zeroValue3
  t4 := Tryd.underlying4
  a4 := Tryd.isAgg4
  z4 := Tryd.sizeOf4
  v4 := Tryd.zeroValue4
  t5 := Tryd.underlying5
  a5 := Tryd.isAgg5
  z5 := Tryd.sizeOf5
  v5 := Tryd.zeroValue5
  t9 := Tryd.underlying9
  a9 := Tryd.isAgg9
  z9 := Tryd.sizeOf9
  v9 := Tryd.zeroValue9
  t46 := Tryd.underlying162
  a46 := Tryd.isAgg162
  z46 := Tryd.sizeOf162
  v46 := Tryd.zeroValue162
  t53 := Tryd.underlying22
  a53 := Tryd.isAgg22
  z53 := Tryd.sizeOf22
  v53 := Tryd.zeroValue22
  t212 := Tryd.underlying233
  a212 := Tryd.isAgg233
  z212 := Tryd.sizeOf233
  v212 := Tryd.zeroValue233
  g17 := by kernel_rfl
  i0 := by kernel_rfl
  i3 := by kernel_rfl
  i4 := by kernel_rfl
  i5 := by kernel_rfl
  i9 := by kernel_rfl
  i46 := by kernel_rfl
  i53 := by kernel_rfl
  i212 := by kernel_rfl
  m17 := by kernel_rfl
def ren_laysFmt : Ren := {
  f := fun x => match x with
    | 285 => 158
    | n => n
  t := fun x => match x with
    | 37 => 25
    | 53 => 22
    | 3 => 3
    | 4 => 4
    | 51 => 52
    | 9 => 9
    | 5 => 5
    | 0 => 0
    | n => n
  g := fun x => x }
theorem laysFmt : Lays.n285 Tryd.prog ren_laysFmt where
  mixed := by kernel_rfl
  f285 := Eq.trans Tryd.func158 (congrArg some (show Tryd.f158 = Body.n285 ren_laysFmt by kernel_rfl))
  t0 := Tryd.underlying0
  a0 := Tryd.isAgg0
  z0 := Tryd.sizeOf0
  v0 := Tryd.zeroValue0
  t3 := Tryd.underlying3
  a3 := Tryd.isAgg3
  z3 := Tryd.sizeOf3
  v3 := Tryd.zeroValue3
  t4 := Tryd.underlying4
  a4 := Tryd.isAgg4
  z4 := Tryd.sizeOf4
  v4 := Tryd.zeroValue4
  t5 := Tryd.underlying5
  a5 := Tryd.isAgg5
  z5 := Tryd.sizeOf5
  v5 := Tryd.zeroValue5
  t9 := Tryd.underlying9
  a9 := Tryd.isAgg9
  z9 := Tryd.sizeOf9
  v9 := Tryd.zeroValue9
  t37 := Tryd.underlying25
  a37 := Tryd.isAgg25
  z37 := Tryd.sizeOf25
  v37 := Tryd.zeroValue25
  t51 := Tryd.underlying52
  a51 := Tryd.isAgg52
  z51 := Tryd.sizeOf52
  v51 := Tryd.zeroValue52
  t53 := Tryd.underlying22
  a53 := Tryd.isAgg22
  z53 := Tryd.sizeOf22
  v53 := Tryd.zeroValue22
end Go.Ai
set_option linter.unusedSimpArgs false
set_option linter.unusedVariables false
namespace Go.Ai
open Go.Proofs Go.Shelf
theorem extraJ : Builder.Extra Tryd.prog ren_laysJoin where
  sizeBuilder := by kernel_rfl
  liesBuilder := by kernel_rfl
  t5 := Tryd.underlying5
  a5 := Tryd.isAgg5
  z5 := Tryd.sizeOf5
  v5 := Tryd.zeroValue5
  infoByte := by kernel_rfl
  cellsByte := by kernel_rfl
  sizeByte := by kernel_rfl
  neB5 := by decide
theorem join_spec (xs : List (List UInt8)) (sep : List UInt8) (hN : xs.length ≤ 140737488355328) (hlen : (Lib.join xs sep).length ≤ 140737488355328) : Sp Tryd.prog gl 81 [.sl (strRows xs), .str sep] (.str (Lib.join xs sep)) :=
  join_shelf laysJoin extraJ (by kernel_rfl) (by kernel_rfl) xs sep hN hlen
end Go.Ai
set_option linter.unusedSimpArgs false
set_option linter.unusedVariables false
namespace Go.Ai
open Go.Proofs Go.RowKit
def intRows (l : List Int) : List (List AV) := l.map fun x => [i6 x]
theorem fl_i6 (a b : Bool) : IntKind.i64.wrap (fl a - fl b) = fl a - fl b := by
  have : -1 ≤ fl a - fl b ∧ fl a - fl b ≤ 1 := by cases a <;> cases b <;> decide
  rw [wrap_i64] <;> omega
def otherK (k : Ky) : Ky := { k with f := !k.f }
theorem either_spec (b : Bool) (x y : List UInt8) : Sp Tryd.prog gl 82 [.bool b, .str x, .str y] (.str (if b = true then x else y)) := by
  refine s82 rfl rfl ?_
  cases b
  · simp -implicitDefEqProofs [c82]
  · simp -implicitDefEqProofs [c82]
end Go.Ai
set_option linter.unusedSimpArgs false
set_option linter.unusedVariables false
namespace Go.Ai
open Go.Proofs Go.RowKit
theorem runesL_ascii (s : List UInt8) (h : ∀ b ∈ s, b.toNat < 128) : ∀ (n i : Nat), s.length - i ≤ n → runesL s i = (s.drop i).map fun b => (b.toNat : Int)
  | 0, i, hn => by rw [runesL_out (by omega), List.drop_eq_nil_of_le (by omega)]; rfl
  | n + 1, i, hn => by
    by_cases hi : i < s.length
    · rw [runesL_in hi, List.drop_eq_getElem_cons hi, List.map_cons]
      have hb := byt_at hi
      have h128 := h _ (List.getElem_mem hi)
      have e : stepR s i = ((byt s i : Int), 1) := by unfold stepR; simp only; rw [if_pos (by rw [hb]; exact h128)]
      rw [e]
      simp only
      rw [runesL_ascii s h n (i + 1) (by omega), hb]
    · rw [runesL_out hi, List.drop_eq_nil_of_le (by omega)]; rfl
theorem nameT_ascii (s : List UInt8) (h : ∀ b ∈ s, b.toNat < 128) : nameT s = nameGo 0 32 (s.map fun b => (b.toNat : Int)) := by
  unfold nameT
  rw [runesL_ascii s h s.length 0 (by omega)]; rfl
def awkK : Ky := ⟨[97, 112, 105], [102, 97, 115, 116], true, 3, false⟩
theorem awkK_right : rightK awkK = true := by
  unfold rightK
  rw [nameT_ascii _ (by decide), nameT_ascii _ (by decide)]
  decide
theorem small3_spec : Sp Tryd.prog gl 156 [i6 3] (.str [51]) := by
  refine s156 rfl rfl ?_
  have t1 : IntKind.i64.wrap 4 = 4 := by rw [wrap_i64] <;> omega
  simp -implicitDefEqProofs [c156, t1]
theorem fmt3i_spec : Sp Tryd.prog gl 116 [u 3, i6 10] (.str [51]) := by
  refine s116 rfl rfl ?_
  have t1 : IntKind.i64.wrap 3 = 3 := by rw [wrap_i64] <;> omega
  simp -implicitDefEqProofs [c116, t1]
  refine onC_mk _ small3_spec ?_
  simp -implicitDefEqProofs
theorem fmt3_spec : Sp Tryd.prog gl 83 [u 3, i6 10] (.str [51]) := by
  refine s83 rfl rfl ?_
  simp -implicitDefEqProofs [c83]
  refine onC_mk _ fmt3i_spec ?_
  simp -implicitDefEqProofs
theorem print3_spec : Sp Tryd.prog gl 40 [.agg awkK.row] (.str [97, 112, 105, 47, 102, 97, 115, 116, 47, 112, 97, 103, 101, 47, 51, 47, 102, 105, 114, 101]) := by
  refine s40 rfl rfl ?_
  have R := kright_spec awkK (by decide) (by decide)
  rw [awkK_right] at R
  have E1 := either_spec true [112, 97, 103, 101] [116, 105, 99, 107, 101, 116]
  have E2 := either_spec false [114, 101, 115, 111, 108, 118, 101] [102, 105, 114, 101]
  have J := join_spec [[97, 112, 105], [102, 97, 115, 116], [112, 97, 103, 101], [51], [102, 105, 114, 101]] [47] (by decide) (by decide)
  rw [show Lib.join [[97, 112, 105], [102, 97, 115, 116], [112, 97, 103, 101], [51], [102, 105, 114, 101]] [47] = [97, 112, 105, 47, 102, 97, 115, 116, 47, 112, 97, 103, 101, 47, 51, 47, 102, 105, 114, 101] from rfl] at J
  unfold strRows at J
  simp only [List.map_cons, List.map_nil] at J
  simp only [if_true, Bool.false_eq_true, if_false] at E1 E2
  rw [krow] at R ⊢
  simp only [awkK] at R ⊢
  simp -implicitDefEqProofs [c40]
  refine onC_mk _ R ?_
  simp -implicitDefEqProofs
  refine onC_mk _ E1 ?_
  simp -implicitDefEqProofs
  refine onC_mk _ fmt3_spec ?_
  simp -implicitDefEqProofs
  refine onC_mk _ E2 ?_
  simp -implicitDefEqProofs
  refine onC_mk _ J ?_
  simp -implicitDefEqProofs
theorem awake25_spec : Sp Tryd.prog gl 8 [] (.bool true) := by
  refine s8 rfl rfl ?_
  have P := print3_spec
  rw [krow] at P
  simp only [awkK] at P
  simp -implicitDefEqProofs [c8]
  refine onC_mk _ P ?_
  simp -implicitDefEqProofs
theorem heavy_agg (k : Ky) : Sp Tryd.prog gl 9 [.agg k.row] (.bool (heavyK k)) := xheavy_spec k
end Go.Ai
