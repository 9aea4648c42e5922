/- YtcdomokjdfmnlaaDoorP5: part of the abstract interpreter library (values, rules, soundness against the model) or of what a function of the seat computes. Conditions: as each theorem says. -/
import Derived.Test.YtcdomokjdfmnlaaDoorP4
set_option linter.unusedSimpArgs false
set_option linter.unusedVariables false
namespace Go.Ai
open Go.Proofs
def candP (last : Option Int) (z : Int) : Prop := ∀ y, last = some y → y < z
/-- The least one above the last one, among the first. -/
def BInv (all : List Int) (last : Option Int) (j : Nat) (b : Int) : Prop :=
  (b = -1 ∧ ∀ k, k < j → ∀ z, all[k]? = some z → ¬ candP last z) ∨ ∃ n : Nat, b = n ∧ n < j ∧ ∃ m, all[n]? = some m ∧ candP last m ∧ ∀ k, k < j → ∀ z, all[k]? = some z → candP last z → m ≤ z
theorem BInv.skip {all : List Int} {last : Option Int} {j : Nat} {b : Int} (h : BInv all last j b) (hj : ∀ z, all[j]? = some z → candP last z → ∃ n : Nat, b = n ∧ ∃ m, all[n]? = some m ∧ m ≤ z) : BInv all last (j + 1) b := by
  rcases h with ⟨h1, h2⟩ | ⟨n, h1, h2, m, h3, h4, h5⟩
  · left
    refine ⟨h1, fun k hk z hz hc => ?_⟩
    rcases Nat.lt_or_ge k j with q | q
    · exact h2 k q z hz hc
    · obtain rfl : k = j := by omega
      obtain ⟨n, hn, _⟩ := hj z hz hc
      omega
  · right
    refine ⟨n, h1, by omega, m, h3, h4, fun k hk z hz hc => ?_⟩
    rcases Nat.lt_or_ge k j with q | q
    · exact h5 k q z hz hc
    · obtain rfl : k = j := by omega
      obtain ⟨n', hn', m', hm', hle⟩ := hj z hz hc
      have : n' = n := by omega
      subst this
      rw [h3] at hm'; cases hm'; exact hle
theorem BInv.take {all : List Int} {last : Option Int} {j : Nat} {b : Int} (h : BInv all last j b) {z : Int} (hz : all[j]? = some z) (hc : candP last z) (hb : b < 0 ∨ ∃ n : Nat, b = n ∧ ∃ m, all[n]? = some m ∧ z < m) : BInv all last (j + 1) j := by
  right
  refine ⟨j, rfl, by omega, z, hz, hc, fun k hk y hy hcy => ?_⟩
  rcases Nat.lt_or_ge k j with q | q
  · rcases h with ⟨h1, h2⟩ | ⟨n, h1, h2, m, h3, h4, h5⟩
    · exact absurd hcy (h2 k q y hy)
    · rcases hb with hb | ⟨n', hn', m', hm', hlt⟩
      · omega
      · have : n' = n := by omega
        subst this
        rw [h3] at hm'; cases hm'
        have := h5 k q y hy hcy
        omega
  · obtain rfl : k = j := by omega
    rw [hz] at hy; cases hy; exact Int.le_refl _
/-- What was taken out so far. -/
structure OInv (all out : List Int) : Prop where
  r : Rising out
  s : ∀ z ∈ out, z ∈ all
  d : ∀ z ∈ all, (∃ y, out.getLast? = some y ∧ z ≤ y) → z ∈ out
theorem OInv.next {all out : List Int} (h : OInv all out) {n : Nat} {m : Int} (hm : all[n]? = some m) (hc : candP out.getLast? m) (hmin : ∀ (k : Nat) z, all[k]? = some z → candP out.getLast? z → m ≤ z) : OInv all (out ++ [m]) := by
  refine ⟨?_, ?_, ?_⟩
  · unfold Rising
    rw [List.pairwise_append]
    refine ⟨h.r, by simp, fun a ha b hb => ?_⟩
    simp only [List.mem_singleton] at hb
    subst hb
    obtain ⟨y, hy⟩ : ∃ y, out.getLast? = some y := by
      cases hl : out.getLast? with
      | none => rw [List.getLast?_eq_none_iff] at hl; subst hl; simp at ha
      | some y => exact ⟨y, rfl⟩
    have hcy := hc y hy
    obtain ⟨pre, rfl⟩ : ∃ pre, out = pre ++ [y] := by
      rw [List.getLast?_eq_some_iff] at hy; exact hy
    rcases List.mem_append.1 ha with ha | ha
    · have := (List.pairwise_append.1 h.r).2.2 a ha y (by simp)
      omega
    · simp only [List.mem_singleton] at ha; omega
  · intro z hz
    rcases List.mem_append.1 hz with hz | hz
    · exact h.s z hz
    · simp only [List.mem_singleton] at hz; subst hz; exact List.mem_of_getElem? hm
  · rintro z hz ⟨y, hy, hle⟩
    simp only [List.getLast?_append, List.getLast?_singleton, Option.some_or, Option.some.injEq] at hy
    subst hy
    rw [List.mem_append]
    by_cases hcz : candP out.getLast? z
    · obtain ⟨k, hk⟩ := List.getElem?_of_mem hz
      have := hmin k z hk hcz
      right; simp; omega
    · left
      unfold candP at hcz
      obtain ⟨y', hy'⟩ : ∃ y', out.getLast? = some y' ∧ ¬ y' < z := by
        apply Classical.byContradiction
        intro hn
        exact hcz (fun y hy => Classical.byContradiction fun hlt => hn ⟨y, hy, hlt⟩)
      exact h.d z hz ⟨y', hy'.1, by omega⟩
theorem OInv.done {all out : List Int} (h : OInv all out) (hno : ∀ (k : Nat) z, all[k]? = some z → ¬ candP out.getLast? z) : ∀ z, z ∈ out ↔ z ∈ all := by
  intro z
  refine ⟨h.s z, fun hz => ?_⟩
  obtain ⟨k, hk⟩ := List.getElem?_of_mem hz
  have hcz := hno k z hk
  unfold candP at hcz
  obtain ⟨y', hy'⟩ : ∃ y', out.getLast? = some y' ∧ ¬ y' < z := by
    apply Classical.byContradiction
    intro hn
    exact hcz (fun y hy => Classical.byContradiction fun hlt => hn ⟨y, hy, hlt⟩)
  exact h.d z hz ⟨y', hy'.1, by omega⟩
def candB (last : Option Int) (z : Int) : Bool := match last with
  | none => true
  | some y => decide (y < z)
theorem candB_iff (last : Option Int) (z : Int) : candB last z = true ↔ candP last z := by
  cases last with
  | none => simp [candB, candP]
  | some y => simp [candB, candP]
theorem next_lt {all out : List Int} {n : Nat} {m : Int} (hm : all[n]? = some m) (hc : candP out.getLast? m) : all.countP (candB (out ++ [m]).getLast?) < all.countP (candB out.getLast?) := by
  have e : (out ++ [m]).getLast? = some m := by simp
  rw [e]
  refine countP_lt _ _ (fun x hx => ?_) all ⟨m, List.mem_of_getElem? hm, (candB_iff _ _).2 hc, by simp [candB]⟩
  rw [candB_iff]
  have : m < x := by simpa [candB] using hx
  intro y hy
  have := hc y hy
  omega
theorem intRows_at (l : List Int) (i : Nat) (h : i < l.length) : ∀ h2, (intRows l)[i]'h2 = [i6 l[i]] := fun h2 => by simp [intRows]
theorem intRows_snoc (l : List Int) (z : Int) : intRows (l ++ [z]) = intRows l ++ [[i6 z]] := by simp [intRows]
end Go.Ai
set_option linter.unusedSimpArgs false
set_option linter.unusedVariables false
namespace Go.Ai
open Go.Proofs
set_option maxRecDepth 20000 in
theorem rwin_tail (all : List Int) (hl : all.length ≤ 100) (W : List Int) (hW : Rising W) (hWm : ∀ z, z ∈ W ↔ z ∈ all) (e : List (Nat × AV)) (pm : List (Pl × Nat)) (l3 : lk e 3 = .sl (intRows all)) (bx : List (Id × List AV)) :
    wpA (SpH Tryd.prog gl) (AC.tl 4 c27) (postA [.t 2] (.sl (intRows W))) ⟨e, bx, pm⟩ := by
  have hlim : lim = 140737488355328 := rfl
  have aat := intRows_at all
  have al := intRows_len all
  simp only [c27, AC.tl]
  simp -implicitDefEqProofs [l3]
  refine wp_lpk (α := List Int) (fun out => ⟨[(3, .sl (intRows all)), (5, .sl (intRows out))], [], [(.s 5, 1)]⟩) (fun out => OInv all out ∧ out.length + all.countP (candB out.getLast?) ≤ all.length) (fun out => all.countP (candB out.getLast?)) ?_ [] ?_ ?_
  · rintro K out hK ⟨ho, hc⟩
    have ol := intRows_len out
    have oat := intRows_at out
    have oone := intRows_one out
    have fin : ∀ (n : Nat) (m : Int), all[n]? = some m → candP out.getLast? m → (∀ (k : Nat) z, all[k]? = some z → candP out.getLast? z → m ≤ z) → ∀ σ', Weak σ' ⟨[(3, .sl (intRows all)), (5, .sl (intRows (out ++ [m])))], [], [(.s 5, 1)]⟩ → K σ' :=
      fun n m hn hcm hmin σ' hσ => hK (out ++ [m]) σ' ⟨ho.next hn hcm hmin, by
        have := next_lt hn hcm
        rw [List.length_append, List.length_singleton]; omega⟩ (next_lt hn hcm) hσ
    have done : (∀ (k : Nat) z, all[k]? = some z → ¬ candP out.getLast? z) → out = W := fun hno => rising_ext ho.r hW (fun z => (ho.done hno z).trans (hWm z).symm)
    clear hK ho
    have hol : out.length ≤ 100 := by omega
    simp -implicitDefEqProofs
    refine wp_lpk (α := Nat × Int) (fun x => ⟨[(3, .sl (intRows all)), (5, .sl (intRows out)), (6, i6 x.2), (7, i6 x.1)], [], [(.s 5, 1)]⟩) (fun x => x.1 ≤ all.length ∧ BInv all out.getLast? x.1 x.2) (fun x => all.length - x.1) ?_ (0, -1) ?_ ?_
    · rintro K2 ⟨j, b⟩ hK2 ⟨h1, h2⟩
      simp only at h1 h2
      by_cases g : j < all.length
      · have t1 : IntKind.i64.wrap ((j : Int) + 1) = (j + 1 : Nat) := by rw [wrap_i64] <;> omega
        have gR : j < (intRows all).length := by omega
        have ra := aat j g
        have hz : all[j]? = some all[j] := List.getElem?_eq_getElem g
        have fs : (∀ z, all[j]? = some z → candP out.getLast? z → ∃ n : Nat, b = n ∧ ∃ m, all[n]? = some m ∧ m ≤ z) → ∀ σ', Weak σ' ⟨[(3, .sl (intRows all)), (5, .sl (intRows out)), (6, i6 b), (7, i6 (j + 1 : Nat))], [], [(.s 5, 1)]⟩ → K2 σ' :=
          fun hj σ' hσ => hK2 (j + 1, b) σ' ⟨by simp only; omega, h2.skip hj⟩ (by simp only; omega) hσ
        have ft : candP out.getLast? all[j] → (b < 0 ∨ ∃ n : Nat, b = n ∧ ∃ m, all[n]? = some m ∧ all[j] < m) → ∀ σ', Weak σ' ⟨[(3, .sl (intRows all)), (5, .sl (intRows out)), (6, i6 j), (7, i6 (j + 1 : Nat))], [], [(.s 5, 1)]⟩ → K2 σ' :=
          fun hcd hb σ' hσ => hK2 (j + 1, j) σ' ⟨by simp only; omega, h2.take hz hcd hb⟩ (by simp only; omega) hσ
        have hb : b = -1 ∨ ∃ n : Nat, b = n ∧ ∃ h : n < all.length, True := by
          rcases h2 with ⟨q, _⟩ | ⟨n, q, q2, _⟩
          · exact .inl q
          · exact .inr ⟨n, q, by omega, trivial⟩
        clear hK2 h2 fin done
        generalize hzj : all[j] = zj at *
        have hcases : out = [] ∨ ∃ pre y, out = pre ++ [y] := by
          rcases List.eq_nil_or_concat out with h | ⟨p, y, h⟩
          · exact .inl h
          · exact .inr ⟨p, y, by rw [h, List.concat_eq_append]⟩
        rcases hcases with rfl | ⟨pre, y, rfl⟩
        · have hcd : candP ([] : List Int).getLast? zj := fun y hy => by simp at hy
          have o0 : intRows [] = [] := rfl
          rw [o0] at fs ft ⊢
          generalize intRows all = AR at *
          rcases hb with rfl | ⟨n, rfl, hn, _⟩
          · have ft := ft hcd (.inl (by omega))
            simp -implicitDefEqProofs [g, gR, ra, al]
            refine ft _ ?_
            refine weak_mk ?_ ?_ ?_ ?_ ?_ ?_ <;> simp -implicitDefEqProofs [t1]
          · have ran := aat n hn
            have gRn : n < AR.length := by omega
            have hzn : all[n]? = some all[n] := List.getElem?_eq_getElem hn
            have n0 : ¬ (n : Int) < 0 := by omega
            by_cases hlt : zj < all[n]
            · have ft := ft hcd (.inr ⟨n, rfl, all[n], hzn, hlt⟩)
              simp -implicitDefEqProofs [g, gR, gRn, hn, ra, ran, al, n0, hlt]
              refine ft _ ?_
              refine weak_mk ?_ ?_ ?_ ?_ ?_ ?_ <;> simp -implicitDefEqProofs [t1]
            · have fs := fs (fun z hz2 _ => by rw [hz] at hz2; cases hz2; exact ⟨n, rfl, all[n], hzn, by omega⟩)
              simp -implicitDefEqProofs [g, gR, gRn, hn, ra, ran, al, n0, hlt]
              refine fs _ ?_
              refine weak_mk ?_ ?_ ?_ ?_ ?_ ?_ <;> simp -implicitDefEqProofs [t1]
        · have el : (pre ++ [y]).getLast? = some y := by simp
          have ll : (pre ++ [y]).length = pre.length + 1 := by simp
          have oy : ∀ h, (intRows (pre ++ [y]))[pre.length]'h = [i6 y] := fun h => by rw [oat pre.length (by simp) h]; simp
          rw [el] at fs ft
          rw [ll] at ol
          have t2 : IntKind.i64.wrap (((pre.length + 1 : Nat) : Int) - 1) = pre.length := by rw [wrap_i64] <;> omega
          have gO : pre.length < (intRows (pre ++ [y])).length := by omega
          have nz : ¬ ((pre.length + 1 : Nat) : Int) = 0 := by omega
          have nz2 : (((pre.length + 1 : Nat) : Int) == 0) = false := by simpa using nz
          clear oat
          obtain ⟨N, hN⟩ : ∃ N, N = pre.length + 1 := ⟨_, rfl⟩
          rw [← hN] at ol t2 nz2
          generalize intRows (pre ++ [y]) = OR at *
          clear ll nz el hc hol
          generalize pre.length = p at *
          have gO' : p < N := by omega
          generalize intRows all = AR at *
          by_cases hyz : y < zj
          · have hcd : candP (some y) zj := fun y' hy => by cases hy; exact hyz
            rcases hb with rfl | ⟨n, rfl, hn, _⟩
            · have ft := ft hcd (.inl (by omega))
              simp -implicitDefEqProofs [g, gR, ra, al, ol, nz2, t2, gO, gO', oy, hyz]
              refine ft _ ?_
              refine weak_mk ?_ ?_ ?_ ?_ ?_ ?_ <;> simp -implicitDefEqProofs [t1]
            · have ran := aat n hn
              have gRn : n < AR.length := by omega
              have hzn : all[n]? = some all[n] := List.getElem?_eq_getElem hn
              have n0 : ¬ (n : Int) < 0 := by omega
              by_cases hlt : zj < all[n]
              · have ft := ft hcd (.inr ⟨n, rfl, all[n], hzn, hlt⟩)
                simp -implicitDefEqProofs [g, gR, gRn, hn, ra, ran, al, n0, hlt, ol, nz2, t2, gO, gO', oy, hyz]
                refine ft _ ?_
                refine weak_mk ?_ ?_ ?_ ?_ ?_ ?_ <;> simp -implicitDefEqProofs [t1]
              · have fs := fs (fun z hz2 _ => by rw [hz] at hz2; cases hz2; exact ⟨n, rfl, all[n], hzn, by omega⟩)
                simp -implicitDefEqProofs [g, gR, gRn, hn, ra, ran, al, n0, hlt, ol, nz2, t2, gO, gO', oy, hyz]
                refine fs _ ?_
                refine weak_mk ?_ ?_ ?_ ?_ ?_ ?_ <;> simp -implicitDefEqProofs [t1]
          · have fs := fs (fun z hz2 hcz => by rw [hz] at hz2; cases hz2; exact absurd (hcz y rfl) hyz)
            simp -implicitDefEqProofs [g, gR, ra, al, ol, nz2, t2, gO, gO', oy, hyz]
            refine fs _ ?_
            refine weak_mk ?_ ?_ ?_ ?_ ?_ ?_ <;> simp -implicitDefEqProofs [t1]
      · obtain rfl : j = all.length := by omega
        clear hK2
        rcases h2 with ⟨rfl, hno⟩ | ⟨n, rfl, hn, m, hm, hcm, hmin⟩
        · have e := done (fun k z hz => hno k (List.getElem?_eq_some_iff.1 hz).1 z hz)
          subst e
          clear fin done
          generalize intRows all = AR at *
          simp -implicitDefEqProofs [al]
        · have fin := fin n m hm hcm (fun k z hz hcz => hmin k (List.getElem?_eq_some_iff.1 hz).1 z hz hcz)
          rw [intRows_snoc] at fin
          have ran : ∀ h2, (intRows all)[n]'h2 = [i6 m] := fun h2 => by rw [aat n hn h2]; rw [List.getElem?_eq_getElem hn] at hm; rw [Option.some.inj hm]
          have n0 : ¬ (n : Int) < 0 := by omega
          have gRn : n < (intRows all).length := by omega
          have q1 : (out.length + 1) * 8 ≤ 140737488355328 := by omega
          clear done hmin
          generalize intRows out = OR at *
          generalize intRows all = AR at *
          simp -implicitDefEqProofs [al, n0, gRn, hn, ran, ol, hlim, q1]
          refine ⟨oone, fin _ ?_⟩
          refine weak_mk ?_ ?_ ?_ ?_ ?_ ?_ <;> simp -implicitDefEqProofs
    · exact ⟨Nat.zero_le _, .inl ⟨rfl, fun k hk => by simp only at hk; omega⟩⟩
    · refine weak_mk ?_ ?_ ?_ ?_ ?_ ?_ <;> simp -implicitDefEqProofs
  · refine ⟨⟨by simp [Rising], by simp, fun z hz ⟨y, hy, _⟩ => by simp at hy⟩, ?_⟩
    simp only [List.length_nil, Nat.zero_add]
    exact List.countP_le_length
  · refine weak_mk ?_ ?_ ?_ ?_ ?_ ?_ <;> simp -implicitDefEqProofs [l3, intRows]
end Go.Ai
set_option linter.unusedSimpArgs false
set_option linter.unusedVariables false
namespace Go.Ai
open Go.Proofs
set_option maxRecDepth 20000 in
theorem rwin_spec (x : Gl) (hl : x.ru.length ≤ 10) : Sp Tryd.prog gl 27 [.agg x.row] (.sl (intRows (winP x))) := by
  refine s27 rfl rfl ?_
  have hlim : lim = 140737488355328 := rfl
  have ec : c27 = AC.cutAt 4 (AC.tl 4 c27) c27 := rfl
  rw [ec]
  have T := rwin_tail (allW x) (by have := allW_len x; omega) (winP x) (winP_rising x) (winP_mem x)
  generalize AC.tl 4 c27 = TT at T ⊢
  have hw : allW x = ruW x.ru ++ (if x.o = 0 then [] else [x.o]) := rfl
  have hx : x.row = [.str x.n, .int .u32 x.t, i6 x.g, i6 x.a, i6 x.o, i6 x.c, .sl (x.lb.map Lb.row), .sl (x.ru.map Ru.row)] := rfl
  have rat : ∀ i (h : i < x.ru.length), ∀ h2, (x.ru.map Ru.row)[i]'h2 = [.str x.ru[i].n, .bool x.ru[i].p, i6 x.ru[i].l, i6 x.ru[i].s, u x.ru[i].f, i6 x.ru[i].w, i6 x.ru[i].k] := fun i h h2 => by simp [Ru.row]
  have rl : (x.ru.map Ru.row).length = x.ru.length := by simp
  rw [hx]
  clear hx ec
  generalize winP x = W at *
  generalize allW x = AL at *
  generalize x.lb.map Lb.row = LB at *
  generalize x.ru.map Ru.row = RU at *
  generalize x.ru = ru at *
  simp only [c27, AC.cutAt]
  simp -implicitDefEqProofs
  refine wp_lpk (α := Nat × List Int) (fun z => ⟨[(1, .ptr (.n 1) 0), (3, .sl (intRows z.2)), (4, i6 z.1)], [(.n 1, [.str x.n, .int .u32 x.t, i6 x.g, i6 x.a, i6 x.o, i6 x.c, .sl LB, .sl RU])], [(.s 3, 1)]⟩) (fun z => z.1 ≤ ru.length ∧ z.2 = ruW (ru.take z.1)) (fun z => ru.length - z.1) ?_ (0, []) ?_ ?_
  · rintro K ⟨i, acc⟩ hK ⟨h1, h2⟩
    simp only at h1 h2
    have al : acc.length ≤ 2 * i := by
      rw [h2, ruW_len, List.length_take]; omega
    have acl := intRows_len acc
    have aone := intRows_one acc
    by_cases g : i < ru.length
    · have t1 : IntKind.i64.wrap ((i : Int) + 1) = (i + 1 : Nat) := by rw [wrap_i64] <;> omega
      have ra := rat i g
      have gR : i < RU.length := by omega
      have es : ruW (ru.take (i + 1)) = acc ++ [ru[i].l] ++ [ru[i].s] := by
        rw [List.take_succ_eq_append_getElem g, h2]
        simp only [ruW, List.flatMap_append, List.flatMap_cons, List.flatMap_nil, List.append_nil, List.append_assoc]
        rfl
      have fin : ∀ σ', Weak σ' ⟨[(1, .ptr (.n 1) 0), (3, .sl (intRows (acc ++ [ru[i].l] ++ [ru[i].s]))), (4, i6 (i + 1 : Nat))], [(.n 1, [.str x.n, .int .u32 x.t, i6 x.g, i6 x.a, i6 x.o, i6 x.c, .sl LB, .sl RU])], [(.s 3, 1)]⟩ → K σ' :=
        fun σ' hσ => hK (i + 1, acc ++ [ru[i].l] ++ [ru[i].s]) σ' ⟨by simp only; omega, es.symm⟩ (by simp only; omega) hσ
      rw [intRows_snoc, intRows_snoc] at fin
      clear hK T rat h2 es
      have q1 : (acc.length + 1) * 8 ≤ 140737488355328 := by omega
      have q2 : (acc.length + 1 + 1) * 8 ≤ 140737488355328 := by omega
      have aone2 : ∀ r, r ∈ intRows acc ∨ r = [i6 ru[i].l] → r.length = 1 := by
        rintro r (h | rfl)
        · exact aone r h
        · rfl
      generalize intRows acc = A at *
      simp -implicitDefEqProofs [g, gR, ra, rl, hlim, acl, q1, q2]
      refine ⟨aone, aone2, fin _ ?_⟩
      refine weak_mk ?_ ?_ ?_ ?_ ?_ ?_ <;> simp -implicitDefEqProofs [t1]
    · obtain rfl : i = ru.length := by omega
      rw [List.take_length] at h2
      subst h2
      clear hK rat
      have q1 : ((ruW ru).length + 1) * 8 ≤ 140737488355328 := by omega
      by_cases h0 : x.o = 0
      · rw [if_pos h0, List.append_nil] at hw
        subst hw
        rw [h0]
        generalize intRows (ruW ru) = A at *
        simp -implicitDefEqProofs [rl]
        refine T _ _ ?_ _
        simp -implicitDefEqProofs
      · rw [if_neg h0] at hw
        subst hw
        rw [intRows_snoc] at T
        have hne : (x.o != 0) = true := by simpa using h0
        generalize intRows (ruW ru) = A at *
        simp -implicitDefEqProofs [rl, hne, hlim, acl, q1]
        refine ⟨aone, T _ _ ?_ _⟩
        simp -implicitDefEqProofs
  · exact ⟨Nat.zero_le _, by simp [ruW]⟩
  · refine weak_mk ?_ ?_ ?_ ?_ ?_ ?_ <;> simp -implicitDefEqProofs [intRows]
theorem int_beq_ne (a b : Int) : (a != b) = !(a == b) := rfl
set_option maxRecDepth 20000 in
theorem same_spec (a b : List Int) (ha : a.length ≤ 1000000) (hb : b.length ≤ 1000000) : Sp Tryd.prog gl 26 [.sl (intRows a), .sl (intRows b)] (.bool (decide (a = b))) := by
  refine s26 rfl rfl ?_
  have al := intRows_len a
  have bl := intRows_len b
  have aat := intRows_at a
  have bat := intRows_at b
  obtain ⟨R, hR⟩ : ∃ R, R = decide (a = b) := ⟨_, rfl⟩
  rw [← hR]
  generalize intRows a = A at *
  generalize intRows b = B at *
  by_cases hl : a.length = b.length
  · have hl' : ((a.length : Int) != (b.length : Int)) = false := by simp [hl]
    simp -implicitDefEqProofs [c26, al, bl, hl, hl']
    refine wp_lpk (α := Nat) (fun i => ⟨[(0, .sl A), (1, .sl B), (5, i6 i)], [], []⟩) (fun i => i ≤ a.length ∧ decide (a.drop i = b.drop i) = R) (fun i => a.length - i) ?_ 0 ?_ ?_
    · rintro K i hK ⟨h1, h2⟩
      by_cases g : i < a.length
      · have t1 : IntKind.i64.wrap ((i : Int) + 1) = (i + 1 : Nat) := by rw [wrap_i64] <;> omega
        have g2 : i < b.length := by omega
        have gA : i < A.length := by omega
        have gB : i < B.length := by omega
        have ra := aat i g
        have rb := bat i g2
        rw [List.drop_eq_getElem_cons g, List.drop_eq_getElem_cons g2] at h2
        have fin : a[i] = b[i] → ∀ σ', Weak σ' ⟨[(0, .sl A), (1, .sl B), (5, i6 (i + 1 : Nat))], [], []⟩ → K σ' := fun he σ' hσ => hK (i + 1) σ' ⟨by omega, by rw [← h2, he, Bool.eq_iff_iff]; simp only [decide_eq_true_eq, List.cons.injEq, true_and]⟩ (by omega) hσ
        clear hK aat bat
        generalize a[i] = x at *
        generalize b[i] = y at *
        by_cases he : x = y
        · subst he
          have fin := fin rfl
          have e : (x != x) = false := by simp
          simp -implicitDefEqProofs [g, g2, gA, gB, ra, rb, al, bl, e]
          refine fin _ ?_
          refine weak_mk ?_ ?_ ?_ ?_ ?_ ?_ <;> simp -implicitDefEqProofs [t1]
        · have e : (x != y) = true := by simpa using he
          have : R = false := by rw [← h2]; simp [he]
          subst this
          simp -implicitDefEqProofs [g, g2, gA, gB, ra, rb, al, bl, e]
      · obtain rfl : i = a.length := by omega
        have : R = true := by rw [← h2, List.drop_eq_nil_of_le (by omega), List.drop_eq_nil_of_le (by omega)]; rfl
        subst this
        simp -implicitDefEqProofs [al]
    · exact ⟨Nat.zero_le _, by simp [hR]⟩
    · refine weak_mk ?_ ?_ ?_ ?_ ?_ ?_ <;> simp -implicitDefEqProofs
  · have hl' : ((a.length : Int) != (b.length : Int)) = true := by simp; omega
    have : R = false := by rw [hR]; simp; intro e; exact hl (congrArg List.length e)
    subst this
    simp -implicitDefEqProofs [c26, al, bl, hl, hl']
end Go.Ai
set_option linter.unusedSimpArgs false
set_option linter.unusedVariables false
namespace Go.Ai
open Go.Proofs
theorem ixN_find {α : Type} (f : α → List UInt8) (n : List UInt8) : ∀ (l : List α) (i0 : Nat),
    (ixN n (l.map f) i0 = -1 ∧ l.find? (fun x => f x == n) = none) ∨ ∃ j, ∃ h : j < l.length, ixN n (l.map f) i0 = ((i0 + j : Nat) : Int) ∧ l.find? (fun x => f x == n) = some l[j]
  | [], i0 => .inl ⟨rfl, rfl⟩
  | x :: r, i0 => by
    simp only [List.map_cons, ixN, List.find?_cons]
    cases h : (f x == n) with
    | true => exact .inr ⟨0, by simp, by simp, by simp⟩
    | false =>
      rcases ixN_find f n r (i0 + 1) with ⟨h1, h2⟩ | ⟨j, hj, h1, h2⟩
      · exact .inl ⟨by simpa using h1, h2⟩
      · refine .inr ⟨j + 1, by simp; omega, ?_, ?_⟩
        · rw [if_neg (by simp), h1]; congr 1; omega
        · simpa using h2
def gF (l : List Gl) (n : List UInt8) : Option Gl := l.find? fun x => x.n == n
def ruOf : Option Gl → List Ru
  | some g => g.ru
  | none => []
def rF (o : Option Gl) (n : List UInt8) : Option Ru := (ruOf o).find? fun x => x.n == n
def glO : Option Gl → List AV
  | some x => x.row
  | none => [.str [], .int .u32 0, i6 0, i6 0, i6 0, i6 0, .nils, .nils]
def ruO : Option Ru → List AV
  | some x => x.row
  | none => [.str [], .bool false, i6 0, i6 0, .int .u64 0, i6 0, i6 0]
def Gl.zero : Gl := ⟨[], 0, 0, 0, 0, 0, [], []⟩
set_option maxRecDepth 20000 in
theorem goalOf_spec (c : Cf) (n : List UInt8) (hl : c.gs.length ≤ 1000000) : Sp Tryd.prog gl 57 [.agg c.row, .str n] (.tup [.agg ((gF c.gs n).getD Gl.zero).row, .bool (gF c.gs n).isSome]) := by
  refine s57 rfl rfl ?_
  have Q := goFd_spec c.gs n hl 10 (.n 3) rfl rfl
  have rl : (c.gs.map Gl.row).length = c.gs.length := by simp
  have rat : ∀ i (h : i < c.gs.length), ∀ h2, (c.gs.map Gl.row)[i]'h2 = c.gs[i].row := fun i h h2 => by simp
  have hx : c.row = [.sl (c.gs.map Gl.row), i6 c.r, i6 c.v, i6 c.i, i6 c.x, i6 c.y] := rfl
  rw [hx]
  rcases ixN_find Gl.n n c.gs 0 with ⟨h1, h2⟩ | ⟨j, hj, h1, h2⟩
  · rw [show gF c.gs n = none from h2]
    rw [h1] at Q
    generalize c.gs.map Gl.row = GS at *
    have ez : Gl.zero.row = [.str [], .int .u32 0, i6 0, i6 0, i6 0, i6 0, .sl [], .sl []] := rfl
    simp -implicitDefEqProofs [c57, ez]
    refine onH_mk _ _ (Q) ⟨?_, ?_, ?_, ?_, ?_, ?_, ?_⟩ ?_
    iterate 7 (· simp -implicitDefEqProofs)
    simp -implicitDefEqProofs
  · rw [show gF c.gs n = some c.gs[j] from h2]
    rw [h1] at Q
    have ra := rat j hj
    have hrl : (c.gs[j].row).length = 8 := rfl
    have hs : shutL c.gs[j].row = some c.gs[j].row := rfl
    simp only [Option.getD_some]
    generalize c.gs[j].row = x at *
    generalize c.gs.map Gl.row = GS at *
    have e8 : List.take 8 x = x := List.take_of_length_le (by omega)
    have gR : j < GS.length := by omega
    have q0 : ¬ ((j : Int) < 0) := by omega
    simp -implicitDefEqProofs [c57]
    refine onH_mk _ _ (Q) ⟨?_, ?_, ?_, ?_, ?_, ?_, ?_⟩ ?_
    iterate 7 (· simp -implicitDefEqProofs)
    simp -implicitDefEqProofs [ra, gR, e8, hrl, hs, q0]
set_option maxRecDepth 20000 in
theorem ruIxN_spec (n : List UInt8) (d : Nat) (c : Id) (hc : c.isIt = false) (hcd : c.isNw d = false) :
    SpH Tryd.prog gl 167 d ⟨[.nils, .fn 126 [.ptr c 0]], [(c, [.str n])], []⟩ ⟨i6 (-1), [(c, [.str n])], []⟩ := by
  refine h167 rfl ?_
  have hic := inn_notNw hcd
  simp only [inSt, mpB, mpL, AV.mp, mpP]
  simp -implicitDefEqProofs [c167]
  refine wp_lpk (α := Unit) (fun _ => ⟨[(0, .nils), (1, .fn 126 [.ptr (.up c) 0]), (7, i6 0), (8, i6 0)], [(.up c, [.str n])], []⟩) (fun _ => True) (fun _ => 0) ?_ () trivial ?_
  · rintro K _ hK _
    clear hK
    simp -implicitDefEqProofs
    refine postH_r ⟨?_, ?_, ?_, ?_, ?_, ?_⟩ <;> simp -implicitDefEqProofs [hic, hc]
  · refine weak_mk ?_ ?_ ?_ ?_ ?_ ?_ <;> simp -implicitDefEqProofs
theorem ruFdN_spec (n : List UInt8) (d : Nat) (c : Id) (hc : c.isIt = false) (hcd : c.isNw d = false) :
    SpH Tryd.prog gl 125 d ⟨[.nils, .fn 126 [.ptr c 0]], [(c, [.str n])], []⟩ ⟨i6 (-1), [(c, [.str n])], []⟩ := by
  refine h125 rfl ?_
  have hic := inn_notNw hcd
  have Q := ruIxN_spec n 7 (.up c) hc rfl
  simp only [inSt, mpB, mpL, AV.mp, mpP]
  simp -implicitDefEqProofs [c125]
  refine onH_mk _ _ (Q) ⟨?_, ?_, ?_, ?_, ?_, ?_, ?_⟩ ?_
  iterate 7 (· simp -implicitDefEqProofs)
  simp -implicitDefEqProofs
  refine postH_r ⟨?_, ?_, ?_, ?_, ?_, ?_⟩ <;> simp -implicitDefEqProofs [hic, hc]
set_option maxRecDepth 20000 in
theorem ruleOf_none (n : List UInt8) : Sp Tryd.prog gl 102 [.agg (glO none), .str n] (.tup [.agg (ruO none), .bool false]) := by
  refine s102 rfl rfl ?_
  have Q := ruFdN_spec n 10 (.n 3) rfl rfl
  simp -implicitDefEqProofs [c102, glO, ruO]
  refine onH_mk _ _ (Q) ⟨?_, ?_, ?_, ?_, ?_, ?_, ?_⟩ ?_
  iterate 7 (· simp -implicitDefEqProofs)
  simp -implicitDefEqProofs
set_option maxRecDepth 20000 in
theorem ruleOf_some (g : Gl) (n : List UInt8) (hl : g.ru.length ≤ 1000000) : Sp Tryd.prog gl 102 [.agg g.row, .str n] (.tup [.agg (ruO (rF (some g) n)), .bool (rF (some g) n).isSome]) := by
  refine s102 rfl rfl ?_
  have Q := ruFd_spec g.ru n hl 10 (.n 3) rfl rfl
  have rl : (g.ru.map Ru.row).length = g.ru.length := by simp
  have rat : ∀ i (h : i < g.ru.length), ∀ h2, (g.ru.map Ru.row)[i]'h2 = g.ru[i].row := fun i h h2 => by simp
  have hx : g.row = [.str g.n, .int .u32 g.t, i6 g.g, i6 g.a, i6 g.o, i6 g.c, .sl (g.lb.map Lb.row), .sl (g.ru.map Ru.row)] := rfl
  rw [hx]
  generalize g.lb.map Lb.row = LB at *
  rcases ixN_find Ru.n n g.ru 0 with ⟨h1, h2⟩ | ⟨j, hj, h1, h2⟩
  · rw [show rF (some g) n = none from h2]
    rw [h1] at Q
    generalize g.ru.map Ru.row = GS at *
    simp -implicitDefEqProofs [c102, ruO]
    refine onH_mk _ _ (Q) ⟨?_, ?_, ?_, ?_, ?_, ?_, ?_⟩ ?_
    iterate 7 (· simp -implicitDefEqProofs)
    simp -implicitDefEqProofs
  · rw [show rF (some g) n = some g.ru[j] from h2]
    rw [h1] at Q
    have ra := rat j hj
    have hrl : (g.ru[j].row).length = 7 := rfl
    have hs : shutL g.ru[j].row = some g.ru[j].row := rfl
    simp only [ruO]
    generalize g.ru[j].row = x at *
    generalize g.ru.map Ru.row = GS at *
    have e8 : List.take 7 x = x := List.take_of_length_le (by omega)
    have gR : j < GS.length := by omega
    have q0 : ¬ ((j : Int) < 0) := by omega
    simp -implicitDefEqProofs [c102]
    refine onH_mk _ _ (Q) ⟨?_, ?_, ?_, ?_, ?_, ?_, ?_⟩ ?_
    iterate 7 (· simp -implicitDefEqProofs)
    simp -implicitDefEqProofs [ra, gR, e8, hrl, hs, q0]
theorem ruleOf_spec (o : Option Gl) (n : List UInt8) (hl : (ruOf o).length ≤ 1000000) : Sp Tryd.prog gl 102 [.agg (glO o), .str n] (.tup [.agg (ruO (rF o n)), .bool (rF o n).isSome]) := by
  cases o with
  | none => exact ruleOf_none n
  | some g => exact ruleOf_some g n hl
def kindP (had same : Bool) : Int := if had = true then (if same = true then 2 else 3) else 1
theorem kind_spec (had same : Bool) : Sp Tryd.prog gl 101 [.bool had, .bool same] (i6 (kindP had same)) := by
  refine s101 rfl rfl ?_
  unfold kindP
  cases had <;> cases same <;> simp -implicitDefEqProofs [c101]
end Go.Ai
set_option linter.unusedSimpArgs false
set_option linter.unusedVariables false
namespace Go.Ai
open Go.Proofs
set_option maxRecDepth 20000 in
theorem equal_spec (a b : List Int) (ha : a.length ≤ 1000000) (hb : b.length ≤ 1000000) : Sp Tryd.prog gl 124 [.sl (intRows a), .sl (intRows b)] (.bool (decide (a = b))) := by
  refine s124 rfl rfl ?_
  have al := intRows_len a
  have bl := intRows_len b
  have aat := intRows_at a
  have bat := intRows_at b
  obtain ⟨R, hR⟩ : ∃ R, R = decide (a = b) := ⟨_, rfl⟩
  rw [← hR]
  generalize intRows a = A at *
  generalize intRows b = B at *
  by_cases hl : a.length = b.length
  · have hl' : ((a.length : Int) != (b.length : Int)) = false := by simp [hl]
    simp -implicitDefEqProofs [c124, al, bl, hl, hl']
    refine wp_lpk (α := Nat) (fun i => ⟨[(0, .sl A), (1, .sl B), (12, i6 b.length), (13, i6 i)], [], []⟩) (fun i => i ≤ a.length ∧ decide (a.drop i = b.drop i) = R) (fun i => a.length - i) ?_ 0 ?_ ?_
    · rintro K i hK ⟨h1, h2⟩
      by_cases g : i < a.length
      · have t1 : IntKind.i64.wrap ((i : Int) + 1) = (i + 1 : Nat) := by rw [wrap_i64] <;> omega
        have g2 : i < b.length := by omega
        have gA : i < A.length := by omega
        have gB : i < B.length := by omega
        have ra := aat i g
        have rb := bat i g2
        rw [List.drop_eq_getElem_cons g, List.drop_eq_getElem_cons g2] at h2
        have fin : a[i] = b[i] → ∀ σ', Weak σ' ⟨[(0, .sl A), (1, .sl B), (12, i6 b.length), (13, i6 (i + 1 : Nat))], [], []⟩ → K σ' := fun he σ' hσ => hK (i + 1) σ' ⟨by omega, by rw [← h2, he, Bool.eq_iff_iff]; simp only [decide_eq_true_eq, List.cons.injEq, true_and]⟩ (by omega) hσ
        clear hK aat bat
        generalize a[i] = x at *
        generalize b[i] = y at *
        by_cases he : x = y
        · subst he
          have fin := fin rfl
          have e : (x != x) = false := by simp
          simp -implicitDefEqProofs [g, g2, gA, gB, ra, rb, al, bl, e]
          refine fin _ ?_
          refine weak_mk ?_ ?_ ?_ ?_ ?_ ?_ <;> simp -implicitDefEqProofs [t1]
        · have e : (x != y) = true := by simpa using he
          have : R = false := by rw [← h2]; simp [he]
          subst this
          simp -implicitDefEqProofs [g, g2, gA, gB, ra, rb, al, bl, e]
      · obtain rfl : i = a.length := by omega
        have : R = true := by rw [← h2, List.drop_eq_nil_of_le (by omega), List.drop_eq_nil_of_le (by omega)]; rfl
        subst this
        simp -implicitDefEqProofs [al, hl]
    · exact ⟨Nat.zero_le _, by simp [hR]⟩
    · refine weak_mk ?_ ?_ ?_ ?_ ?_ ?_ <;> simp -implicitDefEqProofs
  · have hl' : ((a.length : Int) != (b.length : Int)) = true := by simp; omega
    have : R = false := by rw [hR]; simp; intro e; exact hl (congrArg List.length e)
    subst this
    simp -implicitDefEqProofs [c124, al, bl, hl, hl']
theorem cu_len (a : Array Int) : ∀ m, (Lib.compactUpTo a m).length ≤ m
  | 0 => by simp [Lib.compactUpTo]
  | m + 1 => by
    rw [Lib.compactUpTo_succ]
    have := cu_len a m
    split <;> simp <;> omega
theorem winP_len (x : Gl) : (winP x).length ≤ 2 * x.ru.length + 1 := by
  have e : winP x = Lib.compactUpTo (sortI (allW x)).toArray (sortI (allW x)).length := rfl
  have h1 := cu_len (sortI (allW x)).toArray (sortI (allW x)).length
  have h2 : (sortI (allW x)).length = (allW x).length := (List.mergeSort_perm _ _).length_eq
  have h3 := allW_len x
  rw [e]; omega
/-- Does a goal stay? -/
def stP (x y : Gl) : Bool := x.g == y.g && (x.c == y.c && decide (winP x = winP y))
set_option maxRecDepth 20000 in
theorem stays_spec (x y : Gl) (hx : x.ru.length ≤ 10) (hy : y.ru.length ≤ 10) : Sp Tryd.prog gl 100 [.agg x.row, .agg y.row] (.bool (stP x y)) := by
  refine s100 rfl rfl ?_
  have W1 := win_spec x hx
  have W2 := win_spec y hy
  have E := equal_spec (winP x) (winP y) (by have := winP_len x; omega) (by have := winP_len y; omega)
  have ex : x.row = [.str x.n, .int .u32 x.t, i6 x.g, i6 x.a, i6 x.o, i6 x.c, .sl (x.lb.map Lb.row), .sl (x.ru.map Ru.row)] := rfl
  have ey : y.row = [.str y.n, .int .u32 y.t, i6 y.g, i6 y.a, i6 y.o, i6 y.c, .sl (y.lb.map Lb.row), .sl (y.ru.map Ru.row)] := rfl
  rw [ex] at W1 ⊢
  rw [ey] at W2 ⊢
  unfold stP
  generalize intRows (winP x) = A at *
  generalize intRows (winP y) = B at *
  generalize decide (winP x = winP y) = b3 at *
  generalize x.lb.map Lb.row = LB at *
  generalize y.lb.map Lb.row = LC at *
  generalize x.ru.map Ru.row = RU at *
  generalize y.ru.map Ru.row = RV at *
  cases h1 : (x.g == y.g)
  · simp -implicitDefEqProofs [c100, h1]
  · cases h2 : (x.c == y.c)
    · simp -implicitDefEqProofs [c100, h1, h2]
    · simp -implicitDefEqProofs [c100, h1, h2]
      refine onC_mk _ (W1) ?_
      simp -implicitDefEqProofs
      refine onC_mk _ (W2) ?_
      simp -implicitDefEqProofs
      refine onC_mk _ (E) ?_
      simp -implicitDefEqProofs
end Go.Ai
set_option linter.unusedSimpArgs false
set_option linter.unusedVariables false
namespace Go.Ai
open Go.Proofs
/-- A turn. -/
def tn (g r : List UInt8) (k : Int) : List AV := [.str g, .str r, i6 k]
set_option maxRecDepth 20000 in
theorem add_spec (L : List (List AV)) (hl : L.length ≤ 1000000) (hL : ∀ r ∈ L, r.length = 3) (g r : List UInt8) (k : Int) (d : Nat) (b : Id) (hb : b.isIt = false) (hbd : b.isNw d = false) :
    SpH Tryd.prog gl 59 d ⟨[.ptr b 0, .str g, .str r, i6 k], [(b, [.sl L])], [(.b b 0, 3)]⟩ ⟨.tup [], [(b, [.sl (L ++ [tn g r k])])], [(.b b 0, 3)]⟩ := by
  refine h59 rfl ?_
  have hib := inn_notNw hbd
  have hlim : lim = 140737488355328 := rfl
  have hll : (L.length + 1) * 40 ≤ 140737488355328 := by omega
  simp only [inSt, mpB, mpL, AV.mp, mpP]
  simp -implicitDefEqProofs [c59, hlim, hll, tn]
  refine ⟨hL, ?_⟩
  refine postH_r ⟨?_, ?_, ?_, ?_, ?_, ?_⟩ <;> simp -implicitDefEqProofs [hib, hb]
theorem glO_len (o : Option Gl) : (glO o).length = 8 := by cases o <;> rfl
theorem glO_ids (o : Option Gl) : idsL (glO o) = [] := by cases o <;> rfl
theorem glO_shut (o : Option Gl) : shutL (glO o) = some (o.getD Gl.zero).row := by cases o <;> rfl
theorem ruleOf_get (o : Option Gl) (n : List UInt8) (hl : (ruOf o).length ≤ 1000000) : Sp Tryd.prog gl 102 [.agg (o.getD Gl.zero).row, .str n] (.tup [.agg (ruO (rF o n)), .bool (rF o n).isSome]) := by
  cases o with
  | none => exact ruleOf_some Gl.zero n (by simp [Gl.zero])
  | some g => exact ruleOf_some g n hl
theorem ruO_len (o : Option Ru) : (ruO o).length = 7 := by cases o <;> rfl
theorem ruO_ids (o : Option Ru) : idsL (ruO o) = [] := by cases o <;> rfl
theorem ruO_shut (o : Option Ru) : shutL (ruO o) = some (ruO o) := by cases o <;> rfl
/-- The rules of a list that another goal hasn't. -/
def goneR (nm : List UInt8) (o : Option Gl) (l : List Ru) : List (List AV) := l.flatMap fun r => if (rF o r.n).isSome = true then [] else [tn nm r.n 4]
theorem goneR_snoc (nm : List UInt8) (o : Option Gl) (l : List Ru) (i : Nat) (h : i < l.length) : goneR nm o (l.take (i + 1)) = goneR nm o (l.take i) ++ if (rF o l[i].n).isSome = true then [] else [tn nm l[i].n 4] := by
  unfold goneR
  rw [List.take_succ_eq_append_getElem h, List.flatMap_append]
  simp
theorem goneR_len (nm : List UInt8) (o : Option Gl) : ∀ l : List Ru, (goneR nm o l).length ≤ l.length
  | [] => by simp [goneR]
  | r :: l => by
    have := goneR_len nm o l
    have e : goneR nm o (r :: l) = (if (rF o r.n).isSome = true then [] else [tn nm r.n 4]) ++ goneR nm o l := by simp [goneR]
    rw [e, List.length_append]
    split <;> simp <;> omega
theorem goneR_three (nm : List UInt8) (o : Option Gl) (l : List Ru) : ∀ r ∈ goneR nm o l, r.length = 3 := by
  intro r hr
  unfold goneR at hr
  obtain ⟨x, _, hx⟩ := List.mem_flatMap.1 hr
  split at hx
  · simp at hx
  · simp only [List.mem_singleton] at hx; subst hx; rfl
set_option maxRecDepth 20000 in
theorem gone_spec (x : Gl) (o : Option Gl) (L : List (List AV)) (hl : L.length + x.ru.length ≤ 1000000) (hL : ∀ r ∈ L, r.length = 3) (ho : (ruOf o).length ≤ 1000000) (d : Nat) (b : Id) (hb : b.isIt = false) (hbd : b.isNw d = false) :
    SpH Tryd.prog gl 60 d ⟨[.ptr b 0, .agg x.row, .agg (glO o)], [(b, [.sl L])], [(.b b 0, 3)]⟩ ⟨.tup [], [(b, [.sl (L ++ goneR x.n o x.ru)])], [(.b b 0, 3)]⟩ := by
  refine h60 rfl ?_
  have hib := inn_notNw hbd
  have hx : x.row = [.str x.n, .int .u32 x.t, i6 x.g, i6 x.a, i6 x.o, i6 x.c, .sl (x.lb.map Lb.row), .sl (x.ru.map Ru.row)] := rfl
  have rat : ∀ i (h : i < x.ru.length), ∀ h2, (x.ru.map Ru.row)[i]'h2 = [.str x.ru[i].n, .bool x.ru[i].p, i6 x.ru[i].l, i6 x.ru[i].s, u x.ru[i].f, i6 x.ru[i].w, i6 x.ru[i].k] := fun i h h2 => by simp [Ru.row]
  have rl : (x.ru.map Ru.row).length = x.ru.length := by simp
  have P1 := glO_len o
  have P2 := glO_ids o
  have P3 : ∀ f, mpL f (glO o) = glO o := fun f => mpL_noids P2
  have hw := fun n => ruleOf_get o n ho
  have P4 := glO_shut o
  obtain ⟨LL, hLL⟩ : ∃ LL : Nat → List (List AV), LL = fun i => L ++ goneR x.n o (x.ru.take i) := ⟨_, rfl⟩
  have s0 : LL 0 = L := by rw [hLL]; simp [goneR]
  have sN : L ++ goneR x.n o x.ru = LL x.ru.length := by rw [hLL]; simp
  have s1 : ∀ i (h : i < x.ru.length), LL (i + 1) = LL i ++ if (rF o x.ru[i].n).isSome = true then [] else [tn x.n x.ru[i].n 4] := fun i h => by
    simp only [hLL, goneR_snoc x.n o x.ru i h, List.append_assoc]
  have s2 : ∀ i, i ≤ x.ru.length → (LL i).length ≤ L.length + i := fun i h => by
    have := goneR_len x.n o (x.ru.take i)
    rw [List.length_take] at this
    simp only [hLL, List.length_append]; omega
  have s3 : ∀ i, ∀ r ∈ LL i, r.length = 3 := fun i r hr => by
    simp only [hLL, List.mem_append] at hr
    exact hr.elim (hL r) (goneR_three _ _ _ r)
  have A := fun i (h : i ≤ x.ru.length) g r k => add_spec (LL i) (by have := s2 i h; omega) (s3 i) g r k 31 (.up b) hb rfl
  clear hLL s2 s3 hL
  rw [sN, hx]
  rw [← s0]
  generalize glO o = P at *
  generalize (o.getD Gl.zero).row = P' at *
  generalize x.lb.map Lb.row = LB at *
  generalize x.ru.map Ru.row = RU at *
  generalize x.ru = ru at *
  have e8 : List.take 8 P = P := List.take_of_length_le (by omega)
  simp only [inSt, mpB, mpL, AV.mp, mpP, P3]
  simp -implicitDefEqProofs [c60, rl]
  refine wp_lpk (α := Nat) (fun i => ⟨[(0, .ptr (.up b) 0), (4, .ptr (.n 4) 0), (5, .ptr (.n 5) 0), (11, .sl RU), (12, i6 ru.length), (13, i6 i)], [(.n 4, [.str x.n, .int .u32 x.t, i6 x.g, i6 x.a, i6 x.o, i6 x.c, .sl LB, .sl RU]), (.n 5, P), (.up b, [.sl (LL i)])], [(.b (.up b) 0, 3)]⟩)
    (fun i => i ≤ ru.length) (fun i => ru.length - i) ?_ 0 ?_ ?_
  · rintro K i hK h1
    by_cases g : i < ru.length
    · have t1 : IntKind.i64.wrap ((i : Int) + 1) = (i + 1 : Nat) := by rw [wrap_i64] <;> omega
      have ra := rat i g
      have gR : i < RU.length := by omega
      have hw := hw ru[i].n
      have A := A i h1 x.n ru[i].n 4
      have s1 := s1 i g
      have q1 := ruO_len (rF o ru[i].n)
      have q2 := ruO_ids (rF o ru[i].n)
      have q3 := ruO_shut (rF o ru[i].n)
      have fin : ∀ σ', Weak σ' ⟨[(0, .ptr (.up b) 0), (4, .ptr (.n 4) 0), (5, .ptr (.n 5) 0), (11, .sl RU), (12, i6 ru.length), (13, i6 (i + 1 : Nat))], [(.n 4, [.str x.n, .int .u32 x.t, i6 x.g, i6 x.a, i6 x.o, i6 x.c, .sl LB, .sl RU]), (.n 5, P), (.up b, [.sl (LL (i + 1))])], [(.b (.up b) 0, 3)]⟩ → K σ' :=
        fun σ' hσ => hK (i + 1) σ' (by omega) (by omega) hσ
      clear hK rat
      generalize ru[i] = r at *
      generalize (rF o r.n).isSome = f at *
      generalize ruO (rF o r.n) = q at *
      have e7 : List.take 7 q = q := List.take_of_length_le (by omega)
      rw [s1] at fin
      generalize LL i = M at *
      simp -implicitDefEqProofs [g, gR, ra, rl, P1, P4, e8]
      refine onC_mk _ (hw) ?_
      cases f
      · simp -implicitDefEqProofs [q1, q2, q3, e7]
        refine onH_mk _ _ (A) ⟨?_, ?_, ?_, ?_, ?_, ?_, ?_⟩ ?_
        iterate 7 (· simp -implicitDefEqProofs [P2, q2])
        simp -implicitDefEqProofs [t1]
        refine fin _ ?_
        refine weak_mk ?_ ?_ ?_ ?_ ?_ ?_ <;> simp -implicitDefEqProofs [t1, P2, q2]
      · simp -implicitDefEqProofs [q1, q2, q3, e7, t1]
        refine fin _ ?_
        refine weak_mk ?_ ?_ ?_ ?_ ?_ ?_ <;> simp -implicitDefEqProofs [t1, P2, q2]
    · obtain rfl : i = ru.length := by omega
      clear hK
      simp -implicitDefEqProofs
      refine postH_r ⟨?_, ?_, ?_, ?_, ?_, ?_⟩ <;> simp -implicitDefEqProofs [hib, hb]
  · exact Nat.zero_le _
  · refine weak_mk ?_ ?_ ?_ ?_ ?_ ?_ <;> simp -implicitDefEqProofs [P2]
end Go.Ai
