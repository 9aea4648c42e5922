/- P12: a part of the proof: the rules, or what functions compute. Conditions: as each theorem says. -/
import Derived.Test.YtidcomakahbepaaGreatDoorP10
import Derived.Test.YtidcomakahbepaaGreatDoorP11
import Derived.Test.YtidcomakahbepaaGreatDoorP6
import Derived.Test.YtidcomakahbepaaGreatDoorP9
import Derived.Test.YtidcomakahbepaaGreatDoorP7
set_option linter.unusedSimpArgs false
set_option linter.unusedVariables false
set_option maxRecDepth 20000
namespace Go.Ai
open Go.Proofs
theorem bsI_uniq {W : List Int} {z : Int} {k : Nat} (hr : Rising W) (h : W[k]? = some z) : bsI W z = k := by
 obtain ⟨hk, e⟩ := List.getElem?_eq_some_iff.1 h
 have hz : z ∈ W := by rw [← e]; exact List.getElem_mem hk
 obtain ⟨hb, eb⟩ := List.getElem?_eq_some_iff.1 ((bsI_mem hr).1 hz)
 have h1 := bsI_lt (z := z) hr k hk
 rw [e] at h1
 have h2 : ¬ k < bsI W z := fun q => by have := h1.2 q; omega
 rcases Nat.lt_or_ge (bsI W z) k with q | q
 ·have := List.pairwise_iff_getElem.1 hr _ _ hb hk q
  rw [e, eb] at this; omega
 ·omega
theorem xwindow_spec (X : Id) (hX : X.isIt = false) (x : Gl) (hl : x.ru.length ≤ 10) (n g : Nat) (wd : Nat → Nat) (hw : WdOk x n g wd) (t : Nat) (ht : t ≤ 253402300799) (sd : Bool) (L : List Ev) (hL : LOk n (fun i => wK (wd i) g) (fun i => wW (wd i) g) t L) (hll : L.length ≤ 1000000) (z : Int) (d : Nat) (hd : X.isNw d = false) :
  SpH Tryz.prog gl 19 d ⟨[.ptr X 0, i6 z], [(X, xC x t sd L)], [(.b X 10, 3)]⟩ ⟨wndV (winP x) (fun i => wK (wd i) g) (fun i => wW (wd i) g) t L sd z, [(X, xC x t sd L)], [(.b X 10, 3)]⟩ := by
 refine h19 rfl ?_
 have hi := inn_notNw hd
 have WS := rwin_spec x hl
 have hr := winP_rising x
 obtain ⟨hWl, hW1⟩ := hw.rows
 have hWa := hw.at
 have hWi := fun i hi => (hw.wd i hi).1
 have hWn := hw.len
 have RS := fun v e he => xring_spec (.up X) hX x g hw.gg t sd L v e he
 have SS := fun k hk e => ysum_spec (.nw 32 (.n 20)) rfl (wd k) g (hw.wd k hk).2 t ht L hL.le hL.ok hll (hL.sm k hk) e
 have hn1 := hw.n1
 have hlt := fun v (hv : v ∈ winP x) => (bsI_mem (z := v) hr).1 hv
 have hyes : ∀ k, k < n → wndV (winP x) (fun i => wK (wd i) g) (fun i => wW (wd i) g) t L sd ((wd k : Nat) : Int) = (if sd = true then .tup [.agg [u 0, u 0], i6 17] else .tup [.agg [u (sumG (wK (wd k) g) (wW (wd k) g) (t / wW (wd k) g) L), u (sumT (wK (wd k) g) (wW (wd k) g) (t / wW (wd k) g) L)], i6 0]) := fun k hk => by
  have e := hWi k hk
  unfold wndV
  rw [if_pos (List.mem_of_getElem? e), bsI_uniq hr e]
 have hno : (∀ i, i < n → ((wd i : Nat) : Int) ≠ z) → wndV (winP x) (fun i => wK (wd i) g) (fun i => wW (wd i) g) t L sd z = .tup [.agg [u 0, u 0], i6 7] := fun h => by
  unfold wndV
  rw [if_neg]
  intro hz
  obtain ⟨j, hj, e⟩ := List.getElem_of_mem hz
  have q := hWi j (by omega)
  rw [List.getElem?_eq_getElem hj, e] at q
  exact h j (by omega) (Option.some.inj q).symm
 generalize intRows (winP x) = W at *
 simp only [Gl.row] at WS
 simp only [xC, yC] at RS SS ⊢
 generalize evRows L = rows at *
 generalize wndV (winP x) (fun i => wK (wd i) g) (fun i => wW (wd i) g) t L sd = V at *
 simp only [inSt, mpL, mpB, mpP, AV.mp, Pl.mp]
 simp -implicitDefEqProofs [c19]
 refine onC_mk _ WS ?_
 simp -implicitDefEqProofs
 refine wp_lpk (α := Nat) (fun k => ⟨[(0, .ptr (.up X) 0), (1, i6 z), (4, .ptr (.n 4) 0), (6, .sl W), (7, i6 k)], [(.n 4, [u 0, u 0]), (.up X, [.str x.n, .int .u32 x.t, i6 x.g, i6 x.a, i6 x.o, i6 x.c, .sl (x.lb.map Lb.row), .sl (x.ru.map Ru.row), i6 t, .bool sd, .sl rows])], [(.b (.up X) 10, 3)]⟩) (fun k => k ≤ n ∧ ∀ i, i < k → ((wd i : Nat) : Int) ≠ z) (fun k => n - k) ?_ 0 ?_ ?_
 ·rintro K k hK ⟨k1, k2⟩
  by_cases c : k < n
  ·have c' : (k : Int) < n := by omega
   have w1 : IntKind.i64.wrap ((k : Int) + 1) = (k + 1 : Nat) := by rw [wr] <;> omega
   have kl : k < W.length := by omega
   have ew0 := hWa k c
   have ew : W[k]'kl = [i6 ((wd k : Nat) : Int)] := by rw [List.getElem?_eq_getElem kl] at ew0; exact Option.some.inj ew0
   have RSk := RS (wd k)
   have SSk := SS k c
   have hyk := hyes k c
   by_cases e : ((wd k : Nat) : Int) = z
   ·have e' : (((wd k : Nat) : Int) != z) = false := by rw [e]; simp
    rw [← e] at e' ⊢
    rw [hyk]
    clear hK RS SS hWa hWi hlt hyes hyk hno k2 e
    generalize sumG (wK (wd k) g) (wW (wd k) g) (t / wW (wd k) g) L = sg at *
    generalize sumT (wK (wd k) g) (wW (wd k) g) (t / wW (wd k) g) L = st at *
    cases sd with
    | true =>
     simp -implicitDefEqProofs [c, c', kl, ew, ew0, hWl, hW1, e']
     refine postH_r ⟨?_, ?_, ?_, ?_, ?_, ?_⟩ <;> simp -implicitDefEqProofs [hi, hX, hd]
    | false =>
     simp -implicitDefEqProofs [c, c', kl, ew, ew0, hWl, hW1, e']
     refine onH_mk _ _ (RSk _ rfl) ⟨?_, ?_, ?_, ?_, ?_, ?_, ?_⟩ ?_
     iterate 7 (· simp)
     simp -implicitDefEqProofs
     refine onH_mk _ _ (SSk _ (by simp)) ⟨?_, ?_, ?_, ?_, ?_, ?_, ?_⟩ ?_
     iterate 7 (· simp)
     simp -implicitDefEqProofs
     refine postH_r ⟨?_, ?_, ?_, ?_, ?_, ?_⟩ <;> simp -implicitDefEqProofs [hi, hX, hd]
   ·have e' : (((wd k : Nat) : Int) != z) = true := by rw [bne_iff_ne]; exact e
    have fin := fun σ' hσ => hK (k + 1) σ' ⟨by omega, fun i hi => by
     by_cases e2 : i = k
     ·subst e2; exact e
     ·exact k2 i (by omega)⟩ (by omega) hσ
    clear hK RS SS hWa hWi hlt hyes hyk hno k2
    simp -implicitDefEqProofs [c, c', kl, ew, ew0, hWl, hW1, e', w1]
    refine fin _ ?_
    refine weak_mk ?_ ?_ ?_ ?_ ?_ ?_ <;> simp -implicitDefEqProofs [w1]
  ·obtain rfl : k = n := by omega
   have hV := hno k2
   clear hK RS SS hWa hWi hlt hyes hno
   have c' : ¬ ((k : Int) < k) := by omega
   rw [hV]
   simp -implicitDefEqProofs [c', hWl]
   refine postH_r ⟨?_, ?_, ?_, ?_, ?_, ?_⟩ <;> simp -implicitDefEqProofs [hi, hX, hd]
 ·exact ⟨Nat.zero_le _, fun i hi => by omega⟩
 ·refine weak_mk ?_ ?_ ?_ ?_ ?_ ?_ <;> simp -implicitDefEqProofs
theorem xfull_spec (X : Id) (hX : X.isIt = false) (x : Gl) (hc : 0 ≤ x.c) (hl : x.ru.length ≤ 10) (n g : Nat) (wd : Nat → Nat) (hw : WdOk x n g wd) (t : Nat) (ht : t ≤ 253402300799) (sd : Bool) (L : List Ev) (hL : LOk n (fun i => wK (wd i) g) (fun i => wW (wd i) g) t L) (hP : pcT x.c t L ≤ 9223372036854775807) (hll : L.length ≤ 1000000) (a cg ct : Nat) (ha : a ≤ t) (hct : ct < 18446744073709551616) (d : Nat) (hd : X.isNw d = false) :
  SpH Tryz.prog gl 101 d ⟨[.ptr X 0, i6 a, .agg [u cg, u ct]], [(X, xC x t sd L)], [(.b X 10, 3)]⟩ ⟨.bool (!roomB x.c n (fun i => wK (wd i) g) (fun i => wW (wd i) g) t L a ct), [(X, xC x t sd L)], [(.b X 10, 3)]⟩ := by
 refine h101 rfl ?_
 have hi := inn_notNw hd
 have WS := rwin_spec x hl
 obtain ⟨hWl, hW1⟩ := hw.rows
 have hWa := hw.at
 have hgg := hw.gg
 have RS := fun v e he => xring_spec (.up X) hX x g hw.gg t sd L v e he
 have SS := fun k hk e => ysum_spec (.nw 43 (.n 20)) rfl (wd k) g (hw.wd k hk).2 t ht L hL.le hL.ok hll (hL.sm k hk) e
 have WI := fun k hk => rwithin_spec (wd k) g t a (hw.wd k hk).2 ht (by omega)
 have OV := fun sg st => rover_spec sg st cg ct hct
 have PS := fun e he => xperiod_spec (.up X) hX x t ht sd L e he
 have CS := fun e he => xcount_spec (.up X) hX x hc t ht sd L hL.ok hll hP e he
 have hn1 := hw.n1
 have hno := fun k hk => roomB_no (c := x.c) (n := n) (K := fun i => wK (wd i) g) (w := fun i => wW (wd i) g) (t := t) (L := L) (a := a) (ct := ct) (k := k) hk
 have hyes := roomB_yes (c := x.c) (n := n) (K := fun i => wK (wd i) g) (w := fun i => wW (wd i) g) (t := t) (L := L) (a := a) (ct := ct)
 have hok : ∀ k, okW (fun i => wK (wd i) g) (fun i => wW (wd i) g) t L a ct k = (!inW (wK (wd k) g) (t / wW (wd k) g) (a / wW (wd k) g) || fitB (sumT (wK (wd k) g) (wW (wd k) g) (t / wW (wd k) g) L) ct) := fun k => rfl
 have hop : okP x.c t L a ct = (x.c == 0 || (decide (a < pF x.c t) || fitB (pcT x.c t L) ct)) := rfl
 generalize intRows (winP x) = W at *
 generalize roomB x.c n (fun i => wK (wd i) g) (fun i => wW (wd i) g) t L a ct = V at *
 simp only [Gl.row] at WS
 simp only [xC, yC, hgg] at RS SS PS CS WS ⊢
 generalize evRows L = rows at *
 simp only [inSt, mpL, mpB, mpP, AV.mp, Pl.mp]
 simp -implicitDefEqProofs [c101]
 refine onC_mk _ WS ?_
 simp -implicitDefEqProofs
 refine wp_lpk (α := Nat) (fun k => ⟨[(0, .ptr (.up X) 0), (1, i6 a), (5, .ptr (.n 5) 0), (7, .sl W), (8, i6 k)], [(.n 5, [u cg, u ct]), (.up X, [.str x.n, .int .u32 x.t, i6 g, i6 x.a, i6 x.o, i6 x.c, .sl (x.lb.map Lb.row), .sl (x.ru.map Ru.row), i6 t, .bool sd, .sl rows])], [(.b (.up X) 10, 3)]⟩) (fun k => k ≤ n ∧ ∀ i, i < k → okW (fun i => wK (wd i) g) (fun i => wW (wd i) g) t L a ct i = true) (fun k => n - k) ?_ 0 ?_ ?_
 ·rintro K k hK ⟨k1, k2⟩
  by_cases c : k < n
  ·have c' : (k : Int) < n := by omega
   have w1 : IntKind.i64.wrap ((k : Int) + 1) = (k + 1 : Nat) := by rw [wr] <;> omega
   have kl : k < W.length := by omega
   have ew0 := hWa k c
   have ew : W[k]'kl = [i6 ((wd k : Nat) : Int)] := by rw [List.getElem?_eq_getElem kl] at ew0; exact Option.some.inj ew0
   have RSk := RS (wd k)
   have SSk := SS k c
   have WIk := WI k c
   have OVk := OV (sumG (wK (wd k) g) (wW (wd k) g) (t / wW (wd k) g) L) (sumT (wK (wd k) g) (wW (wd k) g) (t / wW (wd k) g) L)
   have hok := hok k
   have hno := hno k c
   have fin := fun (e : okW (fun i => wK (wd i) g) (fun i => wW (wd i) g) t L a ct k = true) σ' hσ => hK (k + 1) σ' ⟨by omega, fun i hi => by
    by_cases e2 : i = k
    ·subst e2; exact e
    ·exact k2 i (by omega)⟩ (by omega) hσ
   clear hK RS SS WI OV PS CS hWa hyes hop
   generalize okW (fun i => wK (wd i) g) (fun i => wW (wd i) g) t L a ct k = Z at *
   generalize sumG (wK (wd k) g) (wW (wd k) g) (t / wW (wd k) g) L = sg at *
   cases hp : inW (wK (wd k) g) (t / wW (wd k) g) (a / wW (wd k) g) with
   | false =>
    rw [hp] at WIk hok
    simp only [Bool.not_false, Bool.true_or] at hok
    have fin := fin hok
    simp -implicitDefEqProofs [c, c', kl, ew, ew0, hWl, hW1]
    refine onC_mk _ WIk ?_
    simp -implicitDefEqProofs [w1]
    refine fin _ ?_
    refine weak_mk ?_ ?_ ?_ ?_ ?_ ?_ <;> simp -implicitDefEqProofs [w1]
   | true =>
    rw [hp] at WIk hok
    simp only [Bool.not_true, Bool.false_or] at hok
    cases hf : fitB (sumT (wK (wd k) g) (wW (wd k) g) (t / wW (wd k) g) L) ct with
    | true =>
     rw [hf] at hok OVk
     have fin := fin hok
     generalize sumT (wK (wd k) g) (wW (wd k) g) (t / wW (wd k) g) L = st at *
     simp -implicitDefEqProofs [c, c', kl, ew, ew0, hWl, hW1]
     refine onC_mk _ WIk ?_
     simp -implicitDefEqProofs [c, c', kl, ew, ew0, hWl, hW1]
     refine onQ_mk _ _ (RSk _ rfl) ⟨?_, ?_, ?_, ?_, ?_, ?_, ?_⟩ ⟨?_, ?_, ?_⟩ ?_
     iterate 10 (· simp [Pl.isB, Pl.isF])
     simp -implicitDefEqProofs
     refine onQ_mk _ _ (SSk _ (by simp)) ⟨?_, ?_, ?_, ?_, ?_, ?_, ?_⟩ ⟨?_, ?_, ?_⟩ ?_
     iterate 10 (· simp [Pl.isB, Pl.isF])
     simp -implicitDefEqProofs
     refine onC_mk _ OVk ?_
     simp -implicitDefEqProofs [w1]
     refine fin _ ?_
     refine weak_mk ?_ ?_ ?_ ?_ ?_ ?_ <;> simp -implicitDefEqProofs [w1]
    | false =>
     rw [hf] at hok OVk
     rw [hno hok]
     generalize sumT (wK (wd k) g) (wW (wd k) g) (t / wW (wd k) g) L = st at *
     simp -implicitDefEqProofs [c, c', kl, ew, ew0, hWl, hW1]
     refine onC_mk _ WIk ?_
     simp -implicitDefEqProofs [c, c', kl, ew, ew0, hWl, hW1]
     refine onQ_mk _ _ (RSk _ rfl) ⟨?_, ?_, ?_, ?_, ?_, ?_, ?_⟩ ⟨?_, ?_, ?_⟩ ?_
     iterate 10 (· simp [Pl.isB, Pl.isF])
     simp -implicitDefEqProofs
     refine onQ_mk _ _ (SSk _ (by simp)) ⟨?_, ?_, ?_, ?_, ?_, ?_, ?_⟩ ⟨?_, ?_, ?_⟩ ?_
     iterate 10 (· simp [Pl.isB, Pl.isF])
     simp -implicitDefEqProofs
     refine onC_mk _ OVk ?_
     simp -implicitDefEqProofs
     refine postH_r ⟨?_, ?_, ?_, ?_, ?_, ?_⟩ <;> simp -implicitDefEqProofs [hi, hX, hd]
  ·obtain rfl : k = n := by omega
   rw [hyes k2, hop]
   have OVk := OV (pcG x.c t L) (pcT x.c t L)
   clear hK RS SS WI OV hWa hyes hop hno hok
   have c' : ¬ ((k : Int) < k) := by omega
   generalize pcG x.c t L = pg at *
   generalize pT x.c t = tt at *
   by_cases c0 : x.c = 0
   ·have c0' : (x.c == 0) = true := by rw [c0]; rfl
    have c1 : ¬ (0 < x.c) := by omega
    rw [c0']
    simp -implicitDefEqProofs [c', hWl]
    refine onH_mk _ _ (PS _ rfl) ⟨?_, ?_, ?_, ?_, ?_, ?_, ?_⟩ ?_
    iterate 7 (· simp)
    simp -implicitDefEqProofs [c1]
    refine postH_r ⟨?_, ?_, ?_, ?_, ?_, ?_⟩ <;> simp -implicitDefEqProofs [hi, hX, hd]
   ·have c0' : (x.c == 0) = false := by rw [beq_eq_false_iff_ne]; exact c0
    have c1 : 0 < x.c := by omega
    rw [c0']
    by_cases c2 : a < pF x.c t
    ·have c2' : ¬ ((pF x.c t : Int) ≤ a) := by omega
     have c3 : ¬ (pF x.c t ≤ a) := by omega
     rw [decide_eq_true c2]
     generalize pF x.c t = f at *
     simp -implicitDefEqProofs [c', hWl]
     refine onH_mk _ _ (PS _ rfl) ⟨?_, ?_, ?_, ?_, ?_, ?_, ?_⟩ ?_
     iterate 7 (· simp)
     simp -implicitDefEqProofs [c1, c2', c3]
     refine postH_r ⟨?_, ?_, ?_, ?_, ?_, ?_⟩ <;> simp -implicitDefEqProofs [hi, hX, hd]
    ·have c2' : ((pF x.c t : Int) ≤ a) := by omega
     have c3 : (pF x.c t ≤ a) := by omega
     rw [decide_eq_false c2]
     generalize pF x.c t = f at *
     generalize pcT x.c t L = pt at *
     generalize fitB pt ct = fb at *
     simp -implicitDefEqProofs [c', hWl]
     refine onH_mk _ _ (PS _ rfl) ⟨?_, ?_, ?_, ?_, ?_, ?_, ?_⟩ ?_
     iterate 7 (· simp)
     simp -implicitDefEqProofs [c1, c2', c3]
     refine onQ_mk _ _ (CS _ rfl) ⟨?_, ?_, ?_, ?_, ?_, ?_, ?_⟩ ⟨?_, ?_, ?_⟩ ?_
     iterate 10 (· simp [Pl.isB, Pl.isF])
     simp -implicitDefEqProofs
     refine onC_mk _ OVk ?_
     simp -implicitDefEqProofs
     refine postH_r ⟨?_, ?_, ?_, ?_, ?_, ?_⟩ <;> simp -implicitDefEqProofs [hi, hX, hd]
 ·exact ⟨Nat.zero_le _, fun i hi => by omega⟩
 ·refine weak_mk ?_ ?_ ?_ ?_ ?_ ?_ <;> simp -implicitDefEqProofs
open Go.Proofs
theorem xadd_bad (X : Id) (hX : X.isIt = false) (x : Gl) (hx : 0 ≤ x.a ∧ x.a ≤ 86400) (t : Nat) (ht : t ≤ 253402300799) (sd : Bool) (L : List Ev) (a : Int) (cg ct : Nat) (hb : addE x.a t a cg ct ≠ 0) (d : Nat) (hd : X.isNw d = false) :
  SpH Tryz.prog gl 58 d ⟨[.ptr X 0, i6 a, .agg [u cg, u ct]], [(X, xC x t sd L)], [(.b X 10, 3)]⟩ ⟨i6 (addE x.a t a cg ct), [(X, xC x t sd L)], [(.b X 10, 3)]⟩ := by
 refine h58 rfl ?_
 have hi := inn_notNw hd
 have TK := rtick19_spec a
 simp only [xC]
 generalize evRows L = rows
 simp only [inSt, mpL, mpB, mpP, AV.mp, Pl.mp]
 unfold addE at hb ⊢
 by_cases g1 : ct < cg
 ·have g1' : (ct : Int) < cg := by omega
  rw [if_pos g1]
  simp -implicitDefEqProofs [c58, g1, g1']
  refine postH_r ⟨?_, ?_, ?_, ?_, ?_, ?_⟩ <;> simp -implicitDefEqProofs [hi, hX, hd]
 ·have g1' : ¬ (ct : Int) < cg := by omega
  rw [if_neg g1] at hb ⊢
  by_cases g : 0 ≤ a ∧ a ≤ 253402300799
  ·have tk : (decide (0 ≤ a) && decide (a ≤ 253402300799)) = true := by simp [g]
   rw [tk] at TK
   rw [if_neg (fun e => e g)] at hb ⊢
   by_cases g2 : (t : Int) < a
   ·rw [if_pos g2]
    simp -implicitDefEqProofs [c58, g1, g1']
    refine onC_mk _ TK ?_
    simp -implicitDefEqProofs [g2]
    refine postH_r ⟨?_, ?_, ?_, ?_, ?_, ?_⟩ <;> simp -implicitDefEqProofs [hi, hX, hd]
   ·rw [if_neg g2] at hb ⊢
    by_cases g3 : a < t - x.a
    ·rw [if_pos g3]
     have w1 : IntKind.i64.wrap ((t : Int) - a) = (t : Int) - a := wr (by omega) (by omega)
     have g3' : x.a < (t : Int) - a := by omega
     simp -implicitDefEqProofs [c58, g1, g1']
     refine onC_mk _ TK ?_
     simp -implicitDefEqProofs [g2]
     simp -implicitDefEqProofs [w1, g3']
     refine postH_r ⟨?_, ?_, ?_, ?_, ?_, ?_⟩ <;> simp -implicitDefEqProofs [hi, hX, hd]
    ·rw [if_neg g3] at hb; exact absurd rfl hb
  ·rw [if_pos g]
   have tk : (decide (0 ≤ a) && decide (a ≤ 253402300799)) = false := by
    rw [Bool.and_eq_false_iff, decide_eq_false_iff_not, decide_eq_false_iff_not]
    by_cases h : 0 ≤ a
    ·exact .inr fun e => g ⟨h, e⟩
    ·exact .inl h
   rw [tk] at TK
   simp -implicitDefEqProofs [c58, g1, g1']
   refine onC_mk _ TK ?_
   simp -implicitDefEqProofs
   refine postH_r ⟨?_, ?_, ?_, ?_, ?_, ?_⟩ <;> simp -implicitDefEqProofs [hi, hX, hd]
theorem xadd_full (X : Id) (hX : X.isIt = false) (x : Gl) (hx : 0 ≤ x.a ∧ x.a ≤ 86400) (hc : 0 ≤ x.c) (hl : x.ru.length ≤ 10) (n g : Nat) (wd : Nat → Nat) (hw : WdOk x n g wd) (t : Nat) (ht : t ≤ 253402300799) (sd : Bool) (L : List Ev) (hL : LOk n (fun i => wK (wd i) g) (fun i => wW (wd i) g) t L) (hP : pcT x.c t L ≤ 9223372036854775807) (hll : L.length ≤ 1000000) (a cg ct : Nat) (hct : ct < 18446744073709551616)
  (hE : addE x.a t a cg ct = 0) (hs : sd = true ∨ roomB x.c n (fun i => wK (wd i) g) (fun i => wW (wd i) g) t L a ct = false) (d : Nat) (hd : X.isNw d = false) :
  SpH Tryz.prog gl 58 d ⟨[.ptr X 0, i6 a, .agg [u cg, u ct]], [(X, xC x t sd L)], [(.b X 10, 3)]⟩ ⟨i6 17, [(X, xC x t true L)], [(.b X 10, 3)]⟩ := by
 refine h58 rfl ?_
 have hi := inn_notNw hd
 have TK := rtick19_spec a
 unfold addE at hE
 by_cases g1 : ct < cg
 ·rw [if_pos g1] at hE; cases hE
 rw [if_neg g1] at hE
 by_cases g' : ¬ (0 ≤ (a : Int) ∧ (a : Int) ≤ 253402300799)
 ·rw [if_pos g'] at hE; cases hE
 rw [if_neg g'] at hE
 by_cases g2 : (t : Int) < a
 ·rw [if_pos g2] at hE; cases hE
 rw [if_neg g2] at hE
 by_cases g3 : (a : Int) < t - x.a
 ·rw [if_pos g3] at hE; cases hE
 clear hE
 have g1' : ¬ (ct : Int) < cg := by omega
 have g2' : ¬ t < a := by omega
 have tk : (decide ((0 : Int) ≤ a) && decide ((a : Int) ≤ 253402300799)) = true := by simp; omega
 rw [tk] at TK
 have w1 : IntKind.i64.wrap ((t : Int) - a) = (t : Int) - a := wr (by omega) (by omega)
 have g3' : ¬ x.a < (t : Int) - a := by omega
 have FSx := fun e he => xfull_spec (.up X) hX x hc hl n g wd hw t ht sd L hL hP hll a cg ct (by omega) hct e he
 simp only [xC] at FSx ⊢
 generalize evRows L = rows at *
 simp only [inSt, mpL, mpB, mpP, AV.mp, Pl.mp]
 cases sd with
 | true =>
  simp -implicitDefEqProofs [c58, g1, g1']
  refine onC_mk _ TK ?_
  simp -implicitDefEqProofs [g2, g2']
  simp -implicitDefEqProofs [w1, g3']
  refine postH_r ⟨?_, ?_, ?_, ?_, ?_, ?_⟩ <;> simp -implicitDefEqProofs [hi, hX, hd]
 | false =>
  rcases hs with hs | hs
  ·cases hs
  rw [hs] at FSx
  simp -implicitDefEqProofs [c58, g1, g1']
  refine onC_mk _ TK ?_
  simp -implicitDefEqProofs [g2, g2']
  simp -implicitDefEqProofs [w1, g3']
  refine onH_mk _ _ (FSx _ rfl) ⟨?_, ?_, ?_, ?_, ?_, ?_, ?_⟩ ?_
  iterate 7 (· simp)
  simp -implicitDefEqProofs
  refine postH_r ⟨?_, ?_, ?_, ?_, ?_, ?_⟩ <;> simp -implicitDefEqProofs [hi, hX, hd]
theorem xadd_ok (X : Id) (hX : X.isIt = false) (x : Gl) (hx : 0 ≤ x.a ∧ x.a ≤ 86400) (hc : 0 ≤ x.c) (hl : x.ru.length ≤ 10) (n g : Nat) (wd : Nat → Nat) (hw : WdOk x n g wd) (t : Nat) (ht : t ≤ 253402300799) (L : List Ev) (hL : LOk n (fun i => wK (wd i) g) (fun i => wW (wd i) g) t L) (hP : pcT x.c t L ≤ 9223372036854775807) (hll : L.length ≤ 1000000) (a cg ct : Nat) (hct : ct < 18446744073709551616)
  (hE : addE x.a t a cg ct = 0) (hs : roomB x.c n (fun i => wK (wd i) g) (fun i => wW (wd i) g) t L a ct = true) (d : Nat) (hd : X.isNw d = false) :
  SpH Tryz.prog gl 58 d ⟨[.ptr X 0, i6 a, .agg [u cg, u ct]], [(X, xC x t false L)], [(.b X 10, 3)]⟩ ⟨i6 0, [(X, xC x t false (L ++ [(a, cg, ct)]))], [(.b X 10, 3)]⟩ := by
 refine h58 rfl ?_
 have hi := inn_notNw hd
 have TK := rtick19_spec a
 unfold addE at hE
 by_cases g1 : ct < cg
 ·rw [if_pos g1] at hE; cases hE
 rw [if_neg g1] at hE
 by_cases g' : ¬ (0 ≤ (a : Int) ∧ (a : Int) ≤ 253402300799)
 ·rw [if_pos g'] at hE; cases hE
 rw [if_neg g'] at hE
 by_cases g2 : (t : Int) < a
 ·rw [if_pos g2] at hE; cases hE
 rw [if_neg g2] at hE
 by_cases g3 : (a : Int) < t - x.a
 ·rw [if_pos g3] at hE; cases hE
 clear hE
 have g1' : ¬ (ct : Int) < cg := by omega
 have g2' : ¬ t < a := by omega
 have tk : (decide ((0 : Int) ≤ a) && decide ((a : Int) ≤ 253402300799)) = true := by simp; omega
 rw [tk] at TK
 have w1 : IntKind.i64.wrap ((t : Int) - a) = (t : Int) - a := wr (by omega) (by omega)
 have g3' : ¬ x.a < (t : Int) - a := by omega
 have FSx := fun e he => xfull_spec (.up X) hX x hc hl n g wd hw t ht false L hL hP hll a cg ct (by omega) hct e he
 have rl := evRows_len L
 have r3 := evRows_3 L
 have hlim : lim = 140737488355328 := rfl
 have l1 : (L.length + 1) * 24 ≤ 140737488355328 := by omega
 have e1 : evRows (L ++ [(a, cg, ct)]) = evRows L ++ [[i6 a, u cg, u ct]] := by simp [evRows, evRow]
 rw [hs] at FSx
 simp only [xC, e1] at FSx ⊢
 generalize evRows L = rows at *
 simp only [inSt, mpL, mpB, mpP, AV.mp, Pl.mp]
 simp -implicitDefEqProofs [c58, g1, g1']
 refine onC_mk _ TK ?_
 simp -implicitDefEqProofs [g2, g2']
 simp -implicitDefEqProofs [w1, g3']
 refine onH_mk _ _ (FSx _ rfl) ⟨?_, ?_, ?_, ?_, ?_, ?_, ?_⟩ ?_
 iterate 7 (· simp)
 simp -implicitDefEqProofs [rl, hlim, l1]
 refine ⟨r3, ?_⟩
 refine postH_r ⟨?_, ?_, ?_, ?_, ?_, ?_⟩ <;> simp -implicitDefEqProofs [hi, hX, hd]
open Go.Proofs
theorem ne_none {l : List (Id × List AV)} {p : Id × List AV} {j : Id} (hp : p ∈ l) (h : lkB l j = none) : ¬ j = p.1 := by
 rintro rfl
 have := lkB_isSome hp
 rw [h] at this; cases this
theorem does_move (M A X : Id) (R B : Nat → Id) (h : NmX M A R B X) (x : Gl) (hx : goalP x = true) (hl : x.ru.length ≤ 10) (s : Mt) (k : Nat) (hs : MtOk x (winP x).length (kN x) (wN x) s k) (a : Int) (g t : Nat) (d : Nat) (hd : M.isNw d = false) :
  SpH Tryz.prog gl 17 d ⟨[.ptr M 0, .ptr X 0, .agg [i6 1, i6 a, u g, u t]], mxB M A R B X x (winP x).length (winP x) (kN x) (wN x) s, [(.b X 10, 3)]⟩ ⟨.bool true, mxB M A R B X x (winP x).length (winP x) (kN x) (wN x) (mvT s a), [(.b X 10, 3)]⟩ := by
 refine h17 rfl ?_
 have hu := h.up
 have hk := goal_k hx hl
 have hn := goal_n hl
 have hdX : X.isNw d = false := h.nx d hd
 have hiX := inn_notNw hdX
 have xi := h.xi
 have ma := h.h.ma
 have ma' : ¬ A = M := fun e => h.h.ma e.symm
 have xm := h.xm
 have xm' : ¬ M = X := fun e => h.xm e.symm
 have xa := h.xa
 have xa' : ¬ A = X := fun e => h.xa e.symm
 obtain ⟨s2, hs2⟩ : ∃ y, y = mvT s a := ⟨_, rfl⟩
 rw [← hs2]
 have hout := fun σ q1 q2 => mx_out h hd (x := x) (n := (winP x).length) (Wl := winP x) (K := kN x) (w := wN x) (s := s2) (σ := σ) q1 q2
 have houi := fun ob => mx_outi h hd x (winP x).length (winP x) (kN x) (wN x) s2 ob
 have hkey : (lkB (mxB M A R B X x (winP x).length (winP x) (kN x) (wN x) s2) X).isSome = true := mx_x ..
 have hnox := fun t L sd => mt_nox hu x (winP x).length (intRows (winP x)) (kN x) (wN x) t L sd
 have hnorm := fun t L sd => mt_norm hu x (winP x).length (intRows (winP x)) (kN x) (wN x) t L sd
 have hnon := fun t L sd s => mtU_non M A R B x (winP x).length (intRows (winP x)) (kN x) (wN x) t L sd s
 have hfr := fun t L sd s => mtU_fr M A R B x (winP x).length (intRows (winP x)) (kN x) (wN x) t L sd s
 have hinF := fun t L sd fr => mtU_inF M A R B x (winP x).length (intRows (winP x)) (kN x) (wN x) t L sd fr
 have huq := fun t L sd => mt_uq hu.h x (winP x).length (intRows (winP x)) (kN x) (wN x) t L sd
 have hks := fun t t' L L' sd sd' j => mt_ks (M := .up M) (A := .up A) (R := fun i => .up (R i)) (B := fun i => .up (B i)) x x (winP x).length (intRows (winP x)) (kN x) (wN x) t t' L L' sd sd' j
 have hrm : rmB (rgsB (fun i => .up (R i)) (fun i => .up (B i)) (rgC (kN x) (wN x) s.t s.L) (rgD (kN x) (wN x) s.t s.L) (winP x).length) (.up M) = rgsB (fun i => .up (R i)) (fun i => .up (B i)) (rgC (kN x) (wN x) s.t s.L) (rgD (kN x) (wN x) s.t s.L) (winP x).length := rgsB_rm hu.h.mr hu.h.mb _
 have hrx : rmB (rgsB (fun i => .up (R i)) (fun i => .up (B i)) (rgC (kN x) (wN x) s.t s.L) (rgD (kN x) (wN x) s.t s.L) (winP x).length) (.up X) = rgsB (fun i => .up (R i)) (fun i => .up (B i)) (rgC (kN x) (wN x) s.t s.L) (rgD (kN x) (wN x) s.t s.L) (winP x).length := rgsB_rm hu.xr hu.xb _
 have hrX := rgsB_none (R := fun i => .up (R i)) (B := fun i => .up (B i)) (C := rgC (kN x) (wN x) s.t s.L) (D := rgD (kN x) (wN x) s.t s.L) (x := .up X) hu.xr hu.xb (winP x).length
 have hrM := rgsB_none (R := fun i => .up (R i)) (B := fun i => .up (B i)) (C := rgC (kN x) (wN x) s.t s.L) (D := rgD (kN x) (wN x) s.t s.L) (x := .up M) hu.h.mr hu.h.mb (winP x).length
 have hrn := fun j => rgsB_none (R := fun i => .up (R i)) (B := fun i => .up (B i)) (C := rgC (kN x) (wN x) s.t s.L) (D := rgD (kN x) (wN x) s.t s.L) (x := .n j) (fun i e => by cases e) (fun i e => by cases e) (winP x).length
 have hrf := fun i => rgs_free (R := R) (B := B) (C := rgC (kN x) (wN x) s.t s.L) (D := rgD (kN x) (wN x) s.t s.L) (n := (winP x).length) (s := i)
 simp only [inSt, mxB_up, mpL, mpP, AV.mp, Pl.mp]
 by_cases c : 0 ≤ a ∧ a ≤ 253402300799 ∧ (s.t : Int) ≤ a
 ·obtain ⟨t', rfl⟩ := Int.eq_ofNat_of_zero_le c.1
  have e : mvT s (t' : Int) = ⟨t', s.L, s.sd⟩ := by unfold mvT; rw [if_pos c]; rfl
  rw [e] at hs2
  have M1 := fun e he => mmove_spec (.up M) (.up A) _ _ hu.h x (winP x).length hn (intRows (winP x)) (kN x) (wN x) hk s.t t' s.L hs.L s.sd (by omega) (by omega) e he
  have X1 := fun e he => xmove_ok (.up X) xi x s.t t' (by omega) (by omega) s.sd s.L e he
  have et : t' = s2.t := by rw [hs2]
  have eL : s.L = s2.L := by rw [hs2]
  have ed : s.sd = s2.sd := by rw [hs2]
  obtain ⟨m1, hm1⟩ : ∃ m, m = mtB (.up M) (.up A) (fun i => .up (R i)) (fun i => .up (B i)) x (winP x).length (intRows (winP x)) (kN x) (wN x) s.t s.L s.sd := ⟨_, rfl⟩
  obtain ⟨m2, hm2⟩ : ∃ m, m = mtB (.up M) (.up A) (fun i => .up (R i)) (fun i => .up (B i)) x (winP x).length (intRows (winP x)) (kN x) (wN x) s2.t s2.L s2.sd := ⟨_, rfl⟩
  have a1 := hnox s.t s.L s.sd
  have a2 := hnon s.t s.L s.sd
  have a3 := hfr s.t s.L s.sd
  have a4 := huq s.t s.L s.sd
  have a5 := hks s.t s2.t s.L s2.L s.sd s2.sd
  have b1 := hnox s2.t s2.L s2.sd
  have b2 := hnon s2.t s2.L s2.sd
  have b3 := hfr s2.t s2.L s2.sd
  have b4 := huq s2.t s2.L s2.sd
  have b5 := hnorm s2.t s2.L s2.sd
  have b6 := hinF s2.t s2.L s2.sd
  clear hrm hrx hrn hrf hrX hrM
  rw [← hm1] at a1 a2 a3 a4 a5 M1 ⊢
  rw [← hm2] at a5 b1 b2 b3 b4 b5 b6 hout
  generalize mxB M A R B X x (winP x).length (winP x) (kN x) (wN x) s2 = OB at *
  subst hs2
  simp only at b1 b2 b3 b4 b5 b6 a5 hout hm2
  rw [← hm2] at M1
  clear hm1 hm2
  simp only [xC] at X1 hout ⊢
  simp -implicitDefEqProofs [c17, a1, a2]
  refine onQ_pre (pre := [(.n 5, [i6 1, i6 t', u g, u t]), (.up X, xC x s.t s.sd s.L)]) (M1 _ rfl) rfl ?_ a4 a5 ?_ ?_ ?_ (b6 _) ?_
  ·simp [a1, a2]
  ·simp; exact a3 _
  ·simp [a1]
  ·simp
  simp only [xC]
  simp -implicitDefEqProofs [b1, b2, lkB_app]
  refine onQ_mk _ _ (X1 _ rfl) ⟨?_, ?_, ?_, ?_, ?_, ?_, ?_⟩ ⟨?_, ?_, ?_⟩ ?_
  iterate 6 (· simp [Pl.isB, Pl.isF, b1, b2, lkB_app])
  ·simp; (intro a b q; rcases q with q | q | q <;> first | exact b3 _ a b q | (rw [q.1]; rfl))
  iterate 3 (· simp [Pl.isB, Pl.isF, b1, b2, lkB_app])
  simp -implicitDefEqProofs [b1, b2, b5, lkB_app, rmB_app]
  refine postH_r ⟨?_, ?_, hout _ ?_ ?_, houi _, ?_, ?_⟩
  ·simp
  ·simp
  ·simp [obx, hiX]
  ·refine lk_mid (pre := [(.up X, _)]) b4 ?_
   simp -implicitDefEqProofs [b1]
  ·simp [hiX, hkey]
  ·simp
 ·have e : mvT s a = s := by unfold mvT; rw [if_neg c]
  rw [e] at hs2
  have hb : ¬ (0 ≤ a ∧ a ≤ 253402300799) ∨ a < s.t := by omega
  have M1 := fun e he => mmove_bad (.up M) (.up A) hu.h.pa x (winP x).length (intRows (winP x)) (pF x.c s.t) (pT x.c s.t) (pcG x.c s.t s.L) (pcT x.c s.t s.L) s.t s.sd a hb e he
  have X1 := fun e he => xmove_bad (.up X) xi x s.t a hb s.sd s.L e he
  generalize (if 0 ≤ a ∧ a ≤ 253402300799 then (13 : Int) else 8) = z at *
  have a1 := hnox s.t s.L s.sd
  have a2 := hnon s.t s.L s.sd 5
  have a4 := huq s.t s.L s.sd
  clear hnox hnorm hnon hfr hinF huq hks
  generalize mxB M A R B X x (winP x).length (winP x) (kN x) (wN x) s2 = OB at *
  have hs3 := hs2.symm
  clear hs2
  subst hs3
  simp only [mtB] at a1 a2 a4 hout ⊢
  generalize rgsB (fun i => .up (R i)) (fun i => .up (B i)) (rgC (kN x) (wN x) s.t s.L) (rgD (kN x) (wN x) s.t s.L) (winP x).length = RG at *
  generalize ptrC (fun i => Id.up (R i)) (winP x).length = PC at *
  simp only [xC, mtC] at M1 X1 a1 a2 a4 hout ⊢
  simp -implicitDefEqProofs [c17, hrn]
  refine onQ_mk _ _ (M1 _ rfl) ⟨?_, ?_, ?_, ?_, ?_, ?_, ?_⟩ ⟨?_, ?_, ?_⟩ ?_
  iterate 6 (· simp [Pl.isB, Pl.isF, xm, xm', ma, ma', xa, xa'])
  ·simp; exact hrf _
  iterate 3 (· simp [Pl.isB, Pl.isF, xm, xm', ma, ma', xa, xa'])
  simp -implicitDefEqProofs [xm, xm', ma, ma', xa, xa', hrm, hrx, hrn]
  refine onQ_mk _ _ (X1 _ rfl) ⟨?_, ?_, ?_, ?_, ?_, ?_, ?_⟩ ⟨?_, ?_, ?_⟩ ?_
  iterate 6 (· simp [Pl.isB, Pl.isF, xm, xm', ma, ma', xa, xa', hrm])
  ·simp; exact hrf _
  iterate 3 (· simp [Pl.isB, Pl.isF, xm, xm', ma, ma', xa, xa', hrm])
  simp -implicitDefEqProofs [xm, xm', ma, ma', xa, xa', hrm, hrx, hrn]
  refine postH_r ⟨?_, ?_, hout _ ?_ ?_, houi _, ?_, ?_⟩
  ·simp
  ·simp
  ·simp [obx, hiX]
  ·intro p hp
   have n1 := ne_none hp a1
   have n2 := ne_none hp a2
   have q := a4 p hp
   simp only [lkB, if_neg n1, if_neg n2] at q ⊢
   exact q
  ·simp [hiX, hkey]
  ·simp
open Go.Proofs
theorem stB_app {a b : List (Id × List AV)} {i : Id} {c : List AV} (h : lkB a i = none) : stB (a ++ b) i c = a ++ stB b i c := by
 induction a with
 | nil => rfl
 | cons p r ih =>
  obtain ⟨j, v⟩ := p
  simp only [lkB] at h
  split at h
  ·cases h
  ·rename_i hne
   simp only [List.cons_append, stB]
   rw [if_neg hne, ih h]
theorem does_add (M A X : Id) (R B : Nat → Id) (h : NmX M A R B X) (x : Gl) (hx : goalP x = true) (hl : x.ru.length ≤ 10) (s : Mt) (k : Nat) (hk0 : k ≤ 1000000) (hs : MtOk x (winP x).length (kN x) (wN x) s k) (a : Int) (g t : Nat) (ht : t < 18446744073709551616) (d : Nat) (hd : M.isNw d = false) :
  SpH Tryz.prog gl 17 d ⟨[.ptr M 0, .ptr X 0, .agg [i6 2, i6 a, u g, u t]], mxB M A R B X x (winP x).length (winP x) (kN x) (wN x) s, [(.b X 10, 3)]⟩ ⟨.bool true, mxB M A R B X x (winP x).length (winP x) (kN x) (wN x) (adS x (winP x).length (kN x) (wN x) s a g t), [(.b X 10, 3)]⟩ := by
 refine h17 rfl ?_
 obtain ⟨-, ga, -, -, gc, -⟩ := goal_parts hx
 have hw := goal_wd hx hl
 have hll := Nat.le_trans hs.l hk0
 have hu := h.up
 have hk := goal_k hx hl
 have hn := goal_n hl
 have hdX : X.isNw d = false := h.nx d hd
 have hiX := inn_notNw hdX
 have xi := h.xi
 have ma := h.h.ma
 have ma' : ¬ A = M := fun e => h.h.ma e.symm
 have xm := h.xm
 have xm' : ¬ M = X := fun e => h.xm e.symm
 have xa := h.xa
 have xa' : ¬ A = X := fun e => h.xa e.symm
 obtain ⟨s2, hs2⟩ : ∃ y, y = adS x (winP x).length (kN x) (wN x) s a g t := ⟨_, rfl⟩
 rw [← hs2]
 have hout := fun σ q1 q2 => mx_out h hd (x := x) (n := (winP x).length) (Wl := winP x) (K := kN x) (w := wN x) (s := s2) (σ := σ) q1 q2
 have houi := fun ob => mx_outi h hd x (winP x).length (winP x) (kN x) (wN x) s2 ob
 have hkey : (lkB (mxB M A R B X x (winP x).length (winP x) (kN x) (wN x) s2) X).isSome = true := mx_x ..
 have hnox := fun t L sd => mt_nox hu x (winP x).length (intRows (winP x)) (kN x) (wN x) t L sd
 have hnorm := fun t L sd => mt_norm hu x (winP x).length (intRows (winP x)) (kN x) (wN x) t L sd
 have hnon := fun t L sd s => mtU_non M A R B x (winP x).length (intRows (winP x)) (kN x) (wN x) t L sd s
 have hfr := fun t L sd s => mtU_fr M A R B x (winP x).length (intRows (winP x)) (kN x) (wN x) t L sd s
 have hinF := fun t L sd fr => mtU_inF M A R B x (winP x).length (intRows (winP x)) (kN x) (wN x) t L sd fr
 have huq := fun t L sd => mt_uq hu.h x (winP x).length (intRows (winP x)) (kN x) (wN x) t L sd
 have hks := fun t t' L L' sd sd' j => mt_ks (M := .up M) (A := .up A) (R := fun i => .up (R i)) (B := fun i => .up (B i)) x x (winP x).length (intRows (winP x)) (kN x) (wN x) t t' L L' sd sd' j
 have hrm : rmB (rgsB (fun i => .up (R i)) (fun i => .up (B i)) (rgC (kN x) (wN x) s.t s.L) (rgD (kN x) (wN x) s.t s.L) (winP x).length) (.up M) = rgsB (fun i => .up (R i)) (fun i => .up (B i)) (rgC (kN x) (wN x) s.t s.L) (rgD (kN x) (wN x) s.t s.L) (winP x).length := rgsB_rm hu.h.mr hu.h.mb _
 have hrx : rmB (rgsB (fun i => .up (R i)) (fun i => .up (B i)) (rgC (kN x) (wN x) s.t s.L) (rgD (kN x) (wN x) s.t s.L) (winP x).length) (.up X) = rgsB (fun i => .up (R i)) (fun i => .up (B i)) (rgC (kN x) (wN x) s.t s.L) (rgD (kN x) (wN x) s.t s.L) (winP x).length := rgsB_rm hu.xr hu.xb _
 have hrX := rgsB_none (R := fun i => .up (R i)) (B := fun i => .up (B i)) (C := rgC (kN x) (wN x) s.t s.L) (D := rgD (kN x) (wN x) s.t s.L) (x := .up X) hu.xr hu.xb (winP x).length
 have hrM := rgsB_none (R := fun i => .up (R i)) (B := fun i => .up (B i)) (C := rgC (kN x) (wN x) s.t s.L) (D := rgD (kN x) (wN x) s.t s.L) (x := .up M) hu.h.mr hu.h.mb (winP x).length
 have hrn := fun j => rgsB_none (R := fun i => .up (R i)) (B := fun i => .up (B i)) (C := rgC (kN x) (wN x) s.t s.L) (D := rgD (kN x) (wN x) s.t s.L) (x := .n j) (fun i e => by cases e) (fun i e => by cases e) (winP x).length
 have hrf := fun i => rgs_free (R := R) (B := B) (C := rgC (kN x) (wN x) s.t s.L) (D := rgD (kN x) (wN x) s.t s.L) (n := (winP x).length) (s := i)
 simp only [inSt, mxB_up, mpL, mpP, AV.mp, Pl.mp]
 by_cases c : addE x.a s.t a g t = 0
 ·obtain ⟨c1, c2, c3, c4, c5⟩ := addE_zero c
  obtain ⟨t', rfl⟩ := Int.eq_ofNat_of_zero_le c2
  have hn0 : ¬ addE x.a s.t (t' : Int) g t ≠ 0 := fun q => q c
  by_cases f : s.sd = true ∨ roomB x.c (winP x).length (kN x) (wN x) s.t s.L t' t = false
  ·have e : adS x (winP x).length (kN x) (wN x) s (t' : Int) g t = ⟨s.t, s.L, true⟩ := by
    unfold adS; rw [if_neg hn0]; exact if_pos f
   rw [e] at hs2
   have M1 := fun e he => madd_full (.up M) (.up A) _ _ hu.h x ga (winP x).length hn (intRows (winP x)) (kN x) (wN x) hk s.t s.L hs.L s.sd hs.t t' g t ht c f e he
   have X1 := fun e he => xadd_full (.up X) xi x ga gc.1 hl (winP x).length (gN x) (wdN x) hw s.t hs.t s.sd s.L hs.L hs.P hll t' g t ht c f e he
   obtain ⟨m1, hm1⟩ : ∃ m, m = mtB (.up M) (.up A) (fun i => .up (R i)) (fun i => .up (B i)) x (winP x).length (intRows (winP x)) (kN x) (wN x) s.t s.L s.sd := ⟨_, rfl⟩
   obtain ⟨m2, hm2⟩ : ∃ m, m = mtB (.up M) (.up A) (fun i => .up (R i)) (fun i => .up (B i)) x (winP x).length (intRows (winP x)) (kN x) (wN x) s2.t s2.L s2.sd := ⟨_, rfl⟩
   have a1 := hnox s.t s.L s.sd
   have a2 := hnon s.t s.L s.sd
   have a3 := hfr s.t s.L s.sd
   have a4 := huq s.t s.L s.sd
   have a5 := hks s.t s2.t s.L s2.L s.sd s2.sd
   have b1 := hnox s2.t s2.L s2.sd
   have b2 := hnon s2.t s2.L s2.sd
   have b3 := hfr s2.t s2.L s2.sd
   have b4 := huq s2.t s2.L s2.sd
   have b5 := hnorm s2.t s2.L s2.sd
   have b6 := hinF s2.t s2.L s2.sd
   clear hrm hrx hrn hrf hrX hrM
   rw [← hm1] at a1 a2 a3 a4 a5 M1 ⊢
   rw [← hm2] at a5 b1 b2 b3 b4 b5 b6 hout
   generalize mxB M A R B X x (winP x).length (winP x) (kN x) (wN x) s2 = OB at *
   subst hs2
   simp only at b1 b2 b3 b4 b5 b6 a5 hout hm2
   rw [← hm2] at M1
   clear hm1 hm2
   simp only [xC] at X1 hout ⊢
   simp -implicitDefEqProofs [c17, a1, a2]
   refine onQ_pre (pre := [(.n 5, [i6 2, i6 t', u g, u t]), (.up X, xC x s.t s.sd s.L)]) (M1 _ rfl) rfl ?_ a4 a5 ?_ ?_ ?_ (b6 _) ?_
   ·simp [a1, a2]
   ·simp; exact a3 _
   ·simp [a1]
   ·simp
   simp only [xC]
   simp -implicitDefEqProofs [b1, b2, lkB_app]
   refine onQ_mk _ _ (X1 _ rfl) ⟨?_, ?_, ?_, ?_, ?_, ?_, ?_⟩ ⟨?_, ?_, ?_⟩ ?_
   iterate 6 (· simp [Pl.isB, Pl.isF, b1, b2, lkB_app])
   ·simp; (intro a b q; rcases q with q | q | q <;> first | exact b3 _ a b q | (rw [q.1]; rfl))
   iterate 3 (· simp [Pl.isB, Pl.isF, b1, b2, lkB_app])
   simp -implicitDefEqProofs [b1, b2, b5, lkB_app, rmB_app]
   refine postH_r ⟨?_, ?_, hout _ ?_ ?_, houi _, ?_, ?_⟩
   ·simp
   ·simp
   ·simp [obx, hiX]
   ·refine lk_mid (pre := [(.up X, _)]) b4 ?_
    simp -implicitDefEqProofs [b1]
   ·simp [hiX, hkey]
   ·simp
  ·rw [not_or] at f
   have f1 : s.sd = false := by simpa using f.1
   have f2 : roomB x.c (winP x).length (kN x) (wN x) s.t s.L t' t = true := by simpa using f.2
   have e : adS x (winP x).length (kN x) (wN x) s (t' : Int) g t = ⟨s.t, s.L ++ [(t', g, t)], false⟩ := by
    unfold adS; rw [if_neg hn0]; exact if_neg (by rw [not_or]; exact f)
   rw [e] at hs2
   have M1 := fun e => madd_spec (.up M) (.up A) _ _ hu.h x ga (winP x).length hn (intRows (winP x)) (kN x) (wN x) hk s.t s.L hs.L hs.P hs.t t' g t ht c f2 e rfl
   have X1 := fun e => xadd_ok (.up X) xi x ga gc.1 hl (winP x).length (gN x) (wdN x) hw s.t hs.t s.L hs.L hs.P hll t' g t ht c f2 e rfl
   rw [← f1] at M1 X1 hs2
   obtain ⟨m1, hm1⟩ : ∃ m, m = mtB (.up M) (.up A) (fun i => .up (R i)) (fun i => .up (B i)) x (winP x).length (intRows (winP x)) (kN x) (wN x) s.t s.L s.sd := ⟨_, rfl⟩
   obtain ⟨m2, hm2⟩ : ∃ m, m = mtB (.up M) (.up A) (fun i => .up (R i)) (fun i => .up (B i)) x (winP x).length (intRows (winP x)) (kN x) (wN x) s2.t s2.L s2.sd := ⟨_, rfl⟩
   have a1 := hnox s.t s.L s.sd
   have a2 := hnon s.t s.L s.sd
   have a3 := hfr s.t s.L s.sd
   have a4 := huq s.t s.L s.sd
   have a5 := hks s.t s2.t s.L s2.L s.sd s2.sd
   have b1 := hnox s2.t s2.L s2.sd
   have b2 := hnon s2.t s2.L s2.sd
   have b3 := hfr s2.t s2.L s2.sd
   have b4 := huq s2.t s2.L s2.sd
   have b5 := hnorm s2.t s2.L s2.sd
   have b6 := hinF s2.t s2.L s2.sd
   clear hrm hrx hrn hrf hrX hrM
   rw [← hm1] at a1 a2 a3 a4 a5 M1 ⊢
   rw [← hm2] at a5 b1 b2 b3 b4 b5 b6 hout
   generalize mxB M A R B X x (winP x).length (winP x) (kN x) (wN x) s2 = OB at *
   subst hs2
   simp only at b1 b2 b3 b4 b5 b6 a5 hout hm2
   rw [← hm2] at M1
   clear hm1 hm2
   simp only [xC] at X1 hout ⊢
   simp -implicitDefEqProofs [c17, a1, a2]
   refine onQ_pre (pre := [(.n 5, [i6 2, i6 t', u g, u t]), (.up X, xC x s.t s.sd s.L)]) (M1 _) rfl ?_ a4 a5 ?_ ?_ ?_ (b6 _) ?_
   ·simp [a1, a2]
   ·simp; exact a3 _
   ·simp [a1]
   ·simp
   simp only [xC]
   simp -implicitDefEqProofs [b1, b2, lkB_app]
   refine onQ_mk _ _ (X1 _) ⟨?_, ?_, ?_, ?_, ?_, ?_, ?_⟩ ⟨?_, ?_, ?_⟩ ?_
   iterate 6 (· simp [Pl.isB, Pl.isF, b1, b2, lkB_app])
   ·simp; (intro a b q; rcases q with q | q | q <;> first | exact b3 _ a b q | (rw [q.1]; rfl))
   iterate 3 (· simp [Pl.isB, Pl.isF, b1, b2, lkB_app])
   simp -implicitDefEqProofs [b1, b2, b5, lkB_app, rmB_app]
   refine postH_r ⟨?_, ?_, hout _ ?_ ?_, houi _, ?_, ?_⟩
   ·simp
   ·simp
   ·simp [obx, hiX]
   ·refine lk_mid (pre := [(.up X, _)]) b4 ?_
    simp -implicitDefEqProofs [b1]
   ·simp [hiX, hkey]
   ·simp
 ·have e : adS x (winP x).length (kN x) (wN x) s a g t = s := by unfold adS; rw [if_pos c]
  rw [e] at hs2
  have M1 := fun e he => madd_bad (.up M) (.up A) hu.h.pa x ga (winP x).length (intRows (winP x)) (pF x.c s.t) (pT x.c s.t) (pcG x.c s.t s.L) (pcT x.c s.t s.L) s.t hs.t s.sd a g t c e he
  have X1 := fun e he => xadd_bad (.up X) xi x ga s.t hs.t s.sd s.L a g t c e he
  generalize addE x.a s.t a g t = z at *
  have a1 := hnox s.t s.L s.sd
  have a2 := hnon s.t s.L s.sd 5
  have a4 := huq s.t s.L s.sd
  clear hnox hnorm hnon hfr hinF huq hks
  generalize mxB M A R B X x (winP x).length (winP x) (kN x) (wN x) s2 = OB at *
  have hs3 := hs2.symm
  clear hs2
  subst hs3
  simp only [mtB] at a1 a2 a4 hout ⊢
  generalize rgsB (fun i => .up (R i)) (fun i => .up (B i)) (rgC (kN x) (wN x) s.t s.L) (rgD (kN x) (wN x) s.t s.L) (winP x).length = RG at *
  generalize ptrC (fun i => Id.up (R i)) (winP x).length = PC at *
  simp only [xC, mtC] at M1 X1 a1 a2 a4 hout ⊢
  simp -implicitDefEqProofs [c17, hrn]
  refine onQ_mk _ _ (M1 _ rfl) ⟨?_, ?_, ?_, ?_, ?_, ?_, ?_⟩ ⟨?_, ?_, ?_⟩ ?_
  iterate 6 (· simp [Pl.isB, Pl.isF, xm, xm', ma, ma', xa, xa'])
  ·simp; exact hrf _
  iterate 3 (· simp [Pl.isB, Pl.isF, xm, xm', ma, ma', xa, xa'])
  simp -implicitDefEqProofs [xm, xm', ma, ma', xa, xa', hrm, hrx, hrn]
  refine onQ_mk _ _ (X1 _ rfl) ⟨?_, ?_, ?_, ?_, ?_, ?_, ?_⟩ ⟨?_, ?_, ?_⟩ ?_
  iterate 6 (· simp [Pl.isB, Pl.isF, xm, xm', ma, ma', xa, xa', hrm])
  ·simp; exact hrf _
  iterate 3 (· simp [Pl.isB, Pl.isF, xm, xm', ma, ma', xa, xa', hrm])
  simp -implicitDefEqProofs [xm, xm', ma, ma', xa, xa', hrm, hrx, hrn]
  refine postH_r ⟨?_, ?_, hout _ ?_ ?_, houi _, ?_, ?_⟩
  ·simp
  ·simp
  ·simp [obx, hiX]
  ·intro p hp
   have n1 := ne_none hp a1
   have n2 := ne_none hp a2
   have q := a4 p hp
   simp only [lkB, if_neg n1, if_neg n2] at q ⊢
   exact q
  ·simp [hiX, hkey]
  ·simp
theorem does_reset (M A X : Id) (R B : Nat → Id) (h : NmX M A R B X) (x : Gl) (hx : goalP x = true) (hl : x.ru.length ≤ 10) (s : Mt) (k : Nat) (hs : MtOk x (winP x).length (kN x) (wN x) s k) (a : Int) (g t : Nat) (d : Nat) (hd : M.isNw d = false) :
  SpH Tryz.prog gl 17 d ⟨[.ptr M 0, .ptr X 0, .agg [i6 3, i6 a, u g, u t]], mxB M A R B X x (winP x).length (winP x) (kN x) (wN x) s, [(.b X 10, 3)]⟩ ⟨.bool true, mxB M A R B X x (winP x).length (winP x) (kN x) (wN x) ⟨s.t, [], false⟩, [(.b X 10, 3)]⟩ := by
 refine h17 rfl ?_
 have hu := h.up
 have hk := goal_k hx hl
 have hn := goal_n hl
 have hdX : X.isNw d = false := h.nx d hd
 have hiX := inn_notNw hdX
 have xi := h.xi
 have ma := h.h.ma
 have ma' : ¬ A = M := fun e => h.h.ma e.symm
 have xm := h.xm
 have xm' : ¬ M = X := fun e => h.xm e.symm
 have xa := h.xa
 have xa' : ¬ A = X := fun e => h.xa e.symm
 obtain ⟨s2, hs2⟩ : ∃ y, y = (⟨s.t, [], false⟩ : Mt) := ⟨_, rfl⟩
 rw [← hs2]
 have hout := fun σ q1 q2 => mx_out h hd (x := x) (n := (winP x).length) (Wl := winP x) (K := kN x) (w := wN x) (s := s2) (σ := σ) q1 q2
 have houi := fun ob => mx_outi h hd x (winP x).length (winP x) (kN x) (wN x) s2 ob
 have hkey : (lkB (mxB M A R B X x (winP x).length (winP x) (kN x) (wN x) s2) X).isSome = true := mx_x ..
 have hnox := fun t L sd => mt_nox hu x (winP x).length (intRows (winP x)) (kN x) (wN x) t L sd
 have hnorm := fun t L sd => mt_norm hu x (winP x).length (intRows (winP x)) (kN x) (wN x) t L sd
 have hnon := fun t L sd s => mtU_non M A R B x (winP x).length (intRows (winP x)) (kN x) (wN x) t L sd s
 have hfr := fun t L sd s => mtU_fr M A R B x (winP x).length (intRows (winP x)) (kN x) (wN x) t L sd s
 have hinF := fun t L sd fr => mtU_inF M A R B x (winP x).length (intRows (winP x)) (kN x) (wN x) t L sd fr
 have huq := fun t L sd => mt_uq hu.h x (winP x).length (intRows (winP x)) (kN x) (wN x) t L sd
 have hks := fun t t' L L' sd sd' j => mt_ks (M := .up M) (A := .up A) (R := fun i => .up (R i)) (B := fun i => .up (B i)) x x (winP x).length (intRows (winP x)) (kN x) (wN x) t t' L L' sd sd' j
 have hrm : rmB (rgsB (fun i => .up (R i)) (fun i => .up (B i)) (rgC (kN x) (wN x) s.t s.L) (rgD (kN x) (wN x) s.t s.L) (winP x).length) (.up M) = rgsB (fun i => .up (R i)) (fun i => .up (B i)) (rgC (kN x) (wN x) s.t s.L) (rgD (kN x) (wN x) s.t s.L) (winP x).length := rgsB_rm hu.h.mr hu.h.mb _
 have hrx : rmB (rgsB (fun i => .up (R i)) (fun i => .up (B i)) (rgC (kN x) (wN x) s.t s.L) (rgD (kN x) (wN x) s.t s.L) (winP x).length) (.up X) = rgsB (fun i => .up (R i)) (fun i => .up (B i)) (rgC (kN x) (wN x) s.t s.L) (rgD (kN x) (wN x) s.t s.L) (winP x).length := rgsB_rm hu.xr hu.xb _
 have hrX := rgsB_none (R := fun i => .up (R i)) (B := fun i => .up (B i)) (C := rgC (kN x) (wN x) s.t s.L) (D := rgD (kN x) (wN x) s.t s.L) (x := .up X) hu.xr hu.xb (winP x).length
 have hrM := rgsB_none (R := fun i => .up (R i)) (B := fun i => .up (B i)) (C := rgC (kN x) (wN x) s.t s.L) (D := rgD (kN x) (wN x) s.t s.L) (x := .up M) hu.h.mr hu.h.mb (winP x).length
 have hrn := fun j => rgsB_none (R := fun i => .up (R i)) (B := fun i => .up (B i)) (C := rgC (kN x) (wN x) s.t s.L) (D := rgD (kN x) (wN x) s.t s.L) (x := .n j) (fun i e => by cases e) (fun i e => by cases e) (winP x).length
 have hrf := fun i => rgs_free (R := R) (B := B) (C := rgC (kN x) (wN x) s.t s.L) (D := rgD (kN x) (wN x) s.t s.L) (n := (winP x).length) (s := i)
 simp only [inSt, mxB_up, mpL, mpP, AV.mp, Pl.mp]
 have M1 := fun e he => mreset_spec (.up M) (.up A) _ _ hu.h x (winP x).length hn (intRows (winP x)) (kN x) (wN x) hk s.t s.L s.sd e he
 obtain ⟨m1, hm1⟩ : ∃ m, m = mtB (.up M) (.up A) (fun i => .up (R i)) (fun i => .up (B i)) x (winP x).length (intRows (winP x)) (kN x) (wN x) s.t s.L s.sd := ⟨_, rfl⟩
 obtain ⟨m2, hm2⟩ : ∃ m, m = mtB (.up M) (.up A) (fun i => .up (R i)) (fun i => .up (B i)) x (winP x).length (intRows (winP x)) (kN x) (wN x) s2.t s2.L s2.sd := ⟨_, rfl⟩
 have a1 := hnox s.t s.L s.sd
 have a2 := hnon s.t s.L s.sd
 have a3 := hfr s.t s.L s.sd
 have a4 := huq s.t s.L s.sd
 have a5 := hks s.t s2.t s.L s2.L s.sd s2.sd
 have b1 := hnox s2.t s2.L s2.sd
 have b2 := hnon s2.t s2.L s2.sd
 have b3 := hfr s2.t s2.L s2.sd
 have b4 := huq s2.t s2.L s2.sd
 have b5 := hnorm s2.t s2.L s2.sd
 have b6 := hinF s2.t s2.L s2.sd
 clear hrm hrx hrn hrf hrX hrM
 rw [← hm1] at a1 a2 a3 a4 a5 M1 ⊢
 rw [← hm2] at a5 b1 b2 b3 b4 b5 b6 hout
 generalize mxB M A R B X x (winP x).length (winP x) (kN x) (wN x) s2 = OB at *
 subst hs2
 simp only at b1 b2 b3 b4 b5 b6 a5 hout hm2
 rw [← hm2] at M1
 clear hm1 hm2
 simp only [xC] at hout ⊢
 simp -implicitDefEqProofs [c17, a1, a2]
 refine onH_pre (pre := [(.n 5, [i6 3, i6 a, u g, u t]), (.up X, xC x s.t s.sd s.L)]) (M1 _ rfl) rfl ?_ a4 a5 ?_ ?_ ?_ ?_
 ·simp [a1, a2]
 ·simp; exact a3 _
 ·simp [a1]
 ·simp
 simp only [xC]
 simp -implicitDefEqProofs [b1, b2, b5, lkB_app, rmB_app, stB_app]
 refine postH_r ⟨?_, ?_, hout _ ?_ ?_, houi _, ?_, ?_⟩
 ·simp
 ·simp
 ·simp [obx, hiX, b1, lkB_app]
  rfl
 ·refine lk_mid (pre := []) b4 ?_
  simp -implicitDefEqProofs
 ·simp [hiX, hkey, b1, lkB_app]
 ·simp
theorem does_other (M A X : Id) (R B : Nat → Id) (h : NmX M A R B X) (x : Gl) (hx : goalP x = true) (hl : x.ru.length ≤ 10) (s : Mt) (q : Int) (hq1 : q ≠ 1) (hq2 : q ≠ 2) (hq3 : q ≠ 3) (a : Int) (g t : Nat) (d : Nat) (hd : M.isNw d = false) :
  SpH Tryz.prog gl 17 d ⟨[.ptr M 0, .ptr X 0, .agg [i6 q, i6 a, u g, u t]], mxB M A R B X x (winP x).length (winP x) (kN x) (wN x) s, [(.b X 10, 3)]⟩ ⟨.bool true, mxB M A R B X x (winP x).length (winP x) (kN x) (wN x) s, [(.b X 10, 3)]⟩ := by
 refine h17 rfl ?_
 have hu := h.up
 have hk := goal_k hx hl
 have hn := goal_n hl
 have hdX : X.isNw d = false := h.nx d hd
 have hiX := inn_notNw hdX
 have xi := h.xi
 have ma := h.h.ma
 have ma' : ¬ A = M := fun e => h.h.ma e.symm
 have xm := h.xm
 have xm' : ¬ M = X := fun e => h.xm e.symm
 have xa := h.xa
 have xa' : ¬ A = X := fun e => h.xa e.symm
 obtain ⟨s2, hs2⟩ : ∃ y, y = s := ⟨_, rfl⟩
 rw [← hs2]
 have hout := fun σ q1 q2 => mx_out h hd (x := x) (n := (winP x).length) (Wl := winP x) (K := kN x) (w := wN x) (s := s2) (σ := σ) q1 q2
 have houi := fun ob => mx_outi h hd x (winP x).length (winP x) (kN x) (wN x) s2 ob
 have hkey : (lkB (mxB M A R B X x (winP x).length (winP x) (kN x) (wN x) s2) X).isSome = true := mx_x ..
 have hnox := fun t L sd => mt_nox hu x (winP x).length (intRows (winP x)) (kN x) (wN x) t L sd
 have hnorm := fun t L sd => mt_norm hu x (winP x).length (intRows (winP x)) (kN x) (wN x) t L sd
 have hnon := fun t L sd s => mtU_non M A R B x (winP x).length (intRows (winP x)) (kN x) (wN x) t L sd s
 have hfr := fun t L sd s => mtU_fr M A R B x (winP x).length (intRows (winP x)) (kN x) (wN x) t L sd s
 have hinF := fun t L sd fr => mtU_inF M A R B x (winP x).length (intRows (winP x)) (kN x) (wN x) t L sd fr
 have huq := fun t L sd => mt_uq hu.h x (winP x).length (intRows (winP x)) (kN x) (wN x) t L sd
 have hks := fun t t' L L' sd sd' j => mt_ks (M := .up M) (A := .up A) (R := fun i => .up (R i)) (B := fun i => .up (B i)) x x (winP x).length (intRows (winP x)) (kN x) (wN x) t t' L L' sd sd' j
 have hrm : rmB (rgsB (fun i => .up (R i)) (fun i => .up (B i)) (rgC (kN x) (wN x) s.t s.L) (rgD (kN x) (wN x) s.t s.L) (winP x).length) (.up M) = rgsB (fun i => .up (R i)) (fun i => .up (B i)) (rgC (kN x) (wN x) s.t s.L) (rgD (kN x) (wN x) s.t s.L) (winP x).length := rgsB_rm hu.h.mr hu.h.mb _
 have hrx : rmB (rgsB (fun i => .up (R i)) (fun i => .up (B i)) (rgC (kN x) (wN x) s.t s.L) (rgD (kN x) (wN x) s.t s.L) (winP x).length) (.up X) = rgsB (fun i => .up (R i)) (fun i => .up (B i)) (rgC (kN x) (wN x) s.t s.L) (rgD (kN x) (wN x) s.t s.L) (winP x).length := rgsB_rm hu.xr hu.xb _
 have hrX := rgsB_none (R := fun i => .up (R i)) (B := fun i => .up (B i)) (C := rgC (kN x) (wN x) s.t s.L) (D := rgD (kN x) (wN x) s.t s.L) (x := .up X) hu.xr hu.xb (winP x).length
 have hrM := rgsB_none (R := fun i => .up (R i)) (B := fun i => .up (B i)) (C := rgC (kN x) (wN x) s.t s.L) (D := rgD (kN x) (wN x) s.t s.L) (x := .up M) hu.h.mr hu.h.mb (winP x).length
 have hrn := fun j => rgsB_none (R := fun i => .up (R i)) (B := fun i => .up (B i)) (C := rgC (kN x) (wN x) s.t s.L) (D := rgD (kN x) (wN x) s.t s.L) (x := .n j) (fun i e => by cases e) (fun i e => by cases e) (winP x).length
 have hrf := fun i => rgs_free (R := R) (B := B) (C := rgC (kN x) (wN x) s.t s.L) (D := rgD (kN x) (wN x) s.t s.L) (n := (winP x).length) (s := i)
 simp only [inSt, mxB_up, mpL, mpP, AV.mp, Pl.mp]
 have e1 : (q == 1) = false := by rw [beq_eq_false_iff_ne]; exact hq1
 have e2 : (q == 2) = false := by rw [beq_eq_false_iff_ne]; exact hq2
 have e3 : (q == 3) = false := by rw [beq_eq_false_iff_ne]; exact hq3
 have a1 := hnox s.t s.L s.sd
 have a2 := hnon s.t s.L s.sd 5
 have a4 := huq s.t s.L s.sd
 clear hnox hnorm hnon hfr hinF huq hks
 generalize mxB M A R B X x (winP x).length (winP x) (kN x) (wN x) s2 = OB at *
 have hs3 := hs2.symm
 clear hs2
 subst hs3
 simp only [mtB] at a1 a2 a4 hout ⊢
 generalize rgsB (fun i => .up (R i)) (fun i => .up (B i)) (rgC (kN x) (wN x) s.t s.L) (rgD (kN x) (wN x) s.t s.L) (winP x).length = RG at *
 generalize ptrC (fun i => Id.up (R i)) (winP x).length = PC at *
 simp only [xC, mtC] at a1 a2 a4 hout ⊢
 simp -implicitDefEqProofs [c17, hrn, e1, e2, e3]
 refine postH_r ⟨?_, ?_, hout _ ?_ ?_, houi _, ?_, ?_⟩
 ·simp
 ·simp
 ·simp [obx, hiX]
 ·intro p hp
  have n1 := ne_none hp a1
  have n2 := ne_none hp a2
  have q := a4 p hp
  simp only [lkB, if_neg n1, if_neg n2] at q ⊢
  exact q
 ·simp [hiX, hkey]
 ·simp
theorem does_spec (M A X : Id) (R B : Nat → Id) (h : NmX M A R B X) (x : Gl) (hx : goalP x = true) (hl : x.ru.length ≤ 10) (s : Mt) (k : Nat) (hk0 : k ≤ 1000000) (hs : MtOk x (winP x).length (kN x) (wN x) s k) (a : Ac) (ht : a.t < 18446744073709551616) (d : Nat) (hd : M.isNw d = false) :
  SpH Tryz.prog gl 17 d ⟨[.ptr M 0, .ptr X 0, .agg a.row], mxB M A R B X x (winP x).length (winP x) (kN x) (wN x) s, [(.b X 10, 3)]⟩ ⟨.bool true, mxB M A R B X x (winP x).length (winP x) (kN x) (wN x) (stS x (winP x).length (kN x) (wN x) s a), [(.b X 10, 3)]⟩ := by
 obtain ⟨q, z, g, t⟩ := a
 unfold stS Ac.row
 simp only
 by_cases c1 : q = 1
 ·rw [if_pos c1, c1]; exact does_move M A X R B h x hx hl s k hs z g t d hd
 ·rw [if_neg c1]
  by_cases c2 : q = 2
  ·rw [if_pos c2, c2]; exact does_add M A X R B h x hx hl s k hk0 hs z g t ht d hd
  ·rw [if_neg c2]
   by_cases c3 : q = 3
   ·rw [if_pos c3, c3]; exact does_reset M A X R B h x hx hl s k hs z g t d hd
   ·rw [if_neg c3]; exact does_other M A X R B h x hx hl s q c1 c2 c3 z g t d hd
open Go.Proofs
end Go.Ai
namespace Go.Ai
open Go.Proofs
def R0 (i : Nat) : Id := .ix (.n 1) i
def B0 (i : Nat) : Id := .ix (.n 2) i
theorem ring_rn (a b : Id) (k : Nat) (ha : a = .nw 30 (.n 23)) (hb : b = .nw 30 (.n 21)) : ∃ f g : Id → Id, RnOk f g ∧ f a = R0 k ∧ f b = B0 k ∧ (∀ j, f (.n j) = .n j) ∧ (∀ j, f (.up j) = .up j) ∧ ∀ i, i < k → f (R0 i) = R0 i ∧ f (B0 i) = B0 i := by
 subst ha hb
 have s1 := swp_ok (a := .nw 30 (.n 23)) (b := R0 k) rfl rfl rfl rfl
 have s2 := swp_ok (a := .nw 30 (.n 21)) (b := B0 k) rfl rfl rfl rfl
 refine ⟨_, _, s1.comp s2, ?_, ?_, fun j => ?_, fun j => ?_, fun i hi => ⟨?_, ?_⟩⟩
 ·simp [swp, R0, B0]
 ·simp [swp, R0, B0]
 ·simp [swp, R0, B0]
 ·simp [swp, R0, B0]
 ·have : ¬ i = k := by omega
  simp [swp, R0, B0, this]
 ·have : ¬ i = k := by omega
  simp [swp, R0, B0, this]
theorem nms0 (d : Nat) : Nms (.nw d (.n 16)) (.nw d (.n 40)) (fun i => .nw d (R0 i)) (fun i => .nw d (B0 i)) := by
 refine ⟨rfl, rfl, fun _ => rfl, fun _ => rfl, ?_, ?_, ?_, ?_, ?_, ?_, ?_, ?_, fun _ => rfl, fun _ _ => rfl, fun _ _ => rfl⟩
 ·intro i j e; simp [R0] at e; exact e
 ·intro i j e; simp [B0] at e; exact e
 ·intro i j e; simp [R0, B0] at e
 ·intro i e; simp [R0] at e
 ·intro i e; simp [B0] at e
 ·intro i e; simp [R0] at e
 ·intro i e; simp [B0] at e
 ·intro e; simp at e
theorem nms1 : Nms (.n 16) (.n 40) R0 B0 := by
 refine ⟨rfl, rfl, fun _ => rfl, fun _ => rfl, ?_, ?_, ?_, ?_, ?_, ?_, ?_, ?_, fun _ => rfl, fun _ _ => rfl, fun _ _ => rfl⟩
 ·intro i j e; simp [R0] at e; exact e
 ·intro i j e; simp [B0] at e; exact e
 ·intro i j e; simp [R0, B0] at e
 ·intro i e; simp [R0] at e
 ·intro i e; simp [B0] at e
 ·intro i e; simp [R0] at e
 ·intro i e; simp [B0] at e
 ·intro e; simp at e
theorem purB_app (b : Id) (l m : List (Id × List AV)) : purB (l ++ m) b = purB l b ++ purB m b := by simp [purB]
theorem purB_rgs {b : Id} {R B : Nat → Id} {C : Nat → Id → List AV} {D : Nat → List AV} (hC : ∀ i x, idsL (C i x) = [x]) (hD : ∀ i, idsL (D i) = []) (hb : ∀ i, b ≠ B i) : ∀ n, purB (rgsB R B C D n) b = rgsB R B C D n
 | 0 => rfl
 | n + 1 => by
  rw [rgsB_succ, purB_app, purB_rgs hC hD hb n]
  have e1 : purC b (C n (B n)) = C n (B n) := purC_same (by rw [hC]; simp [hb n])
  have e2 : purC b (D n) = D n := purC_same (by rw [hD]; simp)
  simp only [purB, List.map_cons, List.map_nil, e1, e2]
theorem purB_cons (b d : Id) (c : List AV) (r : List (Id × List AV)) : purB ((d, c) :: r) b = (d, purC b c) :: purB r b := rfl
theorem purC_cons (b : Id) (v : AV) (r : List AV) : purC b (v :: r) = (if b ∈ v.ids then .undef else v) :: purC b r := rfl
theorem purC_nil (b : Id) : purC b [] = [] := rfl
def rgV (k : Nat) : AV := if k = 0 then .nils else .ms (.n 40) 0 k 1
def abx (k : Nat) : List (Id × List AV) := if k = 0 then [] else [(.n 40, ptrC R0 k)]
theorem mpL_app (f : Id → Id) : ∀ a b : List AV, mpL f (a ++ b) = mpL f a ++ mpL f b
 | [], b => rfl
 | x :: r, b => by simp only [List.cons_append, mpL, mpL_app f r b]
theorem ptrC_succ (R : Nat → Id) (n : Nat) : ptrC R (n + 1) = ptrC R n ++ [.ptr (R n) 0] := by unfold ptrC; rw [List.range_succ]; simp
theorem ptrC_congr {R R' : Nat → Id} {n : Nat} (h : ∀ i, i < n → R i = R' i) : ptrC R n = ptrC R' n := by
 unfold ptrC
 exact List.map_congr_left fun i hi => by rw [h i (List.mem_range.1 hi)]
theorem rgsB_names {R B R' B' : Nat → Id} {C : Nat → Id → List AV} {D : Nat → List AV} : ∀ {n : Nat}, (∀ i, i < n → R i = R' i ∧ B i = B' i) → rgsB R B C D n = rgsB R' B' C D n
 | 0, _ => rfl
 | n + 1, h => by rw [rgsB_succ, rgsB_succ, rgsB_names (fun i hi => h i (by omega)), (h n (by omega)).1, (h n (by omega)).2]
theorem mnew_spec (x : Gl) (hf : x.Fit) (hl : x.ru.length ≤ 10) (hx : goalP x = true) (n : Nat) (hn : n ≤ 1000000) (hn1 : 1 ≤ n) (hW : (winP x).length = n) (g : Nat) (hg : x.g = (g : Nat)) (wd : Nat → Nat) (hwd : ∀ i, i < n → (winP x)[i]? = some ((wd i : Nat) : Int) ∧ Wd (wd i) g) (d : Nat) :
  SpH Tryz.prog gl 35 d ⟨[.agg x.row], [], []⟩ ⟨.tup [.ptr (.nw d (.n 16)) 0, i6 0], mtB (.nw d (.n 16)) (.nw d (.n 40)) (fun i => .nw d (R0 i)) (fun i => .nw d (B0 i)) x n (intRows (winP x)) (fun i => wK (wd i) g) (fun i => wW (wd i) g) 0 [] false, []⟩ := by
 refine h35 rfl ?_
 have G := goal_spec x hf
 rw [hx] at G
 have WS := win_spec x hl
 have hrow : x.row = [.str x.n, .int .u32 x.t, i6 x.g, i6 x.a, i6 x.o, i6 x.c, .sl (x.lb.map Lb.row), .sl (x.ru.map Ru.row)] := rfl
 have hWl : (intRows (winP x)).length = n := by rw [intRows_len]; exact hW
 have hW1 := intRows_one (winP x)
 have hWa : ∀ k, (hk : k < n) → (intRows (winP x))[k]'(hWl ▸ hk) = [i6 ((wd k : Nat) : Int)] := fun k hk => by
  have h1 := (hwd k hk).1
  have hk' : k < (winP x).length := by omega
  rw [List.getElem?_eq_getElem hk'] at h1
  simp only [intRows, List.getElem_map, Option.some.inj h1]
 have RN := fun k (hk : k < n) e => rnew_spec (wd k) g (hwd k hk).2 e
 generalize intRows (winP x) = W at *
 rw [hrow, hg] at G WS ⊢
 simp only [inSt, mpL, mpB, mpP, AV.mp]
 simp -implicitDefEqProofs [c35]
 refine onC_mk _ G ?_
 simp -implicitDefEqProofs
 refine onC_mk _ WS ?_
 simp -implicitDefEqProofs
 refine wp_lpr (α := Nat) (fun k => ⟨[(1, .ptr (.n 1) 0), (4, .ptr (.n 16) 0), (20, .sl W), (21, i6 n), (22, i6 k)], (.n 1, [.str x.n, .int .u32 x.t, i6 g, i6 x.a, i6 x.o, i6 x.c, .sl (x.lb.map Lb.row), .sl (x.ru.map Ru.row)]) :: (.n 16, [.str x.n, .int .u32 x.t, i6 g, i6 x.a, i6 x.o, i6 x.c, .sl (x.lb.map Lb.row), .sl (x.ru.map Ru.row), .sl W, rgV k, i6 0, i6 0, u 0, u 0, i6 0, .bool false]) :: (abx k ++ rgsB R0 B0 (rgC (fun i => wK (wd i) g) (fun i => wW (wd i) g) 0 []) (rgD (fun i => wK (wd i) g) (fun i => wW (wd i) g) 0 []) k), []⟩) (fun k => k ≤ n) (fun k => n - k) ?_ 0 ?_ ?_
 ·intro K' k hK' k1
  by_cases c : k < n
  ·have c' : (k : Int) < n := by omega
   have w1 : IntKind.i64.wrap ((k : Int) + 1) = (k + 1 : Nat) := by rw [wr] <;> omega
   have wl : k < W.length := by omega
   have ew := hWa k c
   have ew0 : W[k]? = some [i6 ((wd k : Nat) : Int)] := by rw [List.getElem?_eq_getElem wl, ew]
   have RNk := RN k c 30
   obtain ⟨f, f', hok, fa, fb, fn, fu, fR⟩ := ring_rn _ _ k rfl rfl
   have hRR : ∀ i j, (R0 i = R0 j) = (i = j) := fun i j => by simp [R0]
   have hBB : ∀ i j, (B0 i = B0 j) = (i = j) := fun i j => by simp [B0]
   have hRB : ∀ i j, ¬ R0 i = B0 j := fun i j => nms1.rb i j
   have hBR : ∀ i j, ¬ B0 i = R0 j := fun i j e => nms1.rb j i e.symm
   have hnR : ∀ s i, ¬ Id.n s = R0 i := fun s i e => by simp [R0] at e
   have hnB : ∀ s i, ¬ Id.n s = B0 i := fun s i e => by simp [B0] at e
   have hRn : ∀ s i, ¬ R0 i = Id.n s := fun s i e => by simp [R0] at e
   have hBn : ∀ s i, ¬ B0 i = Id.n s := fun s i e => by simp [B0] at e
   have hnn : ∀ C D s, lkB (rgsB R0 B0 C D k) (.n s) = none := fun C D s => rgsB_none (hnR s) (hnB s) k
   have hmr : mpL f (rgL (.nw 30 (.n 21)) (wK (wd k) g) (wW (wd k) g) 0 0 0 0) = rgL (B0 k) (wK (wd k) g) (wW (wd k) g) 0 0 0 0 := by
    simp only [rgL, mpL, AV.mp, fb]
   have hrg : ∀ b, ringC b (wK (wd k) g) (wW (wd k) g) 0 [] = rgL b (wK (wd k) g) (wW (wd k) g) 0 0 0 0 := fun b => by
    rw [ringC_nil, Nat.zero_div]
   have hbk : bkC (wK (wd k) g) (wW (wd k) g) 0 [] = bkC (wK (wd k) g) (wW (wd k) g) (0 / wW (wd k) g) [] := by rw [Nat.zero_div]
   have hbi : idsL (bkC (wK (wd k) g) (wW (wd k) g) 0 []) = [] := cellsF_ids _ _ _
   have hbm := mpL_noids (f := f) hbi
   have lt' : ∀ i, i < k + 1 → lkB (rgsB R0 B0 (rgC (fun i => wK (wd i) g) (fun i => wW (wd i) g) 0 []) (rgD (fun i => wK (wd i) g) (fun i => wW (wd i) g) 0 []) (k + 1)) (R0 i) = some (rgC (fun i => wK (wd i) g) (fun i => wW (wd i) g) 0 [] i (B0 i)) ∧ lkB (rgsB R0 B0 (rgC (fun i => wK (wd i) g) (fun i => wW (wd i) g) 0 []) (rgD (fun i => wK (wd i) g) (fun i => wW (wd i) g) 0 []) (k + 1)) (B0 i) = some (rgD (fun i => wK (wd i) g) (fun i => wW (wd i) g) 0 [] i) :=
    fun i hi => ⟨rgsB_R nms1 (k + 1) hi, rgsB_B nms1 (k + 1) hi⟩
   have hab : abx (k + 1) = [(.n 40, ptrC R0 (k + 1))] := if_neg (by omega)
   have hrv : rgV (k + 1) = .ms (.n 40) 0 (k + 1) 1 := if_neg (by omega)
   have fin := fun σ' hσ => hK' (k + 1) σ' (by omega) (by omega) (.inr ⟨f, f', hok, hσ⟩)
   simp only [hab, hrv] at fin
   have rC : rgC (fun i => wK (wd i) g) (fun i => wW (wd i) g) 0 [] k (B0 k) = rgL (B0 k) (wK (wd k) g) (wW (wd k) g) 0 0 0 0 := hrg _
   have rD : rgD (fun i => wK (wd i) g) (fun i => wW (wd i) g) 0 [] k = bkC (wK (wd k) g) (wW (wd k) g) 0 [] := hbk.symm
   have cids := rgC_ids (fun i => wK (wd i) g) (fun i => wW (wd i) g) 0 []
   have dids := rgD_ids (fun i => wK (wd i) g) (fun i => wW (wd i) g) 0 []
   have cmp := fun f i b => rgC_mp f (fun i => wK (wd i) g) (fun i => wW (wd i) g) 0 [] i b
   have dmp := fun f i => rgD_mp f (fun i => wK (wd i) g) (fun i => wW (wd i) g) 0 [] i
   simp only [hrg] at RNk
   clear hK' RN hWa hwd hbk
   generalize rgC (fun i => wK (wd i) g) (fun i => wW (wd i) g) 0 [] = C at *
   generalize rgD (fun i => wK (wd i) g) (fun i => wW (wd i) g) 0 [] = D at *
   generalize bkC (wK (wd k) g) (wW (wd k) g) 0 [] = X at *
   have hpt : mpL f (ptrC R0 k ++ [.ptr (.nw 30 (.n 23)) 0]) = ptrC R0 (k + 1) := by
    rw [mpL_app, ptrC_mp, ptrC_succ, ptrC_congr (fun i hi => (fR i hi).1)]
    simp only [mpL, AV.mp, fa]
   have hmb : mpB f (rgsB R0 B0 C D k) = rgsB R0 B0 C D k := by rw [mpB_rgs (cmp f) (dmp f), rgsB_names fR]
   have hlim : lim = 140737488355328 := rfl
   by_cases k0 : k = 0
   ·subst k0
    have rg0 : rgsB R0 B0 C D 0 = [] := rfl
    have pt0 : ptrC R0 0 = [] := rfl
    rw [pt0] at hpt
    simp only [List.nil_append] at hpt
    simp -implicitDefEqProofs [c, c', ew, ew0, wl, hWl, hW1, rgV, abx, rg0]
    refine onH_mk _ _ RNk ⟨?_, ?_, ?_, ?_, ?_, ?_, ?_⟩ ?_
    iterate 7 (· simp)
    have p1 : ptrC R0 1 = [.ptr (R0 0) 0] := rfl
    simp -implicitDefEqProofs [rg0, hlim, w1]
    refine fin _ (weak_mk ?_ ?_ ?_ ?_ ?_ ?_)
    ·simp [St.rn, fn, fu, fa, fb, hnR, hnB, hRn, hBn, hRR, hBB, hRB, hBR, hmr, hbm, hpt, rC, rD, w1, w64_1]
    ·intro p hp
     rcases List.mem_cons.1 hp with rfl | hp
     ·simp [St.rn, fn, fu, fa, fb, hnR, hnB, hRn, hBn, hRR, hBB, hRB, hBR, hmr, hbm, hpt, rC, rD]
     ·rcases List.mem_cons.1 hp with rfl | hp
      ·simp [St.rn, fn, fu, fa, fb, hnR, hnB, hRn, hBn, hRR, hBB, hRB, hBR, hmr, hbm, hpt, rC, rD]
      ·rcases List.mem_cons.1 hp with rfl | hp
       ·simp [St.rn, fn, fu, fa, fb, hnR, hnB, hRn, hBn, hRR, hBB, hRB, hBR, hmr, hbm, hpt, p1, rC, rD]
       ·obtain ⟨i, hi, e⟩ := mem_rgsB.1 hp
        by_cases hik : i = 0
        ·subst hik
         rcases e with rfl | rfl
         ·simp [St.rn, fn, fu, fa, fb, hnR, hnB, hRn, hBn, hRR, hBB, hRB, hBR, hmr, hbm, hpt, rC, rD, hmb, lkB_rmB]
         ·simp [St.rn, fn, fu, fa, fb, hnR, hnB, hRn, hBn, hRR, hBB, hRB, hBR, hmr, hbm, hpt, rC, rD, hmb, lkB_rmB]
        ·exfalso; omega
    ·simp
    ·simp [hnR, hnB]
    ·intro p hp
     rcases List.mem_cons.1 hp with rfl | hp
     ·simp
     ·rcases List.mem_cons.1 hp with rfl | hp
      ·simp
      ·rcases List.mem_cons.1 hp with rfl | hp
       ·intro j hj
        obtain ⟨i, hi, rfl⟩ := ptrC_ids hj
        simp -implicitDefEqProofs [hnR, lt' i hi]
       ·obtain ⟨i, hi, e⟩ := mem_rgsB.1 hp
        intro j hj
        rcases e with rfl | rfl
        ·simp only [cids, List.mem_singleton] at hj
         subst hj
         simp -implicitDefEqProofs [hnB, lt' i hi]
        ·simp only [dids] at hj
         simp at hj
    ·simp
   ·have rv : rgV k = .ms (.n 40) 0 k 1 := if_neg k0
    have ab : abx k = [(.n 40, ptrC R0 k)] := if_neg k0
    have pl := ptrC_len R0 k
    have hpu := purB_rgs (b := .n 40) (n := k) cids dids (R := R0) (B := B0) (hnB 40)
    have pi : ∀ s, ¬ Id.n s ∈ idsL (ptrC R0 k) := fun s q => by
     obtain ⟨i, _, e⟩ := ptrC_ids q
     exact hnR _ _ e
    have l1 : (k + 1) * 8 ≤ 140737488355328 := by omega
    simp only [rv, ab]
    simp -implicitDefEqProofs [c, c', ew, ew0, wl, hWl, hW1, hnn]
    refine onH_mk _ _ RNk ⟨?_, ?_, ?_, ?_, ?_, ?_, ?_⟩ ?_
    iterate 6 (· simp)
    ·simp
     intro a b hm
     obtain ⟨i, _, e | e⟩ := mem_rgsB.1 hm <;> cases e <;> rfl
    have hpr : purC (.n 40) (rgL (.nw 30 (.n 21)) (wK (wd k) g) (wW (wd k) g) 0 0 0 0) = rgL (.nw 30 (.n 21)) (wK (wd k) g) (wW (wd k) g) 0 0 0 0 := purC_same (by simp [rgL, idsL, AV.ids])
    have hpX : purC (.n 40) X = X := purC_same (by rw [hbi]; simp)
    have hpP : purC (.n 40) (ptrC R0 k) = ptrC R0 k := purC_same (pi 40)
    have hrm : rmB (rgsB R0 B0 C D k) (.n 40) = rgsB R0 B0 C D k := rgsB_rm (hnR 40) (hnB 40) k
    simp -implicitDefEqProofs [hlim, w1, hnn]
    simp -implicitDefEqProofs [purB_cons, purC_cons, purC_nil, hpr, hpX, hpP, hpu, hrm, hnn, pl, pi 40, l1, AV.ids]
    refine fin _ (weak_mk ?_ ?_ ?_ ?_ ?_ ?_)
    ·simp [St.rn, fn, fu, fa, fb, hnR, hnB, hRn, hBn, hRR, hBB, hRB, hBR, hmr, hbm, hpt, rC, rD, w1, w64_1]
    ·intro p hp
     rcases List.mem_cons.1 hp with rfl | hp
     ·simp [St.rn, fn, fu, fa, fb, hnR, hnB, hRn, hBn, hRR, hBB, hRB, hBR, hmr, hbm, hpt, rC, rD]
     ·rcases List.mem_cons.1 hp with rfl | hp
      ·simp [St.rn, fn, fu, fa, fb, hnR, hnB, hRn, hBn, hRR, hBB, hRB, hBR, hmr, hbm, hpt, rC, rD]
      ·rcases List.mem_cons.1 hp with rfl | hp
       ·simp [St.rn, fn, fu, fa, fb, hnR, hnB, hRn, hBn, hRR, hBB, hRB, hBR, hmr, hbm, hpt, rC, rD]
       ·obtain ⟨i, hi, e⟩ := mem_rgsB.1 hp
        by_cases hik : i = k
        ·subst hik
         rcases e with rfl | rfl
         ·simp [St.rn, fn, fu, fa, fb, hnR, hnB, hRn, hBn, hRR, hBB, hRB, hBR, hmr, hbm, hpt, rC, rD, hmb, lkB_rmB]
         ·simp [St.rn, fn, fu, fa, fb, hnR, hnB, hRn, hBn, hRR, hBB, hRB, hBR, hmr, hbm, hpt, rC, rD, hmb, lkB_rmB]
        ·have hi2 : i < k := by omega
         have hik' : ¬ k = i := fun q => hik q.symm
         rcases e with rfl | rfl
         ·simp [St.rn, fn, fu, fa, fb, hnR, hnB, hRn, hBn, hRR, hBB, hRB, hBR, hmr, hbm, hpt, rC, rD, hmb, lkB_rmB, hik, hik', rgsB_R nms1 k hi2]
         ·simp [St.rn, fn, fu, fa, fb, hnR, hnB, hRn, hBn, hRR, hBB, hRB, hBR, hmr, hbm, hpt, rC, rD, hmb, lkB_rmB, hik, hik', rgsB_B nms1 k hi2]
    ·simp
    ·simp [hnR, hnB]
    ·intro p hp
     rcases List.mem_cons.1 hp with rfl | hp
     ·simp
     ·rcases List.mem_cons.1 hp with rfl | hp
      ·simp
      ·rcases List.mem_cons.1 hp with rfl | hp
       ·intro j hj
        obtain ⟨i, hi, rfl⟩ := ptrC_ids hj
        simp -implicitDefEqProofs [hnR, lt' i hi]
       ·obtain ⟨i, hi, e⟩ := mem_rgsB.1 hp
        intro j hj
        rcases e with rfl | rfl
        ·simp only [cids, List.mem_singleton] at hj
         subst hj
         simp -implicitDefEqProofs [hnB, lt' i hi]
        ·simp only [dids] at hj
         simp at hj
    ·simp
  ·obtain rfl : k = n := by omega
   have c' : ¬ (k : Int) < k := by omega
   have c2 : ¬ k < k := Nat.lt_irrefl _
   have rv : rgV k = .ms (.n 40) 0 k 1 := if_neg (by omega)
   have ab : abx k = [(.n 40, ptrC R0 k)] := if_neg (by omega)
   have PS := mperiod_spec (.n 16) (.n 40) ⟨rfl, rfl, by simp, fun _ => rfl⟩ x k W 0 0 0 0 0 false 0 (by omega) 48 rfl
   simp only [mtC, hg] at PS
   have cids := rgC_ids (fun i => wK (wd i) g) (fun i => wW (wd i) g) 0 []
   have dids := rgD_ids (fun i => wK (wd i) g) (fun i => wW (wd i) g) 0 []
   have cmp := fun f i b => rgC_mp f (fun i => wK (wd i) g) (fun i => wW (wd i) g) 0 [] i b
   have dmp := fun f i => rgD_mp f (fun i => wK (wd i) g) (fun i => wW (wd i) g) 0 [] i
   have hpz : pcG x.c 0 [] = 0 ∧ pcT x.c 0 [] = 0 := by unfold pcG pcT; split <;> exact ⟨rfl, rfl⟩
   simp only [rv, ab]
   simp only [mtB, mtC, hpz, hg]
   clear hK' RN hWa hwd
   generalize rgC (fun i => wK (wd i) g) (fun i => wW (wd i) g) 0 [] = C at *
   generalize rgD (fun i => wK (wd i) g) (fun i => wW (wd i) g) 0 [] = D at *
   simp -implicitDefEqProofs [c', c2]
   refine onH_mk _ _ PS ⟨?_, ?_, ?_, ?_, ?_, ?_, ?_⟩ ?_
   iterate 6 (· simp)
   ·simp
    intro a b hm
    obtain ⟨i, _, e | e⟩ := mem_rgsB.1 hm <;> cases e <;> rfl
   have hrm := rgsB_rm (R := R0) (B := B0) (C := C) (D := D) (x := .n 16) (nms1.mr) (nms1.mb) k
   have i1 : ∀ i, (Id.nw d (R0 i)).inn d = R0 i := fun i => by simp [R0]
   have i2 : ∀ i, (Id.nw d (B0 i)).inn d = B0 i := fun i => by simp [B0]
   have hpi : mpL (Id.inn d) (ptrC (fun i => .nw d (R0 i)) k) = ptrC R0 k := by
    rw [ptrC_mp]; exact ptrC_congr fun i _ => i1 i
   have hnR : ∀ s i, ¬ Id.n s = R0 i := fun s i e => by simp [R0] at e
   have hnB : ∀ s i, ¬ Id.n s = B0 i := fun s i e => by simp [B0] at e
   have n0 := nms0 d
   have o1 := n0.mr
   have o2 := n0.mb
   have o3 := n0.ar
   have o4 := n0.ab
   simp -implicitDefEqProofs [hrm]
   refine postH_r ⟨?_, ?_, ?_, ?_, ?_, ?_⟩
   ·simp
   ·simp
   ·intro p hp
    rcases List.mem_cons.1 hp with rfl | hp
    ·simp
    ·rcases List.mem_cons.1 hp with rfl | hp
     ·simp [hpi]
     ·obtain ⟨i, hi, e⟩ := mem_rgsB.1 hp
      rcases e with rfl | rfl
      ·refine ⟨by rw [i1]; rfl, ?_⟩
       simp only [obx, i1]
       simp -implicitDefEqProofs [hnR, rgsB_R nms1 k hi, cmp, i2]
      ·refine ⟨by rw [i2]; rfl, ?_⟩
       simp only [obx, i2]
       simp -implicitDefEqProofs [hnB, rgsB_B nms1 k hi, dmp]
   ·intro p hp
    rcases List.mem_cons.1 hp with rfl | hp
    ·simp
    ·rcases List.mem_cons.1 hp with rfl | hp
     ·intro j hj
      obtain ⟨i, hi, rfl⟩ := ptrC_ids hj
      refine ⟨rfl, fun _ => ?_⟩
      have := rgsB_R n0 (C := C) (D := D) k hi
      simp only [lkB]
      rw [if_neg (o1 i), if_neg (o3 i), this]; rfl
     ·obtain ⟨i, hi, e⟩ := mem_rgsB.1 hp
      intro j hj
      rcases e with rfl | rfl
      ·simp only [cids, List.mem_singleton] at hj
       subst hj
       refine ⟨rfl, fun _ => ?_⟩
       have := rgsB_B n0 (C := C) (D := D) k hi
       simp only [lkB]
       rw [if_neg (o2 i), if_neg (o4 i), this]; rfl
      ·simp only [dids] at hj
       simp at hj
   ·simp
   ·simp
 ·exact Nat.zero_le _
 ·have rg0 : rgsB R0 B0 (rgC (fun i => wK (wd i) g) (fun i => wW (wd i) g) 0 []) (rgD (fun i => wK (wd i) g) (fun i => wW (wd i) g) 0 []) 0 = [] := rfl
  simp only [rg0, rgV, abx, if_true, List.append_nil]
  refine weak_mk ?_ ?_ ?_ ?_ ?_ ?_ <;> simp -implicitDefEqProofs [hWl]
end Go.Ai
