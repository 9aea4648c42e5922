/- YtcdomokjdfmnlaaDoorP8: part of the abstract interpreter library (values, rules, soundness against the model) or of what a function of the seat computes. Conditions: as each theorem says. -/
import Derived.Test.YtcdomokjdfmnlaaDoorP7
import Derived.Test.YtcdomokjdfmnlaaDoorP1
import Derived.Test.YtcdomokjdfmnlaaDoorAiShelf2
import Derived.Test.YtcdomokjdfmnlaaDoorP5
set_option linter.unusedSimpArgs false
set_option linter.unusedVariables false
namespace Go.Ai
open Go.Proofs Go.RowKit
def intRows (l : List Int) : List (List AV) := l.map fun x => [i6 x]
theorem fl_i6 (a b : Bool) : IntKind.i64.wrap (fl a - fl b) = fl a - fl b := by
  have : -1 ≤ fl a - fl b ∧ fl a - fl b ≤ 1 := by cases a <;> cases b <;> decide
  rw [wrap_i64] <;> omega
def otherK (k : Ky) : Ky := { k with f := !k.f }
theorem either_spec (b : Bool) (x y : List UInt8) : Sp Tryd.prog gl 82 [.bool b, .str x, .str y] (.str (if b = true then x else y)) := by
  refine s82 rfl rfl ?_
  cases b
  · simp -implicitDefEqProofs [c82]
  · simp -implicitDefEqProofs [c82]
end Go.Ai
set_option linter.unusedSimpArgs false
set_option linter.unusedVariables false
namespace Go.Ai
open Go.Proofs Go.Shelf Go.RowKit Go.Sort Go.Lib
theorem holds_zero0 (w : World) (T : TypeId) (nd : Nat) (hs : nd ≤ 24) : Holds (fun (b : UInt8) => Value.int .u8 (b.toNat : Int)) (w.alloc (.cells Lib.zeros24 T)) w.heap.size 0 (Array.replicate nd (0 : UInt8)) := fun j hj => by
  have hj' : j < nd := by simpa using hj
  refine ⟨?_, World.frozen?_alloc_new _ _ _ _⟩
  rw [World.cell?_alloc_new, zeros24_at _ (by omega), getElem!_pos _ j hj]
  simp
theorem below_grow (w : World) (os : Array Obj) (k : Nat) : Below w.heap.size w ((grow w os).drewN k) := by
  refine ⟨rfl, rfl, rfl, ?_, fun i hi => ?_⟩
  · show w.heap.size ≤ (w.heap ++ os).size
    simp
  · show (w.heap ++ os)[i]? = w.heap[i]?
    exact Array.getElem?_append_left hi
set_option maxHeartbeats 6400000 in
set_option maxRecDepth 100000 in
/-- internal/strconv.FormatUint at base 10, of 100 and more. -/
theorem fmtUint_calls (u : Nat) (hu1 : 100 ≤ u) (hu64 : u < 18446744073709551616) (w : World) (htab : ∀ q, q < 20 → w.cell? ⟨0, q, none⟩ = some (.int .u64 ((10 ^ q : Nat) : Int))) :
    Calls Tryd.prog 116 #[.int .u64 u, .int .i64 10] w fun e w' => e = .returned (.string ⟨(Lib.decDigits u).toArray⟩) ∧ Below w.heap.size w w' := by
  have hnd20 : Lib.nDigits u ≤ 20 := by have := Lib.numDigits_eq u (by omega) hu64; split at this <;> omega
  have hal : Tryd.prog.arrayLen 206 = 24 := by kernel_rfl
  have hsl : ∀ W, (Instr.sliceAt 206 (.pointer (some ⟨w.heap.size, 0, none⟩)) none (some (.int .i64 (Lib.nDigits u : Int))) none).run Tryd.prog W = .ok (.slice (some ⟨w.heap.size, 0, none⟩) (Lib.nDigits u) 24) W := fun W => by
    rw [run_sliceAt_array_h W 206 ⟨w.heap.size, 0, none⟩ (by kernel_rfl) .i64 (Lib.nDigits u : Int) (by omega) (by rw [hal]; omega)]
    go_simp
  have hH0 := holds_zero0 w 206 (Lib.nDigits u) (by omega)
  have hfmt := Any.internal_strconv_formatBase10 laysFmt w.heap.size 0 24 u (Array.replicate (Lib.nDigits u) 0) (w.alloc (.cells Lib.zeros24 206)) hH0 (by rw [Array.size_replicate]; exact Lib.lt_pow_nDigits u) hu64 (by rw [Array.size_replicate]; omega)
  rw [Array.size_replicate] at hfmt
  have HH0 := Lib.hid hH0
  clear hH0 hal
  have hnd : Calls Tryd.prog 157 #[.int .u64 u] (w.alloc (.cells Lib.zeros24 206)) fun e w' => e = .returned (.int .i64 (Lib.nDigits u)) ∧ w' = (w.alloc (.cells Lib.zeros24 206)) :=
    numDigits_cells laysDig u (by omega) hu64 _ (fun q hq => by
      have h1 := htab q hq
      have h2 := World.block_lt_of_cell? w _ h1
      exact (World.cell?_alloc_lt w _ _ h2).trans h1)
  go_enter Tryd.func116, Tryd.ntmps116
  go_wp2_with (first
    | (go_at_call 157; refine hnd.mono ?_; rintro e w' ⟨rfl, rfl⟩))
  go_at_call 158
  refine hfmt.mono ?_
  rintro e w' ⟨rfl, k, v', dk, rfl, hF⟩
  have hcv : (convert 25 9 (.slice (some ⟨w.heap.size, 0, none⟩) (Lib.nDigits u) 24)).run Tryd.prog ((putRow (fun (b : UInt8) => Value.int .u8 (b.toNat : Int)) (w.alloc (.cells Lib.zeros24 206)) w.heap.size 0 dk).drewN k) = .ok (.string ⟨(Lib.decDigits u).toArray⟩) ((putRow (fun (b : UInt8) => Value.int .u8 (b.toNat : Int)) (w.alloc (.cells Lib.zeros24 206)) w.heap.size 0 dk).drewN k) := by
    have h := run_convert_bytes_back (P := Tryd.prog) ((putRow (fun (b : UInt8) => Value.int .u8 (b.toNat : Int)) (w.alloc (.cells Lib.zeros24 206)) w.heap.size 0 dk).drewN k) 25 9 5 ⟨w.heap.size, 0, none⟩ 24 (Lib.decDigits u) Tryd.underlying25 Tryd.underlying5 Tryd.underlying9 (fun j hj => by
      rw [Lib.row_is_numeral hF j hj, Lib.add_plain, World.cell?_drewN]
      exact cell?_putRow (fun (b : UInt8) => Value.int .u8 (b.toNat : Int)) _ w.heap.size 0 _ dk HH0.out (by rw [hF.size, Array.size_replicate]) j (by rw [hF.size]; rw [Lib.decDigits_length] at hj; exact hj))
    rw [Lib.decDigits_length] at h
    exact h
  go_wp2
  go_ret
  refine ⟨rfl, ?_⟩
  rw [alloc_eq_grow]
  obtain ⟨os', _, eg⟩ := putRow_grow_new (fun (b : UInt8) => Value.int .u8 (b.toNat : Int)) w #[.cells Lib.zeros24 206] w.heap.size 0 dk (Nat.le_refl _)
  rw [eg]
  exact below_grow w os' k

theorem small_spec (n : Nat) (h : n < 100) : Sp Tryd.prog gl 156 [i6 n] (.str (Lib.decDigits n)) := by
  refine shelf_spec Tryd.func156 (by kernel_rfl) (by kernel_rfl) ?_
  intro S gb w vs hvs hag
  simp only [PRlist, PR] at hvs
  obtain ⟨_, _, rfl, rfl, rfl⟩ := hvs
  exact (Any.internal_strconv_small laysSmall n h w).mono fun e w' ⟨he, hw⟩ => ⟨_, he, hw ▸ Below.refl _ _, by simp [PR]⟩
theorem tab_gl : List.lookup 0 gl = some ((List.range 20).map fun q => Value.int .u64 ((10 ^ q : Nat) : Int)) := by kernel_rfl
theorem tab_cells {w : World} (h : ∀ i us, List.lookup i gl = some us → ∀ (o : Nat) (u : Value), us[o]? = some u → w.cell? ⟨i, o, none⟩ = some u) (q : Nat) (hq : q < 20) : w.cell? ⟨0, q, none⟩ = some (.int .u64 ((10 ^ q : Nat) : Int)) :=
  h 0 _ tab_gl q _ (by simp [hq])
theorem ifmt_spec (n : Nat) (h : n < 18446744073709551616) : Sp Tryd.prog gl 116 [u n, i6 10] (.str (Lib.decDigits n)) := by
  by_cases g : n < 100
  · refine s116 rfl rfl ?_
    have S := small_spec n g
    generalize Lib.decDigits n = R at *
    have t1 : IntKind.i64.wrap (n : Int) = n := by rw [wrap_i64] <;> omega
    have g' : (n : Int) < 100 := by omega
    simp -implicitDefEqProofs [c116, t1, g, g']
    refine onC_mk _ S ?_
    simp -implicitDefEqProofs
  · refine shelf_specG Tryd.func116 (by kernel_rfl) (by kernel_rfl) ?_
    intro S gb w vs hvs hag hgl
    simp only [PRlist, PR] at hvs
    obtain ⟨_, _, rfl, rfl, _, _, rfl, rfl, rfl⟩ := hvs
    exact (fmtUint_calls n (by omega) h w (tab_cells hgl)).mono fun e w' ⟨he, hw⟩ => ⟨_, he, hw, by simp [PR]⟩
theorem fmt_spec (n : Nat) (h : n < 18446744073709551616) : Sp Tryd.prog gl 83 [u n, i6 10] (.str (Lib.decDigits n)) := by
  refine s83 rfl rfl ?_
  have S := ifmt_spec n h
  generalize Lib.decDigits n = R at *
  simp -implicitDefEqProofs [c83]
  refine onC_mk _ S ?_
  simp -implicitDefEqProofs
end Go.Ai
set_option linter.unusedSimpArgs false
set_option linter.unusedVariables false
namespace Go.Ai
open Go.Proofs Go.RowKit
theorem ite_le {α : Type} {a b : Nat} {x y : α} (h : a ≤ b) : (if a ≤ b then x else y) = x := if_pos h
theorem join5 (a b c d e : List UInt8) : Lib.join [a, b, c, d, e] [47] = jn [a, b, c, d, e] := by
  rw [Lib.join_cons, jn5]
  simp [Lib.joinTail]
theorem kprint_spec (k : Ky) (hg : k.g.length ≤ 4000) (hr : k.r.length ≤ 4000) : Sp Tryd.prog gl 40 [.agg k.row] (.str (printK k)) := by
  refine s40 rfl rfl ?_
  have R := kright_spec k (by omega) (by omega)
  cases h : rightK k
  · rw [h] at R
    have e : printK k = [63] := by unfold printK; rw [h]; rfl
    rw [e]
    rw [krow] at R ⊢
    clear e h
    obtain ⟨g, r, p, e, f⟩ := k
    simp only at *
    simp -implicitDefEqProofs [c40]
    refine onC_mk _ R ?_
    simp -implicitDefEqProofs
  · rw [h] at R
    have E1 := either_spec k.p [112, 97, 103, 101] [116, 105, 99, 107, 101, 116]
    have E2 := either_spec k.f [114, 101, 115, 111, 108, 118, 101] [102, 105, 114, 101]
    have F := fmt_spec k.e (by have := right_e h; omega)
    rw [decDigits_eq] at F
    have hd := dec_len 19 k.e (by have := right_e h; omega)
    have e : printK k = Lib.join [k.g, k.r, pageW k.p, dec k.e, fireW k.f] [47] := by unfold printK; rw [if_pos h, join5]
    have hlen := print_len ⟨[], [], k.p, k.e, k.f⟩ (by simp) (by simp)
    have J := join_spec [k.g, k.r, pageW k.p, dec k.e, fireW k.f] [47] (by simp) (by
      rw [join5, jn5]
      have hp : (pageW k.p).length ≤ 6 := by cases k.p <;> decide
      have hf : (fireW k.f).length ≤ 7 := by cases k.f <;> decide
      simp only [List.length_append, List.length_cons]
      omega)
    rw [e]
    rw [show (if k.p = true then [112, 97, 103, 101] else [116, 105, 99, 107, 101, 116]) = pageW k.p from rfl] at E1
    rw [show (if k.f = true then [114, 101, 115, 111, 108, 118, 101] else [102, 105, 114, 101]) = fireW k.f from rfl] at E2
    clear e h hd hlen
    rw [krow] at R ⊢
    obtain ⟨g, r, p, e, f⟩ := k
    simp only at *
    generalize Lib.join [g, r, pageW p, dec e, fireW f] [47] = out at *
    simp only [strRows, List.map_cons, List.map_nil] at J
    generalize dec e = de at *
    generalize pageW p = pw at *
    generalize fireW f = fw at *
    simp -implicitDefEqProofs [c40]
    refine onC_mk _ R ?_
    simp -implicitDefEqProofs
    refine onC_mk _ E1 ?_
    simp -implicitDefEqProofs
    refine onC_mk _ F ?_
    simp -implicitDefEqProofs
    refine onC_mk _ E2 ?_
    simp -implicitDefEqProofs
    refine onC_mk _ J ?_
    simp -implicitDefEqProofs
theorem digits13_spec (n : Nat) (h : n < 18446744073709551616) : Sp Tryd.prog gl 114 [u n] (.str (dec n)) := by
  refine s114 rfl rfl ?_
  have B := bits_spec n (by omega)
  have D := digits_spec (bitsOf n 128) (by simp [bitsOf])
  rw [bitsOf_val128 n (by omega)] at D
  rw [show wide n = .agg [u 0, u n] by unfold wide; rw [Nat.div_eq_of_lt h, Nat.mod_eq_of_lt h]] at B
  unfold bl at B D
  generalize dec n = out at *
  generalize List.map (fun b => [AV.bool b]) (bitsOf n 128) = bs at *
  simp -implicitDefEqProofs [c114]
  refine onC_mk _ B ?_
  simp -implicitDefEqProofs
  refine onC_mk _ D ?_
  simp -implicitDefEqProofs
set_option maxRecDepth 20000 in
theorem rprint_spec (k : Ky) (hg : k.g.length ≤ 4000) (hr : k.r.length ≤ 4000) : Sp Tryd.prog gl 80 [.agg k.row] (.str (printK k)) := by
  refine s80 rfl rfl ?_
  have R := rkright_spec k (by omega) (by omega)
  cases h : rightK k
  · rw [h] at R
    have e : printK k = [63] := by unfold printK; rw [h]; rfl
    rw [e]
    rw [krow] at R ⊢
    clear e h
    obtain ⟨g, r, p, e, f⟩ := k
    simp only at *
    simp -implicitDefEqProofs [c80]
    refine onC_mk _ R ?_
    simp -implicitDefEqProofs
  · rw [h] at R
    have D := digits13_spec k.e (by have := right_e h; omega)
    have hd := dec_len 19 k.e (by have := right_e h; omega)
    have e : printK k = k.g ++ 47 :: (k.r ++ 47 :: (pageW k.p ++ 47 :: (dec k.e ++ 47 :: fireW k.f))) := by unfold printK; rw [if_pos h, jn5]
    rw [e]
    clear e h
    rw [krow] at R ⊢
    obtain ⟨g, r, p, e, f⟩ := k
    simp only at *
    generalize dec e = de at *
    cases p
    · cases f
      · simp -implicitDefEqProofs [c80]
        refine onC_mk _ R ?_
        simp -implicitDefEqProofs
        rw [ite_le (by omega)]
        simp -implicitDefEqProofs
        rw [ite_le (by omega)]
        simp -implicitDefEqProofs
        rw [ite_le (by omega)]
        simp -implicitDefEqProofs
        refine onC_mk _ D ?_
        simp -implicitDefEqProofs
        rw [ite_le (by omega)]
        simp -implicitDefEqProofs
        rw [ite_le (by omega)]
        simp -implicitDefEqProofs [pageW, fireW]
      · simp -implicitDefEqProofs [c80]
        refine onC_mk _ R ?_
        simp -implicitDefEqProofs
        rw [ite_le (by omega)]
        simp -implicitDefEqProofs
        rw [ite_le (by omega)]
        simp -implicitDefEqProofs
        rw [ite_le (by omega)]
        simp -implicitDefEqProofs
        refine onC_mk _ D ?_
        simp -implicitDefEqProofs
        rw [ite_le (by omega)]
        simp -implicitDefEqProofs
        rw [ite_le (by omega)]
        simp -implicitDefEqProofs [pageW, fireW]
    · cases f
      · simp -implicitDefEqProofs [c80]
        refine onC_mk _ R ?_
        simp -implicitDefEqProofs
        rw [ite_le (by omega)]
        simp -implicitDefEqProofs
        rw [ite_le (by omega)]
        simp -implicitDefEqProofs
        rw [ite_le (by omega)]
        simp -implicitDefEqProofs
        refine onC_mk _ D ?_
        simp -implicitDefEqProofs
        rw [ite_le (by omega)]
        simp -implicitDefEqProofs
        rw [ite_le (by omega)]
        simp -implicitDefEqProofs [pageW, fireW]
      · simp -implicitDefEqProofs [c80]
        refine onC_mk _ R ?_
        simp -implicitDefEqProofs
        rw [ite_le (by omega)]
        simp -implicitDefEqProofs
        rw [ite_le (by omega)]
        simp -implicitDefEqProofs
        rw [ite_le (by omega)]
        simp -implicitDefEqProofs
        refine onC_mk _ D ?_
        simp -implicitDefEqProofs
        rw [ite_le (by omega)]
        simp -implicitDefEqProofs
        rw [ite_le (by omega)]
        simp -implicitDefEqProofs [pageW, fireW]
theorem which_spec (s a b : List UInt8) : Sp Tryd.prog gl 112 [.str s, .str a, .str b] (.tup [.bool (s == a), .bool (s == a || s == b)]) := by
  refine s112 rfl rfl ?_
  generalize hx : (s == a) = x
  generalize hy : (s == b) = y
  cases x
  · simp -implicitDefEqProofs [c112, hx, hy]
  · simp -implicitDefEqProofs [c112, hx, hy]
end Go.Ai
set_option linter.unusedSimpArgs false
set_option linter.unusedVariables false
namespace Go.Ai
open Go.Proofs
theorem head_spec (m : Ms) (hg : m.g.length ≤ 1000000) : Sp Tryd.prog gl 70 [.agg m.row] (.str (headM m)) := by
  refine s70 rfl rfl ?_
  obtain ⟨g, p, ks⟩ := m
  simp only at hg
  have hm : (⟨g, p, ks⟩ : Ms).row = [.str g, .bool p, .sl (ks.map Ky.row)] := rfl
  rw [hm]
  have h1 : (5 : Nat) + g.length ≤ 9223372036854775807 := by omega
  have h2 : (7 : Nat) + g.length ≤ 9223372036854775807 := by omega
  have h3 : g.length ≤ 9223372036854775802 := by omega
  have h4 : g.length ≤ 9223372036854775800 := by omega
  cases p
  · simp -implicitDefEqProofs [c70, headM, h1, h2, h3, h4]
  · simp -implicitDefEqProofs [c70, headM, h1, h2, h3, h4]
theorem jn_len5 (a b c d e : List UInt8) : (jn [a, b, c, d, e]).length = a.length + b.length + c.length + d.length + e.length + 4 := by
  rw [jn5]; simp; omega
theorem printK_le (k : Ky) : (printK k).length ≤ k.g.length + k.r.length + 60 := by
  unfold printK
  split
  · rename_i h
    rw [jn_len5]
    have h1 : (pageW k.p).length ≤ 6 := by cases k.p <;> decide
    have h2 : (fireW k.f).length ≤ 7 := by cases k.f <;> decide
    have h3 := dec_len 19 k.e (by have := right_e h; omega)
    omega
  · simp
def textTo (m : Ms) (i : Nat) : List UInt8 := flatL (headM m :: (m.ks.take i).map lineK)
theorem textTo_next (m : Ms) (i : Nat) (h : i < m.ks.length) : textTo m (i + 1) = textTo m i ++ (([32, 32] ++ printK m.ks[i]) ++ [10]) := by
  unfold textTo
  rw [List.take_succ_eq_append_getElem h, List.map_append]
  simp only [flatL, List.map_cons, List.map_append, List.map_nil, List.flatten_cons, List.flatten_append, List.flatten_nil, List.append_nil, List.append_assoc, lineK]
theorem byteRows_nil : byteRows [] = [] := rfl
theorem textTo_all (m : Ms) : textTo m m.ks.length = printM m := by simp [textTo, printM]
theorem textTo_zero (m : Ms) : textTo m 0 = headM m ++ [10] := by simp [textTo, flatL]
theorem headM_le (m : Ms) : (headM m).length ≤ m.g.length + 7 := by
  unfold headM
  rw [List.length_append]
  have : (if m.p = true then [112, 97, 103, 101, 32] else [116, 105, 99, 107, 101, 116, 32] : List UInt8).length ≤ 7 := by cases m.p <;> decide
  omega
theorem textTo_le (m : Ms) (hg : m.g.length ≤ 4000) (hk : ∀ k ∈ m.ks, k.g.length ≤ 4000 ∧ k.r.length ≤ 4000) : ∀ (i : Nat), i ≤ m.ks.length → (textTo m i).length ≤ 5000 + 9000 * i
  | 0, _ => by rw [textTo_zero]; have := headM_le m; simp; omega
  | i + 1, h => by
    have ih := textTo_le m hg hk i (by omega)
    rw [textTo_next m i (by omega)]
    have h1 := printK_le m.ks[i]
    have h2 := hk _ (List.getElem_mem (show i < m.ks.length by omega))
    simp; omega
theorem textTo_ne (m : Ms) (i : Nat) : textTo m i ≠ [] := by unfold textTo; simp [flatL]
set_option maxRecDepth 20000 in
theorem bprint_spec (m : Ms) (hg : m.g.length ≤ 4000) (hk : ∀ k ∈ m.ks, k.g.length ≤ 4000 ∧ k.r.length ≤ 4000) : Sp Tryd.prog gl 33 [.agg m.row] (if rightM m = true then .tup [.str (printM m), i6 0] else .tup [.str [], i6 6]) := by
  refine s33 rfl rfl ?_
  have RT := bright_spec m (fun k h => ⟨by have := hk k h; omega, by have := hk k h; omega⟩)
  have HD := head_spec m (by omega)
  have hm : m.row = [.str m.g, .bool m.p, .sl (m.ks.map Ky.row)] := rfl
  rw [hm] at RT HD ⊢
  cases hr : rightM m
  · rw [hr] at RT
    simp -implicitDefEqProofs [c33]
    refine onC_mk _ RT ?_
    simp -implicitDefEqProofs
  · rw [hr] at RT
    obtain ⟨r1, r8, _⟩ := rightM_all hr
    obtain ⟨R, hR⟩ : ∃ R, R = printM m := ⟨_, rfl⟩
    rw [← hR]
    have hh := headM_le m
    have q1 : (headM m).length ≤ 9223372036854775806 := by omega
    have WS := fun (d : Nat) (hb : (Id.n 4).isNw d = false) (c0 : AV) hc (l s : List UInt8) hl => ws_spec (d := d) (b := .n 4) rfl hb (c0 := c0) hc l s hl
    have W0 := fun d => WS d rfl (.nilT (.n 4) 124 2) (.inl rfl) [] (headM m ++ [10]) (by simp; omega)
    have hz := textTo_zero m
    rw [List.nil_append, ← hz] at W0
    simp -implicitDefEqProofs [c33]
    refine onC_mk _ RT ?_
    simp -implicitDefEqProofs
    refine onC_mk _ HD ?_
    simp -implicitDefEqProofs [q1]
    rw [← hz]
    refine onH_mk _ _ (W0 _) ⟨?_, ?_, ?_, ?_, ?_, ?_, ?_⟩ ?_
    iterate 7 (· simp -implicitDefEqProofs [byteRows_nil])
    simp -implicitDefEqProofs
    refine wp_lpk (α := Nat) (fun i => ⟨[(4, .ptr (.n 4) 0), (15, .sl (m.ks.map Ky.row)), (16, i6 m.ks.length), (17, i6 i)], [(.n 4, [.ptr (.n 4) 0, .sl (byteRows (textTo m i))])], [(.b (.n 4) 1, bk 5)]⟩)
      (fun i => i ≤ m.ks.length) (fun i => m.ks.length - i) ?_ 0 ?_ ?_
    · rintro K i hK h1
      by_cases g : i < m.ks.length
      · have t1 : IntKind.i64.wrap ((i : Int) + 1) = (i + 1 : Nat) := by rw [wrap_i64] <;> omega
        have fin : ∀ σ', Weak σ' ⟨[(4, .ptr (.n 4) 0), (15, .sl (m.ks.map Ky.row)), (16, i6 m.ks.length), (17, i6 (i + 1 : Nat))], [(.n 4, [.ptr (.n 4) 0, .sl (byteRows (textTo m (i + 1)))])], [(.b (.n 4) 1, bk 5)]⟩ → K σ' :=
          fun σ' hσ => hK (i + 1) σ' (by omega) (by omega) hσ
        have hki := hk _ (List.getElem_mem g)
        have KP := kprint_spec m.ks[i] hki.1 hki.2
        have hpl := printK_le m.ks[i]
        have htl := textTo_le m hg hk i (by omega)
        have W1 := fun d (hd : (Id.n 4).isNw d = false) => WS d hd (.ptr (.n 4) 0) (.inr rfl) (textTo m i) (([32, 32] ++ printK m.ks[i]) ++ [10]) (by simp; omega)
        rw [← textTo_next m i g] at W1
        have q2 : 2 + (printK m.ks[i]).length ≤ 9223372036854775807 := by omega
        have q3 : (printK m.ks[i]).length ≤ 9223372036854775805 := by omega
        have q4 : (printK m.ks[i]).length + 2 ≤ 9223372036854775806 := by omega
        have q5 : (printK m.ks[i]).length ≤ 9223372036854775804 := by omega
        have q6 : (printK m.ks[i]).length + 1 + 1 + 1 ≤ 9223372036854775807 := by omega
        rw [krow] at KP
        clear hK W0
        generalize textTo m (i + 1) = T2 at *
        generalize printK m.ks[i] = pk at *
        simp -implicitDefEqProofs [g, krow]
        refine onC_mk _ KP ?_
        simp -implicitDefEqProofs [q2, q3, q4, q5, q6]
        refine onH_mk _ _ (W1 _ rfl) ⟨?_, ?_, ?_, ?_, ?_, ?_, ?_⟩ ?_
        iterate 7 (· simp -implicitDefEqProofs)
        simp -implicitDefEqProofs
        refine fin _ (weak_mk ?_ ?_ ?_ ?_ ?_ ?_) <;> simp -implicitDefEqProofs [t1]
      · obtain rfl : i = m.ks.length := by omega
        have ST := fun d (hd : (Id.n 4).isNw d = false) => st_spec (d := d) (b := .n 4) rfl hd (c0 := .ptr (.n 4) 0) (textTo m m.ks.length) (textTo_ne _ _)
        rw [textTo_all] at ST ⊢
        rw [← hR] at ST ⊢
        clear hK W0 WS
        simp -implicitDefEqProofs
        refine onH_mk _ _ (ST _ rfl) ⟨?_, ?_, ?_, ?_, ?_, ?_, ?_⟩ ?_
        iterate 7 (· simp -implicitDefEqProofs)
        simp -implicitDefEqProofs
    · exact Nat.zero_le _
    · refine weak_mk ?_ ?_ ?_ ?_ ?_ ?_ <;> simp -implicitDefEqProofs
end Go.Ai
set_option linter.unusedSimpArgs false
set_option linter.unusedVariables false
namespace Go.Ai
open Go.Proofs
set_option maxRecDepth 20000 in
theorem has_spec (l : List Ky) (k : Ky) (hl : l.length ≤ 1000000) : Sp Tryd.prog gl 78 [.sl (l.map Ky.row), .agg k.row] (.bool (decide (k ∈ l))) := by
  refine s78 rfl rfl ?_
  obtain ⟨R, hR⟩ : ∃ R, R = decide (k ∈ l) := ⟨_, rfl⟩
  rw [← hR]
  have kk : k.row = [.str k.g, .str k.r, .bool k.p, u k.e, .bool k.f] := rfl
  rw [kk]
  simp -implicitDefEqProofs [c78]
  refine wp_lpk (α := Nat) (fun i => ⟨[(0, .sl (l.map Ky.row)), (3, .ptr (.n 3) 0), (5, i6 i)], [(.n 3, [.str k.g, .str k.r, .bool k.p, u k.e, .bool k.f])], []⟩)
    (fun i => i ≤ l.length ∧ decide (k ∈ l.drop i) = R) (fun i => l.length - i) ?_ 0 ?_ ?_
  · rintro K i hK ⟨h1, h2⟩
    by_cases g : i < l.length
    · have t1 : IntKind.i64.wrap ((i : Int) + 1) = (i + 1 : Nat) := by rw [wrap_i64] <;> omega
      rw [List.drop_eq_getElem_cons g] at h2
      have kb := ky_beq l[i] k
      by_cases e : l[i] = k
      · rw [decide_eq_true (by rw [e]; simp)] at h2
        subst h2
        rw [decide_eq_true e] at kb
        clear hK hR e
        simp -implicitDefEqProofs [g, krow, kb]
      · rw [decide_eq_false e] at kb
        have h3 : decide (k ∈ l.drop (i + 1)) = R := by
          rw [← h2, Bool.eq_iff_iff]
          simp only [decide_eq_true_eq, List.mem_cons]
          exact ⟨Or.inr, fun h => h.resolve_left (fun e2 => e e2.symm)⟩
        have fin : ∀ σ', Weak σ' ⟨[(0, .sl (l.map Ky.row)), (3, .ptr (.n 3) 0), (5, i6 (i + 1 : Nat))], [(.n 3, [.str k.g, .str k.r, .bool k.p, u k.e, .bool k.f])], []⟩ → K σ' :=
          fun σ' hσ => hK (i + 1) σ' ⟨by omega, h3⟩ (by omega) hσ
        clear hK hR e
        simp -implicitDefEqProofs [g, krow, kb]
        refine fin _ (weak_mk ?_ ?_ ?_ ?_ ?_ ?_) <;> simp -implicitDefEqProofs [t1]
    · obtain rfl : i = l.length := by omega
      rw [List.drop_length] at h2
      simp only [List.not_mem_nil, decide_false] at h2
      subst h2
      clear hK
      simp -implicitDefEqProofs
  · exact ⟨Nat.zero_le _, hR.symm⟩
  · refine weak_mk ?_ ?_ ?_ ?_ ?_ ?_ <;> simp -implicitDefEqProofs
theorem idx_take : ∀ (l : List Ky) (k : Ky) (i j : Nat) (h : i < l.length), l[i] = k → (idxK l k j == ((j + i : Nat) : Int)) = !decide (k ∈ l.take i)
  | x :: r, k, 0, j, h, hk => by
    simp only [List.getElem_cons_zero] at hk
    subst hk
    simp [idxK]
  | x :: r, k, i + 1, j, h, hk => by
    simp only [List.getElem_cons_succ] at hk
    simp only [idxK, List.take_succ_cons, List.mem_cons]
    by_cases e : k = x
    · rw [if_pos e]
      simp only [e, true_or, decide_true, Bool.not_true]
      rw [beq_eq_false_iff_ne]; omega
    · rw [if_neg e]
      have ih := idx_take r k i (j + 1) (by simpa using h) hk
      rw [show ((j + (i + 1) : Nat) : Int) = ((j + 1 + i : Nat) : Int) by omega, ih]
      simp only [e, false_or]
set_option maxRecDepth 20000 in
theorem rright30_spec (m : Ms) (hk : ∀ k ∈ m.ks, k.g.length ≤ 900000 ∧ k.r.length ≤ 900000) : Sp Tryd.prog gl 37 [.agg m.row] (.bool (rightM m)) := by
  refine s37 rfl rfl ?_
  obtain ⟨R, hR⟩ : ∃ R, R = rightM m := ⟨_, rfl⟩
  rw [← hR]
  unfold rightM at hR
  have hm : m.row = [.str m.g, .bool m.p, .sl (m.ks.map Ky.row)] := rfl
  rw [hm]
  by_cases c1 : m.ks.length = 0
  · have c1' : ((m.ks.length : Int) == 0) = true := by simp [c1]
    rw [decide_eq_false (by omega)] at hR
    subst hR
    simp -implicitDefEqProofs [c37, c1']
  · have c1' : ((m.ks.length : Int) == 0) = false := by rw [beq_eq_false_iff_ne]; omega
    by_cases c8 : m.ks.length ≤ 8
    · have c8' : ¬ (8 : Int) < m.ks.length := by omega
      rw [decide_eq_true ⟨by omega, c8⟩, Bool.true_and] at hR
      simp -implicitDefEqProofs [c37, c1', c8']
      refine wp_lpk (α := Nat) (fun i => ⟨[(1, .ptr (.n 1) 0), (3, i6 i)], [(.n 1, [.str m.g, .bool m.p, .sl (m.ks.map Ky.row)])], []⟩)
        (fun i => i ≤ m.ks.length ∧ rightGo m i (m.ks.drop i) = R) (fun i => m.ks.length - i) ?_ 0 ?_ ?_
      · rintro K i hK ⟨h1, h2⟩
        by_cases g : i < m.ks.length
        · have t1 : IntKind.i64.wrap ((i : Int) + 1) = (i + 1 : Nat) := by rw [wrap_i64] <;> omega
          rw [List.drop_eq_getElem_cons g] at h2
          have ix := idx_take m.ks m.ks[i] i 0 g rfl
          rw [Nat.zero_add] at ix
          simp only [rightGo, okAt, ix] at h2
          obtain ⟨w1, w2⟩ := hk _ (List.getElem_mem g)
          have KR := rkright_spec m.ks[i] w1 w2
          have HS := has_spec (m.ks.take i) m.ks[i] (by simp; omega)
          rw [List.map_take] at HS
          rw [krow] at KR HS
          have fin : rightGo m (i + 1) (m.ks.drop (i + 1)) = R → ∀ σ', Weak σ' ⟨[(1, .ptr (.n 1) 0), (3, i6 (i + 1 : Nat))], [(.n 1, [.str m.g, .bool m.p, .sl (m.ks.map Ky.row)])], []⟩ → K σ' :=
            fun hh σ' hσ => hK (i + 1) σ' ⟨by omega, hh⟩ (by omega) hσ
          clear hK hR hk w1 w2 ix
          generalize rightGo m (i + 1) (m.ks.drop (i + 1)) = R2 at *
          have gle : (i : Int) ≤ m.ks.length := by omega
          have r5 : ∀ r ∈ m.ks.map Ky.row, r.length = 5 := krows_len m.ks
          cases b1 : rightK m.ks[i]
          · rw [b1] at h2 KR
            have : R = false := by rw [← h2]; rfl
            subst this
            simp -implicitDefEqProofs [g, krow]
            refine onC_mk _ KR ?_
            simp -implicitDefEqProofs
          · rw [b1] at h2 KR
            cases b2 : (m.ks[i].g == m.g)
            · rw [b2] at h2
              have : R = false := by rw [← h2]; rfl
              subst this
              simp -implicitDefEqProofs [g, krow]
              refine onC_mk _ KR ?_
              simp -implicitDefEqProofs [g, krow, b2]
            · rw [b2] at h2
              cases b3 : (m.ks[i].p == m.p)
              · rw [b3] at h2
                have : R = false := by rw [← h2]; rfl
                subst this
                have b3' : (m.ks[i].p != m.p) = true := by simp only [bne, b3]; rfl
                simp -implicitDefEqProofs [g, krow]
                refine onC_mk _ KR ?_
                simp -implicitDefEqProofs [g, krow, b2, b3, b3']
              · rw [b3] at h2
                have b3' : (m.ks[i].p != m.p) = false := by simp only [bne, b3]; rfl
                generalize decide (m.ks[i] ∈ m.ks.take i) = H at *
                cases H
                · have fin := fin (by rw [← h2]; rfl)
                  simp -implicitDefEqProofs [g, krow]
                  refine onC_mk _ KR ?_
                  simp -implicitDefEqProofs [g, krow, b2, b3, b3', gle, r5]
                  refine onC_mk _ HS ?_
                  simp -implicitDefEqProofs
                  refine fin _ (weak_mk ?_ ?_ ?_ ?_ ?_ ?_) <;> simp -implicitDefEqProofs [t1]
                · have : R = false := by rw [← h2]; rfl
                  subst this
                  simp -implicitDefEqProofs [g, krow]
                  refine onC_mk _ KR ?_
                  simp -implicitDefEqProofs [g, krow, b2, b3, b3', gle, r5]
                  refine onC_mk _ HS ?_
                  simp -implicitDefEqProofs
        · obtain rfl : i = m.ks.length := by omega
          rw [List.drop_length] at h2
          simp only [rightGo] at h2
          subst h2
          clear hK
          simp -implicitDefEqProofs
      · exact ⟨Nat.zero_le _, hR.symm⟩
      · refine weak_mk ?_ ?_ ?_ ?_ ?_ ?_ <;> simp -implicitDefEqProofs
    · have c8' : (8 : Int) < m.ks.length := by omega
      rw [decide_eq_false (by omega)] at hR
      subst hR
      simp -implicitDefEqProofs [c37, c1', c8']
end Go.Ai
set_option linter.unusedSimpArgs false
set_option linter.unusedVariables false
namespace Go.Ai
open Go.Proofs
set_option maxRecDepth 20000 in
theorem rprint30_spec (m : Ms) (hg : m.g.length ≤ 4000) (hn : m.ks.length ≤ 1000) (hk : ∀ k ∈ m.ks, k.g.length ≤ 4000 ∧ k.r.length ≤ 4000) : Sp Tryd.prog gl 39 [.agg m.row] (.str (printM m)) := by
  refine s39 rfl rfl ?_
  obtain ⟨R, hR⟩ : ∃ R, R = printM m := ⟨_, rfl⟩
  rw [← hR]
  have hm : m.row = [.str m.g, .bool m.p, .sl (m.ks.map Ky.row)] := rfl
  rw [hm]
  have h2 : (7 : Nat) + m.g.length ≤ 9223372036854775807 := by omega
  have h4 : m.g.length ≤ 9223372036854775800 := by omega
  have h5 : m.g.length ≤ 9223372036854775799 := by omega
  have h6 : m.g.length ≤ 9223372036854775801 := by omega
  have h7 : m.g.length ≤ 9223372036854775802 := by omega
  have h8 : (5 : Nat) + m.g.length ≤ 9223372036854775807 := by omega
  have hz := textTo_zero m
  have loop : ∀ (e : List (Nat × AV)) (pm : List (Pl × Nat)) (bx : List (Id × List AV)), lk e 1 = .ptr (.n 1) 0 → lk e 3 = .str (textTo m 0) → lkB bx (.n 1) = some [.str m.g, .bool m.p, .sl (m.ks.map Ky.row)] →
      wpA (SpH Tryd.prog gl) (AC.tl 3 c39) (postA [.t 2] (.str R)) ⟨e, bx, pm⟩ := by
    intro e pm bx e1 e3 eb
    simp only [c39, AC.tl]
    simp -implicitDefEqProofs
    refine wp_lpk (α := Nat) (fun i => ⟨[(1, .ptr (.n 1) 0), (3, .str (textTo m i)), (4, i6 i)], [(.n 1, [.str m.g, .bool m.p, .sl (m.ks.map Ky.row)])], []⟩)
      (fun i => i ≤ m.ks.length) (fun i => m.ks.length - i) ?_ 0 ?_ ?_
    · rintro K i hK h1
      by_cases g : i < m.ks.length
      · have t1 : IntKind.i64.wrap ((i : Int) + 1) = (i + 1 : Nat) := by rw [wrap_i64] <;> omega
        have fin : ∀ σ', Weak σ' ⟨[(1, .ptr (.n 1) 0), (3, .str (textTo m (i + 1))), (4, i6 (i + 1 : Nat))], [(.n 1, [.str m.g, .bool m.p, .sl (m.ks.map Ky.row)])], []⟩ → K σ' :=
          fun σ' hσ => hK (i + 1) σ' (by omega) (by omega) hσ
        have hki := hk _ (List.getElem_mem g)
        have KP := rprint_spec m.ks[i] hki.1 hki.2
        have hpl := printK_le m.ks[i]
        have htl := textTo_le m hg hk i (by omega)
        have hnx := textTo_next m i g
        have q1 : (textTo m i).length ≤ 9223372036854775805 := by omega
        have q2 : (textTo m i).length + 2 ≤ 9223372036854775807 := by omega
        have q3 : (textTo m i).length + 2 + (printK m.ks[i]).length ≤ 9223372036854775807 := by omega
        have q4 : (textTo m i).length + 2 + (printK m.ks[i]).length ≤ 9223372036854775806 := by omega
        have q5 : (textTo m i).length + 1 + 1 + (printK m.ks[i]).length ≤ 9223372036854775807 := by omega
        have q6 : (textTo m i).length + ((printK m.ks[i]).length + 1 + 1) ≤ 9223372036854775807 := by omega
        have q7 : (textTo m i).length + ((printK m.ks[i]).length + 1 + 1) ≤ 9223372036854775806 := by omega
        rw [krow] at KP
        clear hK
        generalize textTo m (i + 1) = T2 at *
        generalize textTo m i = T1 at *
        generalize printK m.ks[i] = pk at *
        simp -implicitDefEqProofs [g, krow, q1, q2]
        refine onC_mk _ KP ?_
        simp -implicitDefEqProofs [q1, q2, q3, q4, q5, q6, q7]
        refine fin _ (weak_mk ?_ ?_ ?_ ?_ ?_ ?_) <;> simp -implicitDefEqProofs [t1, hnx]
      · obtain rfl : i = m.ks.length := by omega
        rw [textTo_all, ← hR]
        clear hK
        simp -implicitDefEqProofs
    · exact Nat.zero_le _
    · refine weak_mk ?_ ?_ ?_ ?_ ?_ ?_ <;> simp -implicitDefEqProofs [e1, e3, eb]
  have ec : c39 = AC.cutAt 3 (AC.tl 3 c39) c39 := rfl
  rw [ec]
  generalize AC.tl 3 c39 = t at loop ⊢
  simp only [c39, AC.cutAt]
  obtain ⟨g, p, ks⟩ := m
  simp only at h2 h4 h5 h6 h7 h8
  cases p
  · simp -implicitDefEqProofs [h2, h4, h5, h6, h7, h8]
    refine loop _ _ _ ?_ ?_ ?_ <;> simp -implicitDefEqProofs [hz, headM]
  · simp -implicitDefEqProofs [h2, h4, h5, h6, h7, h8]
    refine loop _ _ _ ?_ ?_ ?_ <;> simp -implicitDefEqProofs [hz, headM]
end Go.Ai
