/- YtcdomokjdfmnlaaGreatDoorP7: part of the abstract interpreter library (values, rules, soundness against the model) or of what a function of the seat computes. Conditions: as each theorem says. -/
import Derived.Test.YtcdomokjdfmnlaaGreatDoorCode
import Derived.Test.YtcdomokjdfmnlaaGreatDoorAiShelf2
import Derived.Shelf.Lays
import Derived.Shelf.LaysM
import Derived.Shelf.Small.Wraps
import Derived.Shelf.Strings.BuilderX
import Derived.Shelf.Strings.SplitCore
import Derived.Shelf.Unicode.ValidAny
import Derived.Test.YtcdomokjdfmnlaaGreatDoorP1
import Derived.Test.YtcdomokjdfmnlaaGreatDoorAiShelf
import Derived.Test.YtcdomokjdfmnlaaGreatDoorAiShelf4
import Derived.Test.YtcdomokjdfmnlaaGreatDoorP6
set_option linter.unusedSimpArgs false
set_option linter.unusedVariables false
namespace Go.Ai
open Go.Proofs Go.Shelf
def ren_laysJoin : Ren := {
  f := fun x => match x with
    | 167 => 161
    | 156 => 160
    | 165 => 206
    | 166 => 159
    | 169 => 100
    | 240 => 205
    | 241 => 234
    | 276 => 233
    | 277 => 250
    | n => n
  t := fun x => match x with
    | 31 => 248
    | 9 => 9
    | 3 => 3
    | 4 => 4
    | 0 => 0
    | 20 => 20
    | 72 => 166
    | 76 => 251
    | 70 => 164
    | 37 => 72
    | 75 => 250
    | 127 => 260
    | 164 => 324
    | 5 => 5
    | 80 => 175
    | n => n
  g := fun x => x }
set_option maxRecDepth 100000 in
theorem laysJoin : Lays.n156 Tryz.prog ren_laysJoin where
  mixed := by kernel_rfl
  f156 := Eq.trans Tryz.func160 (congrArg some (show Tryz.f160 = Body.n156 ren_laysJoin by kernel_rfl))
  f165 := Eq.trans Tryz.func206 (congrArg some (show Tryz.f206 = Body.n165 ren_laysJoin by kernel_rfl))
  f166 := Eq.trans Tryz.func159 (congrArg some (show Tryz.f159 = Body.n166 ren_laysJoin by kernel_rfl))
  f169 := Eq.trans Tryz.func100 (congrArg some (show Tryz.f100 = Body.n169 ren_laysJoin by kernel_rfl))
  f240 := Eq.trans Tryz.func205 (congrArg some (show Tryz.f205 = Body.n240 ren_laysJoin by kernel_rfl))
  f241 := Eq.trans Tryz.func234 (congrArg some (show Tryz.f234 = Body.n241 ren_laysJoin by kernel_rfl))
  f276 := Eq.trans Tryz.func233 (congrArg some (show Tryz.f233 = Body.n276 ren_laysJoin by kernel_rfl))
  f277 := Eq.trans Tryz.func250 (congrArg some (show Tryz.f250 = Body.n277 ren_laysJoin by kernel_rfl))
  t0 := Tryz.underlying0
  a0 := Tryz.isAgg0
  z0 := Tryz.sizeOf0
  v0 := Tryz.zeroValue0
  t3 := Tryz.underlying3
  a3 := Tryz.isAgg3
  z3 := Tryz.sizeOf3
  v3 := Tryz.zeroValue3
  t4 := Tryz.underlying4
  a4 := Tryz.isAgg4
  z4 := Tryz.sizeOf4
  v4 := Tryz.zeroValue4
  t9 := Tryz.underlying9
  a9 := Tryz.isAgg9
  z9 := Tryz.sizeOf9
  v9 := Tryz.zeroValue9
  t20 := Tryz.underlying20
  a20 := Tryz.isAgg20
  z20 := Tryz.sizeOf20
  v20 := Tryz.zeroValue20
  t31 := Tryz.underlying248
  a31 := Tryz.isAgg248
  z31 := Tryz.sizeOf248
  v31 := Tryz.zeroValue248
  t37 := Tryz.underlying72
  a37 := Tryz.isAgg72
  z37 := Tryz.sizeOf72
  v37 := Tryz.zeroValue72
  t70 := Tryz.underlying164
  a70 := Tryz.isAgg164
  z70 := Tryz.sizeOf164
  v70 := Tryz.zeroValue164
  t72 := Tryz.underlying166
  a72 := Tryz.isAgg166
  z72 := Tryz.sizeOf166
  v72 := Tryz.zeroValue166
  t75 := Tryz.underlying250
  a75 := Tryz.isAgg250
  z75 := Tryz.sizeOf250
  v75 := Tryz.zeroValue250
  t76 := Tryz.underlying251
  a76 := Tryz.isAgg251
  z76 := Tryz.sizeOf251
  v76 := Tryz.zeroValue251
  t127 := Tryz.underlying260
  a127 := Tryz.isAgg260
  z127 := Tryz.sizeOf260
  v127 := Tryz.zeroValue260
  t164 := Tryz.underlying324
  a164 := Tryz.isAgg324
  z164 := Tryz.sizeOf324
  v164 := Tryz.zeroValue324
def ren_laysSmall : Ren := {
  f := fun x => match x with
    | 283 => 235
    | n => n
  t := fun x => match x with
    | 3 => 3
    | 9 => 9
    | 4 => 4
    | n => n
  g := fun x => x }
set_option maxRecDepth 100000 in
theorem laysSmall : Lays.n283 Tryz.prog ren_laysSmall where
  mixed := by kernel_rfl
  f283 := Eq.trans Tryz.func235 (congrArg some (show Tryz.f235 = Body.n283 ren_laysSmall by kernel_rfl))
  t3 := Tryz.underlying3
  a3 := Tryz.isAgg3
  z3 := Tryz.sizeOf3
  v3 := Tryz.zeroValue3
  t4 := Tryz.underlying4
  a4 := Tryz.isAgg4
  z4 := Tryz.sizeOf4
  v4 := Tryz.zeroValue4
  t9 := Tryz.underlying9
  a9 := Tryz.isAgg9
  z9 := Tryz.sizeOf9
  v9 := Tryz.zeroValue9
def ren_laysDig : Ren := {
  f := fun x => match x with
    | 284 => 236
    | 129 => 228
    | 317 => 251
    | 318 => 252
    | n => n
  t := fun x => match x with
    | 53 => 22
    | 3 => 3
    | 212 => 344
    | 0 => 0
    | 4 => 4
    | 46 => 194
    | 5 => 5
    | 9 => 9
    | n => n
  g := fun x => match x with
    | 17 => 4
    | n => n }
set_option maxRecDepth 100000 in
theorem laysDig : LaysM.n284 Tryz.prog ren_laysDig where
  mixed := by kernel_rfl
  f129 := Eq.trans Tryz.func228 (congrArg some (show Tryz.f228 = Body.n129 ren_laysDig by kernel_rfl))
  f284 := Eq.trans Tryz.func236 (congrArg some (show Tryz.f236 = Body.n284 ren_laysDig by kernel_rfl))
  f317 := Eq.trans Tryz.func251 (congrArg some (show Tryz.f251 = Body.n317 ren_laysDig by kernel_rfl))
  f318 := Eq.trans Tryz.func252 (congrArg some (show Tryz.f252 = Body.n318 ren_laysDig by kernel_rfl))
  t0 := Tryz.underlying0
  a0 := Tryz.isAgg0
  z0 := Tryz.sizeOf0
  v0 := Tryz.zeroValue0
  t3 := Tryz.underlying3
  a3 := Tryz.isAgg3
  z3 := Tryz.sizeOf3
  v3 := Tryz.zeroValue3
  t4 := Tryz.underlying4
  a4 := Tryz.isAgg4
  z4 := Tryz.sizeOf4
  v4 := Tryz.zeroValue4
  t5 := Tryz.underlying5
  a5 := Tryz.isAgg5
  z5 := Tryz.sizeOf5
  v5 := Tryz.zeroValue5
  t9 := Tryz.underlying9
  a9 := Tryz.isAgg9
  z9 := Tryz.sizeOf9
  v9 := Tryz.zeroValue9
  t46 := Tryz.underlying194
  a46 := Tryz.isAgg194
  z46 := Tryz.sizeOf194
  v46 := Tryz.zeroValue194
  t53 := Tryz.underlying22
  a53 := Tryz.isAgg22
  z53 := Tryz.sizeOf22
  v53 := Tryz.zeroValue22
  t212 := Tryz.underlying344
  a212 := Tryz.isAgg344
  z212 := Tryz.sizeOf344
  v212 := Tryz.zeroValue344
  g17 := by kernel_rfl
  i0 := by kernel_rfl
  i3 := by kernel_rfl
  i4 := by kernel_rfl
  i5 := by kernel_rfl
  i9 := by kernel_rfl
  i46 := by kernel_rfl
  i53 := by kernel_rfl
  i212 := by kernel_rfl
  m17 := by kernel_rfl
def ren_laysFmt : Ren := {
  f := fun x => match x with
    | 285 => 237
    | n => n
  t := fun x => match x with
    | 37 => 72
    | 53 => 22
    | 3 => 3
    | 4 => 4
    | 51 => 39
    | 9 => 9
    | 5 => 5
    | 0 => 0
    | n => n
  g := fun x => x }
set_option maxRecDepth 100000 in
theorem laysFmt : Lays.n285 Tryz.prog ren_laysFmt where
  mixed := by kernel_rfl
  f285 := Eq.trans Tryz.func237 (congrArg some (show Tryz.f237 = Body.n285 ren_laysFmt by kernel_rfl))
  t0 := Tryz.underlying0
  a0 := Tryz.isAgg0
  z0 := Tryz.sizeOf0
  v0 := Tryz.zeroValue0
  t3 := Tryz.underlying3
  a3 := Tryz.isAgg3
  z3 := Tryz.sizeOf3
  v3 := Tryz.zeroValue3
  t4 := Tryz.underlying4
  a4 := Tryz.isAgg4
  z4 := Tryz.sizeOf4
  v4 := Tryz.zeroValue4
  t5 := Tryz.underlying5
  a5 := Tryz.isAgg5
  z5 := Tryz.sizeOf5
  v5 := Tryz.zeroValue5
  t9 := Tryz.underlying9
  a9 := Tryz.isAgg9
  z9 := Tryz.sizeOf9
  v9 := Tryz.zeroValue9
  t37 := Tryz.underlying72
  a37 := Tryz.isAgg72
  z37 := Tryz.sizeOf72
  v37 := Tryz.zeroValue72
  t51 := Tryz.underlying39
  a51 := Tryz.isAgg39
  z51 := Tryz.sizeOf39
  v51 := Tryz.zeroValue39
  t53 := Tryz.underlying22
  a53 := Tryz.isAgg22
  z53 := Tryz.sizeOf22
  v53 := Tryz.zeroValue22
def ren_laysValid : Ren := {
  f := fun x => match x with
    | 196 => 217
    | 259 => 242
    | n => n
  t := fun x => match x with
    | 9 => 9
    | 4 => 4
    | 3 => 3
    | 5 => 5
    | 12 => 12
    | 119 => 332
    | 0 => 0
    | 46 => 194
    | 139 => 335
    | 138 => 334
    | 53 => 22
    | n => n
  g := fun x => match x with
    | 3 => 2
    | 4 => 3
    | n => n }
set_option maxRecDepth 100000 in
theorem laysValid : Lays.n196 Tryz.prog ren_laysValid where
  mixed := by kernel_rfl
  f196 := Eq.trans Tryz.func217 (congrArg some (show Tryz.f217 = Body.n196 ren_laysValid by kernel_rfl))
  f259 := Eq.trans Tryz.func242 (congrArg some (show Tryz.f242 = Body.n259 ren_laysValid by kernel_rfl))
  t0 := Tryz.underlying0
  a0 := Tryz.isAgg0
  z0 := Tryz.sizeOf0
  v0 := Tryz.zeroValue0
  t3 := Tryz.underlying3
  a3 := Tryz.isAgg3
  z3 := Tryz.sizeOf3
  v3 := Tryz.zeroValue3
  t4 := Tryz.underlying4
  a4 := Tryz.isAgg4
  z4 := Tryz.sizeOf4
  v4 := Tryz.zeroValue4
  t5 := Tryz.underlying5
  a5 := Tryz.isAgg5
  z5 := Tryz.sizeOf5
  v5 := Tryz.zeroValue5
  t9 := Tryz.underlying9
  a9 := Tryz.isAgg9
  z9 := Tryz.sizeOf9
  v9 := Tryz.zeroValue9
  t12 := Tryz.underlying12
  a12 := Tryz.isAgg12
  z12 := Tryz.sizeOf12
  v12 := Tryz.zeroValue12
  t46 := Tryz.underlying194
  a46 := Tryz.isAgg194
  z46 := Tryz.sizeOf194
  v46 := Tryz.zeroValue194
  t53 := Tryz.underlying22
  a53 := Tryz.isAgg22
  z53 := Tryz.sizeOf22
  v53 := Tryz.zeroValue22
  t119 := Tryz.underlying332
  a119 := Tryz.isAgg332
  z119 := Tryz.sizeOf332
  t138 := Tryz.underlying334
  a138 := Tryz.isAgg334
  z138 := Tryz.sizeOf334
  v138 := Tryz.zeroValue334
  t139 := Tryz.underlying335
  a139 := Tryz.isAgg335
  z139 := Tryz.sizeOf335
  v139 := Tryz.zeroValue335
  g3 := by kernel_rfl
  g4 := by kernel_rfl
end Go.Ai
set_option linter.unusedSimpArgs false
set_option linter.unusedVariables false
namespace Go.Ai
open Go.Proofs Go.Shelf
theorem extraJ : Builder.Extra Tryz.prog ren_laysJoin where
  sizeBuilder := by kernel_rfl
  liesBuilder := by kernel_rfl
  t5 := Tryz.underlying5
  a5 := Tryz.isAgg5
  z5 := Tryz.sizeOf5
  v5 := Tryz.zeroValue5
  infoByte := by kernel_rfl
  cellsByte := by kernel_rfl
  sizeByte := by kernel_rfl
  neB5 := by decide
theorem join_spec (xs : List (List UInt8)) (sep : List UInt8) (hN : xs.length ≤ 140737488355328) (hlen : (Lib.join xs sep).length ≤ 140737488355328) : Sp Tryz.prog gl 160 [.sl (strRows xs), .str sep] (.str (Lib.join xs sep)) :=
  join_shelf laysJoin extraJ (by kernel_rfl) (by kernel_rfl) xs sep hN hlen
end Go.Ai
set_option linter.unusedSimpArgs false
set_option linter.unusedVariables false
namespace Go.Ai
open Go.Proofs Go.Shelf
/-- The permission of a builder's bytes. -/
theorem bk_def : bk (ren_laysJoin.t 5) = bk 5 := rfl
theorem ws_spec {d : Nat} {b : Id} (hit : b.isIt = false) (hnwb : b.isNw d = false) {c0 : AV} (hc0 : c0 = .nilT b 166 2 ∨ c0 = .ptr b 0) (l s : List UInt8) (hl : l.length + s.length ≤ 140737488355328) :
    SpH Tryz.prog gl 159 d ⟨[.ptr b 0, .str s], [(b, [c0, .sl (byteRows l)])], [(.b b 1, bk 5)]⟩ ⟨.tup [.int .i64 s.length, .undef], [(b, [.ptr b 0, .sl (byteRows (l ++ s))])], [(.b b 1, bk 5)]⟩ :=
  ws_shelf (L := { laysJoin with }) extraJ (by kernel_rfl) (by kernel_rfl) hit hnwb (T := 166) (n := 2) (hc0.imp (fun h => ⟨h, by unfold bldAt; kernel_rfl⟩) id) (rest := []) l s hl
theorem st_spec {d : Nat} {b : Id} (hit : b.isIt = false) (hnwb : b.isNw d = false) {c0 : AV} (l : List UInt8) (h0 : l ≠ []) :
    SpH Tryz.prog gl 100 d ⟨[.ptr b 0], [(b, [c0, .sl (byteRows l)])], [(.b b 1, bk 5)]⟩ ⟨.str l, [(b, [c0, .sl (byteRows l)])], []⟩ :=
  st_shelf (L := { laysJoin with }) extraJ (by kernel_rfl) (by kernel_rfl) hit hnwb (rest := []) l h0
end Go.Ai
set_option linter.unusedSimpArgs false
set_option linter.unusedVariables false
namespace Go.Ai
open Go.Proofs Go.Shelf
set_option maxRecDepth 100000 in
theorem laysWB : Lays.n167 Tryz.prog ren_laysJoin := { laysJoin with t5 := extraJ.t5, a5 := extraJ.a5, z5 := extraJ.z5, v5 := extraJ.v5, f167 := Eq.trans Tryz.func161 (congrArg some (show Tryz.f161 = Body.n167 ren_laysJoin by kernel_rfl)) }
theorem wb_spec {d : Nat} {b : Id} (hit : b.isIt = false) (hnwb : b.isNw d = false) {T : Nat} (hT : bldAt Tryz.prog 166 T 2) {c0 : AV} (hc0 : c0 = .nilT b T 2 ∨ c0 = .ptr b 0) (l : List UInt8) (c : UInt8) (hl : l.length + 1 ≤ 140737488355328) :
    SpH Tryz.prog gl 161 d ⟨[.ptr b 0, .int .u8 c.toNat], [(b, [c0, .sl (byteRows l)])], [(.b b 1, bk 5)]⟩ ⟨.undef, [(b, [.ptr b 0, .sl (byteRows (l ++ [c]))])], [(.b b 1, bk 5)]⟩ :=
  wb_shelf laysWB extraJ (by kernel_rfl) (by kernel_rfl) hit hnwb (T := T) (n := 2) (hc0.imp (fun h => ⟨h, hT⟩) id) (rest := []) l c hl
theorem wsT_spec {d : Nat} {b : Id} (hit : b.isIt = false) (hnwb : b.isNw d = false) {T : Nat} (hT : bldAt Tryz.prog 166 T 2) {c0 : AV} (hc0 : c0 = .nilT b T 2 ∨ c0 = .ptr b 0) (l s : List UInt8) (hl : l.length + s.length ≤ 140737488355328) :
    SpH Tryz.prog gl 159 d ⟨[.ptr b 0, .str s], [(b, [c0, .sl (byteRows l)])], [(.b b 1, bk 5)]⟩ ⟨.tup [.int .i64 s.length, .undef], [(b, [.ptr b 0, .sl (byteRows (l ++ s))])], [(.b b 1, bk 5)]⟩ :=
  ws_shelf (L := { laysJoin with }) extraJ (by kernel_rfl) (by kernel_rfl) hit hnwb (T := T) (n := 2) (hc0.imp (fun h => ⟨h, hT⟩) id) (rest := []) l s hl
end Go.Ai
set_option linter.unusedSimpArgs false
set_option linter.unusedVariables false
namespace Go.Ai
open Go.Proofs Go.Shelf Go.RowKit Go.Sort Go.Lib
theorem holds_zero0 (w : World) (T : TypeId) (nd : Nat) (hs : nd ≤ 24) : Holds (fun (b : UInt8) => Value.int .u8 (b.toNat : Int)) (w.alloc (.cells Lib.zeros24 T)) w.heap.size 0 (Array.replicate nd (0 : UInt8)) := fun j hj => by
  have hj' : j < nd := by simpa using hj
  refine ⟨?_, World.frozen?_alloc_new _ _ _ _⟩
  rw [World.cell?_alloc_new, zeros24_at _ (by omega), getElem!_pos _ j hj]
  simp
theorem below_grow (w : World) (os : Array Obj) (k : Nat) : Below w.heap.size w ((grow w os).drewN k) := by
  refine ⟨rfl, rfl, rfl, ?_, fun i hi => ?_⟩
  · show w.heap.size ≤ (w.heap ++ os).size
    simp
  · show (w.heap ++ os)[i]? = w.heap[i]?
    exact Array.getElem?_append_left hi
set_option maxHeartbeats 6400000 in
set_option maxRecDepth 100000 in
/-- internal/strconv.FormatUint at base 10, of 100 and more. -/
theorem fmtUint_calls (u : Nat) (hu1 : 100 ≤ u) (hu64 : u < 18446744073709551616) (w : World) (htab : ∀ q, q < 20 → w.cell? ⟨4, q, none⟩ = some (.int .u64 ((10 ^ q : Nat) : Int))) :
    Calls Tryz.prog 207 #[.int .u64 u, .int .i64 10] w fun e w' => e = .returned (.string ⟨(Lib.decDigits u).toArray⟩) ∧ Below w.heap.size w w' := by
  have hnd20 : Lib.nDigits u ≤ 20 := by have := Lib.numDigits_eq u (by omega) hu64; split at this <;> omega
  have hal : Tryz.prog.arrayLen 326 = 24 := by kernel_rfl
  have hsl : ∀ W, (Instr.sliceAt 326 (.pointer (some ⟨w.heap.size, 0, none⟩)) none (some (.int .i64 (Lib.nDigits u : Int))) none).run Tryz.prog W = .ok (.slice (some ⟨w.heap.size, 0, none⟩) (Lib.nDigits u) 24) W := fun W => by
    rw [run_sliceAt_array_h W 326 ⟨w.heap.size, 0, none⟩ (by kernel_rfl) .i64 (Lib.nDigits u : Int) (by omega) (by rw [hal]; omega)]
    go_simp
  have hH0 := holds_zero0 w 326 (Lib.nDigits u) (by omega)
  have hfmt := Any.internal_strconv_formatBase10 laysFmt w.heap.size 0 24 u (Array.replicate (Lib.nDigits u) 0) (w.alloc (.cells Lib.zeros24 326)) hH0 (by rw [Array.size_replicate]; exact Lib.lt_pow_nDigits u) hu64 (by rw [Array.size_replicate]; omega)
  rw [Array.size_replicate] at hfmt
  have HH0 := Lib.hid hH0
  clear hH0 hal
  have hnd : Calls Tryz.prog 236 #[.int .u64 u] (w.alloc (.cells Lib.zeros24 326)) fun e w' => e = .returned (.int .i64 (Lib.nDigits u)) ∧ w' = (w.alloc (.cells Lib.zeros24 326)) :=
    numDigits_cells laysDig u (by omega) hu64 _ (fun q hq => by
      have h1 := htab q hq
      have h2 := World.block_lt_of_cell? w _ h1
      exact (World.cell?_alloc_lt w _ _ h2).trans h1)
  go_enter Tryz.func207, Tryz.ntmps207
  go_wp2_with (first
    | (go_at_call 236; refine hnd.mono ?_; rintro e w' ⟨rfl, rfl⟩))
  go_at_call 237
  refine hfmt.mono ?_
  rintro e w' ⟨rfl, k, v', dk, rfl, hF⟩
  have hcv : (convert 72 9 (.slice (some ⟨w.heap.size, 0, none⟩) (Lib.nDigits u) 24)).run Tryz.prog ((putRow (fun (b : UInt8) => Value.int .u8 (b.toNat : Int)) (w.alloc (.cells Lib.zeros24 326)) w.heap.size 0 dk).drewN k) = .ok (.string ⟨(Lib.decDigits u).toArray⟩) ((putRow (fun (b : UInt8) => Value.int .u8 (b.toNat : Int)) (w.alloc (.cells Lib.zeros24 326)) w.heap.size 0 dk).drewN k) := by
    have h := run_convert_bytes_back (P := Tryz.prog) ((putRow (fun (b : UInt8) => Value.int .u8 (b.toNat : Int)) (w.alloc (.cells Lib.zeros24 326)) w.heap.size 0 dk).drewN k) 72 9 5 ⟨w.heap.size, 0, none⟩ 24 (Lib.decDigits u) Tryz.underlying72 Tryz.underlying5 Tryz.underlying9 (fun j hj => by
      rw [Lib.row_is_numeral hF j hj, Lib.add_plain, World.cell?_drewN]
      exact cell?_putRow (fun (b : UInt8) => Value.int .u8 (b.toNat : Int)) _ w.heap.size 0 _ dk HH0.out (by rw [hF.size, Array.size_replicate]) j (by rw [hF.size]; rw [Lib.decDigits_length] at hj; exact hj))
    rw [Lib.decDigits_length] at h
    exact h
  go_wp2
  go_ret
  refine ⟨rfl, ?_⟩
  rw [alloc_eq_grow]
  obtain ⟨os', _, eg⟩ := putRow_grow_new (fun (b : UInt8) => Value.int .u8 (b.toNat : Int)) w #[.cells Lib.zeros24 326] w.heap.size 0 dk (Nat.le_refl _)
  rw [eg]
  exact below_grow w os' k

theorem small_spec (n : Nat) (h : n < 100) : Sp Tryz.prog gl 235 [i6 n] (.str (Lib.decDigits n)) := by
  refine shelf_spec Tryz.func235 (by kernel_rfl) (by kernel_rfl) ?_
  intro S gb w vs hvs hag
  simp only [PRlist, PR] at hvs
  obtain ⟨_, _, rfl, rfl, rfl⟩ := hvs
  exact (Any.internal_strconv_small laysSmall n h w).mono fun e w' ⟨he, hw⟩ => ⟨_, he, hw ▸ Below.refl _ _, by simp [PR]⟩
theorem tab_gl : List.lookup 4 gl = some ((List.range 20).map fun q => Value.int .u64 ((10 ^ q : Nat) : Int)) := by kernel_rfl
theorem tab_cells {w : World} (h : ∀ i us, List.lookup i gl = some us → ∀ (o : Nat) (u : Value), us[o]? = some u → w.cell? ⟨i, o, none⟩ = some u) (q : Nat) (hq : q < 20) : w.cell? ⟨4, q, none⟩ = some (.int .u64 ((10 ^ q : Nat) : Int)) :=
  h 4 _ tab_gl q _ (by simp [hq])
theorem ifmt_spec (n : Nat) (h : n < 18446744073709551616) : Sp Tryz.prog gl 207 [u n, i6 10] (.str (Lib.decDigits n)) := by
  by_cases g : n < 100
  · refine s207 rfl rfl ?_
    have S := small_spec n g
    generalize Lib.decDigits n = R at *
    have t1 : IntKind.i64.wrap (n : Int) = n := by rw [wrap_i64] <;> omega
    have g' : (n : Int) < 100 := by omega
    simp -implicitDefEqProofs [c207, t1, g, g']
    refine onC_mk _ S ?_
    simp -implicitDefEqProofs
  · refine shelf_specG Tryz.func207 (by kernel_rfl) (by kernel_rfl) ?_
    intro S gb w vs hvs hag hgl
    simp only [PRlist, PR] at hvs
    obtain ⟨_, _, rfl, rfl, _, _, rfl, rfl, rfl⟩ := hvs
    exact (fmtUint_calls n (by omega) h w (tab_cells hgl)).mono fun e w' ⟨he, hw⟩ => ⟨_, he, hw, by simp [PR]⟩
theorem fmt_spec (n : Nat) (h : n < 18446744073709551616) : Sp Tryz.prog gl 162 [u n, i6 10] (.str (Lib.decDigits n)) := by
  refine s162 rfl rfl ?_
  have S := ifmt_spec n h
  generalize Lib.decDigits n = R at *
  simp -implicitDefEqProofs [c162]
  refine onC_mk _ S ?_
  simp -implicitDefEqProofs
end Go.Ai
set_option linter.unusedSimpArgs false
set_option linter.unusedVariables false
namespace Go.Ai
open Go.Proofs
theorem rdigits_spec (n : Nat) (h : n < 18446744073709551616) : Sp Tryz.prog gl 95 [u n] (.str (Lib.decDigits n)) := by
  refine s95 rfl rfl ?_
  have F := fmt_spec n h
  simp -implicitDefEqProofs [c95]
  refine onC_mk _ F ?_
  simp -implicitDefEqProofs
theorem printer_at : bldAt Tryz.prog 166 168 2 := by unfold bldAt; kernel_rfl
set_option maxRecDepth 20000 in
theorem line_spec (d : Nat) (b : Id) (hb : b.isIt = false) (hbd : b.isNw d = false) (c0 : AV) (hc0 : c0 = .nilT b 168 2 ∨ c0 = .ptr b 0) (l : List UInt8) (ws : List (List UInt8)) (hw : ws.length ≤ 1000) (hl : l.length + (Lib.join ws [32]).length + 1 ≤ 140737488355328) :
    SpH Tryz.prog gl 94 d ⟨[.ptr b 0, .sl (strRows ws)], [(b, [c0, .sl (byteRows l)])], [(.b b 1, bk 5)]⟩ ⟨.tup [], [(b, [.ptr b 0, .sl (byteRows ((l ++ Lib.join ws [32]) ++ [10]))])], [(.b b 1, bk 5)]⟩ := by
  refine h94 rfl ?_
  have hic := inn_notNw hbd
  have J := join_spec ws [32] (by omega) (by omega)
  have W := fun (e : Nat) (c1 : AV) hc => wsT_spec (d := e) (b := .up b) hb rfl printer_at (c0 := c1) hc l (Lib.join ws [32]) (by omega)
  have B := fun (e : Nat) => wb_spec (d := e) (b := .up b) hb rfl printer_at (c0 := .ptr (.up b) 0) (.inr rfl) (l ++ Lib.join ws [32]) 10 (by simp; omega)
  generalize Lib.join ws [32] = j at *
  generalize (l ++ j) ++ [10] = r2 at *
  simp only [inSt, mpB, mpL, AV.mp, mpP]
  have e10 : (10 : UInt8).toNat = 10 := rfl
  simp only [e10] at B
  rcases hc0 with rfl | rfl
  · have W1 := fun e => W e (.nilT (.up b) 168 2) (.inl rfl)
    clear W
    generalize l ++ j = r1 at *
    simp -implicitDefEqProofs [c94]
    refine onC_mk _ J ?_
    simp -implicitDefEqProofs
    refine onH_mk _ _ (W1 _) ⟨?_, ?_, ?_, ?_, ?_, ?_, ?_⟩ ?_
    iterate 7 (· simp -implicitDefEqProofs)
    simp -implicitDefEqProofs
    refine onH_mk _ _ (B _) ⟨?_, ?_, ?_, ?_, ?_, ?_, ?_⟩ ?_
    iterate 7 (· simp -implicitDefEqProofs)
    simp -implicitDefEqProofs
    refine postH_n ⟨?_, ?_, ?_, ?_, ?_, ?_⟩ <;> simp -implicitDefEqProofs [hic, hb]
  · have W1 := fun e => W e (.ptr (.up b) 0) (.inr rfl)
    clear W
    generalize l ++ j = r1 at *
    simp -implicitDefEqProofs [c94]
    refine onC_mk _ J ?_
    simp -implicitDefEqProofs
    refine onH_mk _ _ (W1 _) ⟨?_, ?_, ?_, ?_, ?_, ?_, ?_⟩ ?_
    iterate 7 (· simp -implicitDefEqProofs)
    simp -implicitDefEqProofs
    refine onH_mk _ _ (B _) ⟨?_, ?_, ?_, ?_, ?_, ?_, ?_⟩ ?_
    iterate 7 (· simp -implicitDefEqProofs)
    simp -implicitDefEqProofs
    refine postH_n ⟨?_, ?_, ?_, ?_, ?_, ?_⟩ <;> simp -implicitDefEqProofs [hic, hb]
end Go.Ai
