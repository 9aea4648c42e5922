/- YtbepaingfmlpeaaDoorLayJoinD: part of the abstract interpreter library (values, rules, soundness against the model) or of what a function of the seat computes. Conditions: as each theorem says. -/
import Derived.Test.YtbepaingfmlpeaaDoorKey1
import Derived.Test.YtbepaingfmlpeaaDoorAiShelf
set_option linter.unusedSimpArgs false
set_option linter.unusedVariables false
namespace Go.Ai
open Go.Proofs Go.Shelf
/-- The numbers of what strings.Join reaches, in this program. -/
def renJ : Ren := {
  f := fun x => match x with
    | 156 => 27
    | 165 => 52
    | 166 => 53
    | 169 => 54
    | 240 => 72
    | 241 => 73
    | 276 => 85
    | 277 => 86
    | n => n
  t := fun x => match x with
    | 31 => 52
    | 9 => 9
    | 3 => 3
    | 4 => 4
    | 0 => 0
    | 20 => 20
    | 72 => 88
    | 76 => 92
    | 70 => 86
    | 37 => 28
    | 75 => 91
    | 127 => 110
    | 164 => 124
    | 5 => 5
    | 80 => 94
    | n => n
  g := fun n => n }
theorem layJ : Lays.n156 Tryd.prog renJ where
  mixed := by kernel_rfl
  f156 := Eq.trans Tryd.func27 (congrArg some (show Tryd.f27 = Body.n156 renJ by kernel_rfl))
  f165 := Eq.trans Tryd.func52 (congrArg some (show Tryd.f52 = Body.n165 renJ by kernel_rfl))
  f166 := Eq.trans Tryd.func53 (congrArg some (show Tryd.f53 = Body.n166 renJ by kernel_rfl))
  f169 := Eq.trans Tryd.func54 (congrArg some (show Tryd.f54 = Body.n169 renJ by kernel_rfl))
  f240 := Eq.trans Tryd.func72 (congrArg some (show Tryd.f72 = Body.n240 renJ by kernel_rfl))
  f241 := Eq.trans Tryd.func73 (congrArg some (show Tryd.f73 = Body.n241 renJ by kernel_rfl))
  f276 := Eq.trans Tryd.func85 (congrArg some (show Tryd.f85 = Body.n276 renJ by kernel_rfl))
  f277 := Eq.trans Tryd.func86 (congrArg some (show Tryd.f86 = Body.n277 renJ by kernel_rfl))
  t0 := Tryd.underlying0
  a0 := Tryd.isAgg0
  z0 := Tryd.sizeOf0
  v0 := Tryd.zeroValue0
  t3 := Tryd.underlying3
  a3 := Tryd.isAgg3
  z3 := Tryd.sizeOf3
  v3 := Tryd.zeroValue3
  t4 := Tryd.underlying4
  a4 := Tryd.isAgg4
  z4 := Tryd.sizeOf4
  v4 := Tryd.zeroValue4
  t9 := Tryd.underlying9
  a9 := Tryd.isAgg9
  z9 := Tryd.sizeOf9
  v9 := Tryd.zeroValue9
  t20 := Tryd.underlying20
  a20 := Tryd.isAgg20
  z20 := Tryd.sizeOf20
  v20 := Tryd.zeroValue20
  t31 := Tryd.underlying52
  a31 := Tryd.isAgg52
  z31 := Tryd.sizeOf52
  v31 := Tryd.zeroValue52
  t37 := Tryd.underlying28
  a37 := Tryd.isAgg28
  z37 := Tryd.sizeOf28
  v37 := Tryd.zeroValue28
  t70 := Tryd.underlying86
  a70 := Tryd.isAgg86
  z70 := Tryd.sizeOf86
  v70 := Tryd.zeroValue86
  t72 := Tryd.underlying88
  a72 := Tryd.isAgg88
  z72 := Tryd.sizeOf88
  v72 := Tryd.zeroValue88
  t75 := Tryd.underlying91
  a75 := Tryd.isAgg91
  z75 := Tryd.sizeOf91
  v75 := Tryd.zeroValue91
  t76 := Tryd.underlying92
  a76 := Tryd.isAgg92
  z76 := Tryd.sizeOf92
  v76 := Tryd.zeroValue92
  t127 := Tryd.underlying110
  a127 := Tryd.isAgg110
  z127 := Tryd.sizeOf110
  v127 := Tryd.zeroValue110
  t164 := Tryd.underlying124
  a164 := Tryd.isAgg124
  z164 := Tryd.sizeOf124
  v164 := Tryd.zeroValue124
theorem extraJ : Builder.Extra Tryd.prog renJ where
  sizeBuilder := by kernel_rfl
  liesBuilder := by kernel_rfl
  t5 := Tryd.underlying5
  a5 := Tryd.isAgg5
  z5 := Tryd.sizeOf5
  v5 := Tryd.zeroValue5
  infoByte := by kernel_rfl
  cellsByte := by kernel_rfl
  sizeByte := by kernel_rfl
  neB5 := by decide
theorem join_spec (xs : List (List UInt8)) (sep : List UInt8) (hN : xs.length ≤ 140737488355328) (hlen : (Lib.join xs sep).length ≤ 140737488355328) : Sp Tryd.prog gl 27 [.sl (strRows xs), .str sep] (.str (Lib.join xs sep)) :=
  join_shelf layJ extraJ (by kernel_rfl) (by kernel_rfl) xs sep hN hlen
end Go.Ai
