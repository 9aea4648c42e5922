/- YtmbnoejneocmmaaGreatDoorCode: part of the abstract interpreter library (values, rules, soundness against the model) or of what a function of the seat computes. Conditions: as each theorem says. -/
import Derived.Test.YtmbnoejneocmmaaGreatDoorAiUse
import Derived.Test.YtmbnoejneocmmaaGreatDoorAiExt
import Derived.Test.YtmbnoejneocmmaaGreatDoorAiFunH
import Derived.Test.YtmbnoejneocmmaaGreatDoorProg
namespace Go.Ai
open Go.Proofs
theorem mix : Tryz.prog.follows .mixedOrders = true := by kernel_rfl
def gl : List (Nat × List Value) := [(0, [Value.int .u8 0, Value.int .u8 0, Value.int .u8 0, Value.int .u8 0, Value.int .u8 0, Value.int .u8 0, Value.int .u8 0, Value.int .u8 0, Value.int .u8 0, Value.int .u8 1, Value.int .u8 1, Value.int .u8 1, Value.int .u8 1, Value.int .u8 1, Value.int .u8 0, Value.int .u8 0, Value.int .u8 0, Value.int .u8 0, Value.int .u8 0, Value.int .u8 0, Value.int .u8 0, Value.int .u8 0, Value.int .u8 0, Value.int .u8 0, Value.int .u8 0, Value.int .u8 0, Value.int .u8 0, Value.int .u8 0, Value.int .u8 0, Value.int .u8 0, Value.int .u8 0, Value.int .u8 0, Value.int .u8 1, Value.int .u8 0, Value.int .u8 0, Value.int .u8 0, Value.int .u8 0, Value.int .u8 0, Value.int .u8 0, Value.int .u8 0, Value.int .u8 0, Value.int .u8 0, Value.int .u8 0, Value.int .u8 0, Value.int .u8 0, Value.int .u8 0, Value.int .u8 0, Value.int .u8 0, Value.int .u8 0, Value.int .u8 0, Value.int .u8 0, Value.int .u8 0, Value.int .u8 0, Value.int .u8 0, Value.int .u8 0, Value.int .u8 0, Value.int .u8 0, Value.int .u8 0, Value.int .u8 0, Value.int .u8 0, Value.int .u8 0, Value.int .u8 0, Value.int .u8 0, Value.int .u8 0, Value.int .u8 0, Value.int .u8 0, Value.int .u8 0, Value.int .u8 0, Value.int .u8 0, Value.int .u8 0, Value.int .u8 0, Value.int .u8 0, Value.int .u8 0, Value.int .u8 0, Value.int .u8 0, Value.int .u8 0, Value.int .u8 0, Value.int .u8 0, Value.int .u8 0, Value.int .u8 0, Value.int .u8 0, Value.int .u8 0, Value.int .u8 0, Value.int .u8 0, Value.int .u8 0, Value.int .u8 0, Value.int .u8 0, Value.int .u8 0, Value.int .u8 0, Value.int .u8 0, Value.int .u8 0, Value.int .u8 0, Value.int .u8 0, Value.int .u8 0, Value.int .u8 0, Value.int .u8 0, Value.int .u8 0, Value.int .u8 0, Value.int .u8 0, Value.int .u8 0, Value.int .u8 0, Value.int .u8 0, Value.int .u8 0, Value.int .u8 0, Value.int .u8 0, Value.int .u8 0, Value.int .u8 0, Value.int .u8 0, Value.int .u8 0, Value.int .u8 0, Value.int .u8 0, Value.int .u8 0, Value.int .u8 0, Value.int .u8 0, Value.int .u8 0, Value.int .u8 0, Value.int .u8 0, Value.int .u8 0, Value.int .u8 0, Value.int .u8 0, Value.int .u8 0, Value.int .u8 0, Value.int .u8 0, Value.int .u8 0, Value.int .u8 0, Value.int .u8 0, Value.int .u8 0, Value.int .u8 0, Value.int .u8 0, Value.int .u8 0, Value.int .u8 0, Value.int .u8 0, Value.int .u8 0, Value.int .u8 0, Value.int .u8 0, Value.int .u8 0, Value.int .u8 0, Value.int .u8 0, Value.int .u8 0, Value.int .u8 0, Value.int .u8 0, Value.int .u8 0, Value.int .u8 0, Value.int .u8 0, Value.int .u8 0, Value.int .u8 0, Value.int .u8 0, Value.int .u8 0, Value.int .u8 0, Value.int .u8 0, Value.int .u8 0, Value.int .u8 0, Value.int .u8 0, Value.int .u8 0, Value.int .u8 0, Value.int .u8 0, Value.int .u8 0, Value.int .u8 0, Value.int .u8 0, Value.int .u8 0, Value.int .u8 0, Value.int .u8 0, Value.int .u8 0, Value.int .u8 0, Value.int .u8 0, Value.int .u8 0, Value.int .u8 0, Value.int .u8 0, Value.int .u8 0, Value.int .u8 0, Value.int .u8 0, Value.int .u8 0, Value.int .u8 0, Value.int .u8 0, Value.int .u8 0, Value.int .u8 0, Value.int .u8 0, Value.int .u8 0, Value.int .u8 0, Value.int .u8 0, Value.int .u8 0, Value.int .u8 0, Value.int .u8 0, Value.int .u8 0, Value.int .u8 0, Value.int .u8 0, Value.int .u8 0, Value.int .u8 0, Value.int .u8 0, Value.int .u8 0, Value.int .u8 0, Value.int .u8 0, Value.int .u8 0, Value.int .u8 0, Value.int .u8 0, Value.int .u8 0, Value.int .u8 0, Value.int .u8 0, Value.int .u8 0, Value.int .u8 0, Value.int .u8 0, Value.int .u8 0, Value.int .u8 0, Value.int .u8 0, Value.int .u8 0, Value.int .u8 0, Value.int .u8 0, Value.int .u8 0, Value.int .u8 0, Value.int .u8 0, Value.int .u8 0, Value.int .u8 0, Value.int .u8 0, Value.int .u8 0, Value.int .u8 0, Value.int .u8 0, Value.int .u8 0, Value.int .u8 0, Value.int .u8 0, Value.int .u8 0, Value.int .u8 0, Value.int .u8 0, Value.int .u8 0, Value.int .u8 0, Value.int .u8 0, Value.int .u8 0, Value.int .u8 0, Value.int .u8 0, Value.int .u8 0, Value.int .u8 0, Value.int .u8 0, Value.int .u8 0, Value.int .u8 0, Value.int .u8 0, Value.int .u8 0, Value.int .u8 0, Value.int .u8 0, Value.int .u8 0, Value.int .u8 0, Value.int .u8 0, Value.int .u8 0, Value.int .u8 0, Value.int .u8 0, Value.int .u8 0, Value.int .u8 0, Value.int .u8 0, Value.int .u8 0, Value.int .u8 0, Value.int .u8 0, Value.int .u8 0, Value.int .u8 0, Value.int .u8 0, Value.int .u8 0, Value.int .u8 0, Value.int .u8 0, Value.int .u8 0]), (1, [Value.int .u8 240, Value.int .u8 240, Value.int .u8 240, Value.int .u8 240, Value.int .u8 240, Value.int .u8 240, Value.int .u8 240, Value.int .u8 240, Value.int .u8 240, Value.int .u8 240, Value.int .u8 240, Value.int .u8 240, Value.int .u8 240, Value.int .u8 240, Value.int .u8 240, Value.int .u8 240, Value.int .u8 240, Value.int .u8 240, Value.int .u8 240, Value.int .u8 240, Value.int .u8 240, Value.int .u8 240, Value.int .u8 240, Value.int .u8 240, Value.int .u8 240, Value.int .u8 240, Value.int .u8 240, Value.int .u8 240, Value.int .u8 240, Value.int .u8 240, Value.int .u8 240, Value.int .u8 240, Value.int .u8 240, Value.int .u8 240, Value.int .u8 240, Value.int .u8 240, Value.int .u8 240, Value.int .u8 240, Value.int .u8 240, Value.int .u8 240, Value.int .u8 240, Value.int .u8 240, Value.int .u8 240, Value.int .u8 240, Value.int .u8 240, Value.int .u8 240, Value.int .u8 240, Value.int .u8 240, Value.int .u8 240, Value.int .u8 240, Value.int .u8 240, Value.int .u8 240, Value.int .u8 240, Value.int .u8 240, Value.int .u8 240, Value.int .u8 240, Value.int .u8 240, Value.int .u8 240, Value.int .u8 240, Value.int .u8 240, Value.int .u8 240, Value.int .u8 240, Value.int .u8 240, Value.int .u8 240, Value.int .u8 240, Value.int .u8 240, Value.int .u8 240, Value.int .u8 240, Value.int .u8 240, Value.int .u8 240, Value.int .u8 240, Value.int .u8 240, Value.int .u8 240, Value.int .u8 240, Value.int .u8 240, Value.int .u8 240, Value.int .u8 240, Value.int .u8 240, Value.int .u8 240, Value.int .u8 240, Value.int .u8 240, Value.int .u8 240, Value.int .u8 240, Value.int .u8 240, Value.int .u8 240, Value.int .u8 240, Value.int .u8 240, Value.int .u8 240, Value.int .u8 240, Value.int .u8 240, Value.int .u8 240, Value.int .u8 240, Value.int .u8 240, Value.int .u8 240, Value.int .u8 240, Value.int .u8 240, Value.int .u8 240, Value.int .u8 240, Value.int .u8 240, Value.int .u8 240, Value.int .u8 240, Value.int .u8 240, Value.int .u8 240, Value.int .u8 240, Value.int .u8 240, Value.int .u8 240, Value.int .u8 240, Value.int .u8 240, Value.int .u8 240, Value.int .u8 240, Value.int .u8 240, Value.int .u8 240, Value.int .u8 240, Value.int .u8 240, Value.int .u8 240, Value.int .u8 240, Value.int .u8 240, Value.int .u8 240, Value.int .u8 240, Value.int .u8 240, Value.int .u8 240, Value.int .u8 240, Value.int .u8 240, Value.int .u8 240, Value.int .u8 240, Value.int .u8 240, Value.int .u8 240, Value.int .u8 240, Value.int .u8 241, Value.int .u8 241, Value.int .u8 241, Value.int .u8 241, Value.int .u8 241, Value.int .u8 241, Value.int .u8 241, Value.int .u8 241, Value.int .u8 241, Value.int .u8 241, Value.int .u8 241, Value.int .u8 241, Value.int .u8 241, Value.int .u8 241, Value.int .u8 241, Value.int .u8 241, Value.int .u8 241, Value.int .u8 241, Value.int .u8 241, Value.int .u8 241, Value.int .u8 241, Value.int .u8 241, Value.int .u8 241, Value.int .u8 241, Value.int .u8 241, Value.int .u8 241, Value.int .u8 241, Value.int .u8 241, Value.int .u8 241, Value.int .u8 241, Value.int .u8 241, Value.int .u8 241, Value.int .u8 241, Value.int .u8 241, Value.int .u8 241, Value.int .u8 241, Value.int .u8 241, Value.int .u8 241, Value.int .u8 241, Value.int .u8 241, Value.int .u8 241, Value.int .u8 241, Value.int .u8 241, Value.int .u8 241, Value.int .u8 241, Value.int .u8 241, Value.int .u8 241, Value.int .u8 241, Value.int .u8 241, Value.int .u8 241, Value.int .u8 241, Value.int .u8 241, Value.int .u8 241, Value.int .u8 241, Value.int .u8 241, Value.int .u8 241, Value.int .u8 241, Value.int .u8 241, Value.int .u8 241, Value.int .u8 241, Value.int .u8 241, Value.int .u8 241, Value.int .u8 241, Value.int .u8 241, Value.int .u8 241, Value.int .u8 241, Value.int .u8 2, Value.int .u8 2, Value.int .u8 2, Value.int .u8 2, Value.int .u8 2, Value.int .u8 2, Value.int .u8 2, Value.int .u8 2, Value.int .u8 2, Value.int .u8 2, Value.int .u8 2, Value.int .u8 2, Value.int .u8 2, Value.int .u8 2, Value.int .u8 2, Value.int .u8 2, Value.int .u8 2, Value.int .u8 2, Value.int .u8 2, Value.int .u8 2, Value.int .u8 2, Value.int .u8 2, Value.int .u8 2, Value.int .u8 2, Value.int .u8 2, Value.int .u8 2, Value.int .u8 2, Value.int .u8 2, Value.int .u8 2, Value.int .u8 2, Value.int .u8 19, Value.int .u8 3, Value.int .u8 3, Value.int .u8 3, Value.int .u8 3, Value.int .u8 3, Value.int .u8 3, Value.int .u8 3, Value.int .u8 3, Value.int .u8 3, Value.int .u8 3, Value.int .u8 3, Value.int .u8 3, Value.int .u8 35, Value.int .u8 3, Value.int .u8 3, Value.int .u8 52, Value.int .u8 4, Value.int .u8 4, Value.int .u8 4, Value.int .u8 68, Value.int .u8 241, Value.int .u8 241, Value.int .u8 241, Value.int .u8 241, Value.int .u8 241, Value.int .u8 241, Value.int .u8 241, Value.int .u8 241, Value.int .u8 241, Value.int .u8 241, Value.int .u8 241]), (2, [Value.int .u8 128, Value.int .u8 191, Value.int .u8 160, Value.int .u8 191, Value.int .u8 128, Value.int .u8 159, Value.int .u8 144, Value.int .u8 191, Value.int .u8 128, Value.int .u8 143, Value.int .u8 0, Value.int .u8 0, Value.int .u8 0, Value.int .u8 0, Value.int .u8 0, Value.int .u8 0, Value.int .u8 0, Value.int .u8 0, Value.int .u8 0, Value.int .u8 0, Value.int .u8 0, Value.int .u8 0, Value.int .u8 0, Value.int .u8 0, Value.int .u8 0, Value.int .u8 0, Value.int .u8 0, Value.int .u8 0, Value.int .u8 0, Value.int .u8 0, Value.int .u8 0, Value.int .u8 0])]
theorem dok (N : Nat) : DrawsOk Tryz.prog gl N drD := draws_ok mix
/-- firebell/firebelllaw17.ShowGoals -/
def c3 : AC :=
 (.sq (.rg [.bx 3 (.s 0),
   .bx 4 (.s 1),
   .mv 6 (.c (.bool false))])
  (.sq (.sq (.rg [.cl 7 9 [],
   .un 8 .not (.s 7)])
  (.cd (.s 8) (.sq (.rg [.mv 6 (.c (.bool false))])
  .rt) .sk))
  (.sq (.sq (.rg [.lda 9 8 (.s 3),
   .cl 10 10 [(.s 9)],
   .mv 11 (.s 10),
   .gd 11 false 12 (.fa 12 (.s 4) 0),
   .gd 11 false 13 (.lds 13 (.s 12)),
   .gd 11 false 14 (.lns 14 (.s 13)),
   .gd 11 false 15 (.bi 15 .gtr (.s 14) (.c (.int .i64 2000))),
   .pk 16 (.s 11) (.c (.bool true)) (.s 15)])
  (.cd (.s 16) (.sq (.rg [.mv 6 (.c (.bool true))])
  .rt) .sk))
  (.sq (.rd [[], [], [], [], [], [], [], [], [], [], [], [], [], [], []] [.lda 17 8 (.s 3),
   .cl 18 11 [(.s 17)],
   .lda 19 8 (.s 3),
   .cl 20 12 [(.s 19)],
   .bb 21 false (.s 18) (.s 20),
   .mv 22 (.s 21),
   .gd 22 true 23 (.lda 23 7 (.s 4)),
   .gd 22 true 24 (.mv 24 (.s 2)),
   .gd 22 true 25 (.cl 25 13 [(.s 23), (.s 24)]),
   .gd 22 true 26 (.lda 26 7 (.s 4)),
   .gd 22 true 27 (.mv 27 (.s 2)),
   .gd 22 true 28 (.cl 28 14 [(.s 26), (.s 27)]),
   .gd 22 true 29 (.bb 29 false (.s 25) (.s 28)),
   .pk 30 (.s 22) (.s 29) (.c (.bool false)),
   .mv 6 (.s 30)])
  .rt))))
def a3 : AF := ⟨c3, [.t 6], 3, 31⟩
theorem m3 : mF Tryz.prog gl drD Tryz.f3 a3 = true := by kernel_rfl
theorem s3 {l : List AV} {r : AV} (hl : l.length = 3) (hi : idsL l = []) (h : wpA (SpH Tryz.prog gl) c3 (postA [.t 6] r) ⟨initE 0 l, [], []⟩) : Sp Tryz.prog gl 3 l r :=
  @fun_sp Tryz.prog gl drD 3 Tryz.f3 a3 Tryz.func3 m3 (dok _) l r hl hi h
theorem h3 {d : Nat} {I : In} {O : Out} (hl : I.vs.length = 3) (h : wpA (SpH Tryz.prog gl) c3 (postH d [.t 6] O) (inSt I)) : SpH Tryz.prog gl 3 d I O :=
  @fun_spH Tryz.prog gl drD 3 Tryz.f3 a3 Tryz.func3 m3 (dok _) d I O hl h
/-- firebell/firebelllaw35.AuditPrints -/
def c4 : AC :=
 (.sq (.rg [.bx 1 (.s 0),
   .mv 2 (.c (.bool false))])
  (.sq (.sq (.rg [.cl 5 15 [],
   .un 6 .not (.s 5)])
  (.cd (.s 6) (.sq (.rg [.mv 2 (.c (.bool false))])
  .rt) .sk))
  (.sq (.sq (.rg [.fa 7 (.s 1) 1,
   .lds 8 (.s 7),
   .lns 9 (.s 8),
   .bi 10 .gtr (.s 9) (.c (.int .i64 1000))])
  (.cd (.s 10) (.sq (.rg [.mv 2 (.c (.bool true))])
  .rt) .sk))
  (.sq (.rg [.bs 11 1 [(.c (.str [63])), (.c (.str [99, 108, 111, 99, 107])), (.c (.str [110, 111, 116, 105, 102, 121])), (.c (.str [103, 111, 97, 108])), (.c (.str [119, 105, 110, 100, 111, 119, 115])), (.c (.str [112, 101, 114, 105, 111, 100])), (.c (.str [97, 108, 101, 114, 116, 115])), (.c (.str [101, 112, 105, 115, 111, 100, 101])), (.c (.str [98, 111, 120])), (.c (.str [101, 110, 116, 114, 121])), (.c (.str [97, 99, 107, 101, 100])), (.c (.str [115, 105, 108, 101, 110, 99, 101]))],
   .mv 3 (.s 11)])
  (.sq (.rg [.mv 4 (.c (.str [63]))])
  (.sq (.sq (.rg [.fa 12 (.s 1) 0,
   .lds 13 (.s 12),
   .bi 14 .gtr (.s 13) (.c (.int .i64 0)),
   .mv 15 (.s 14),
   .gd 15 true 16 (.fa 16 (.s 1) 0),
   .gd 15 true 17 (.lds 17 (.s 16)),
   .gd 15 true 18 (.bi 18 .lss (.s 17) (.c (.int .i64 12))),
   .pk 19 (.s 15) (.s 18) (.c (.bool false))])
  (.cd (.s 19) (.rg [.mv 20 (.s 3),
   .fa 21 (.s 1) 0,
   .lds 22 (.s 21),
   .ia 23 1 (.s 20) (.s 22),
   .lds 24 (.s 23),
   .mv 4 (.s 24)]) .sk))
  (.sq (.sq (.rg [.fa 25 (.s 1) 1,
   .lds 26 (.s 25),
   .bi 27 .neq (.s 26) (.c (.str []))])
  (.cd (.s 27) (.rg [.mv 28 (.s 4),
   .bi 29 .add (.s 28) (.c (.str [32])),
   .fa 30 (.s 1) 1,
   .lds 31 (.s 30),
   .bi 32 .add (.s 29) (.s 31),
   .mv 4 (.s 32)]) .sk))
  (.sq (.rg [.lda 33 2 (.s 1),
   .cl 34 16 [(.s 33)],
   .mv 35 (.s 4),
   .bi 36 .eql (.s 34) (.s 35),
   .mv 2 (.s 36)])
  .rt))))))))
def a4 : AF := ⟨c4, [.t 2], 1, 37⟩
theorem m4 : mF Tryz.prog gl drD Tryz.f4 a4 = true := by kernel_rfl
theorem s4 {l : List AV} {r : AV} (hl : l.length = 1) (hi : idsL l = []) (h : wpA (SpH Tryz.prog gl) c4 (postA [.t 2] r) ⟨initE 0 l, [], []⟩) : Sp Tryz.prog gl 4 l r :=
  @fun_sp Tryz.prog gl drD 4 Tryz.f4 a4 Tryz.func4 m4 (dok _) l r hl hi h
theorem h4 {d : Nat} {I : In} {O : Out} (hl : I.vs.length = 1) (h : wpA (SpH Tryz.prog gl) c4 (postH d [.t 2] O) (inSt I)) : SpH Tryz.prog gl 4 d I O :=
  @fun_spH Tryz.prog gl drD 4 Tryz.f4 a4 Tryz.func4 m4 (dok _) d I O hl h
/-- firebell/firebelllaw35.AuditLooks -/
def c5 : AC :=
 (.sq (.rg [.bx 1 (.s 0),
   .mv 2 (.c (.bool false))])
  (.sq (.sq (.rg [.cl 4 15 [],
   .un 5 .not (.s 4)])
  (.cd (.s 5) (.sq (.rg [.mv 2 (.c (.bool false))])
  .rt) .sk))
  (.sq (.sq (.rg [.lda 6 11 (.s 1),
   .cl 7 17 [(.s 6)]])
  (.cd (.s 7) (.sq (.rg [.mv 2 (.c (.bool true))])
  .rt) .sk))
  (.sq (.rg [.lda 8 11 (.s 1),
   .cl 9 18 [(.s 8)],
   .mv 3 (.s 9)])
  (.sq (.rg [.mv 10 (.s 3),
   .lda 11 11 (.s 1),
   .cl 12 20 [(.s 11)],
   .cl 13 19 [(.s 10), (.s 12)],
   .mv 14 (.s 13),
   .gd 14 true 15 (.lda 15 11 (.s 1)),
   .gd 14 true 16 (.cl 16 21 [(.s 15)]),
   .gd 14 true 17 (.mv 17 (.s 3)),
   .gd 14 true 18 (.ln 18 (.s 17)),
   .gd 14 true 19 (.bi 19 .eql (.s 18) (.c (.int .i64 0))),
   .gd 14 true 20 (.bb 20 false (.s 16) (.s 19)),
   .pk 21 (.s 14) (.s 20) (.c (.bool false)),
   .mv 2 (.s 21)])
  .rt)))))
def a5 : AF := ⟨c5, [.t 2], 1, 22⟩
theorem m5 : mF Tryz.prog gl drD Tryz.f5 a5 = true := by kernel_rfl
theorem s5 {l : List AV} {r : AV} (hl : l.length = 1) (hi : idsL l = []) (h : wpA (SpH Tryz.prog gl) c5 (postA [.t 2] r) ⟨initE 0 l, [], []⟩) : Sp Tryz.prog gl 5 l r :=
  @fun_sp Tryz.prog gl drD 5 Tryz.f5 a5 Tryz.func5 m5 (dok _) l r hl hi h
theorem h5 {d : Nat} {I : In} {O : Out} (hl : I.vs.length = 1) (h : wpA (SpH Tryz.prog gl) c5 (postH d [.t 2] O) (inSt I)) : SpH Tryz.prog gl 5 d I O :=
  @fun_spH Tryz.prog gl drD 5 Tryz.f5 a5 Tryz.func5 m5 (dok _) d I O hl h
/-- firebell/firebelllaw33.ReportPrints -/
def c6 : AC :=
 (.sq (.rg [.bx 1 (.s 0),
   .mv 2 (.c (.bool false))])
  (.sq (.sq (.rg [.cl 7 22 [],
   .un 8 .not (.s 7)])
  (.cd (.s 8) (.sq (.rg [.mv 2 (.c (.bool false))])
  .rt) .sk))
  (.sq (.sq (.rg [.lda 9 4 (.s 1),
   .cl 10 23 [(.s 9)]])
  (.cd (.s 10) (.sq (.rg [.mv 2 (.c (.bool true))])
  .rt) .sk))
  (.sq (.rg [.lda 12 4 (.s 1),
   .cl 13 24 [(.s 12)],
   .mv 11 (.s 13),
   .exq 14 (.s 11) 0,
   .exq 15 (.s 11) 1,
   .mv 3 (.s 14),
   .mv 4 (.s 15)])
  (.sq (.sq (.rd [[], [], [], [], []] [.lda 16 4 (.s 1),
   .cl 17 25 [(.s 16)],
   .lda 18 4 (.s 1),
   .cl 19 26 [(.s 18)],
   .bb 20 true (.s 17) (.s 19)])
  (.cd (.s 20) (.sq (.rg [.mv 2 (.c (.bool false))])
  .rt) .sk))
  (.sq (.sq (.rg [.lda 21 4 (.s 1),
   .cl 22 26 [(.s 21)],
   .un 23 .not (.s 22)])
  (.cd (.s 23) (.sq (.rg [.mv 24 (.s 3),
   .bi 25 .eql (.s 24) (.c (.str [])),
   .mv 26 (.s 25),
   .gd 26 true 27 (.mv 27 (.s 4)),
   .gd 26 true 28 (.bi 28 .eql (.s 27) (.c (.int .i64 6))),
   .pk 29 (.s 26) (.s 28) (.c (.bool false)),
   .mv 2 (.s 29)])
  .rt) .sk))
  (.sq (.rg [.mv 31 (.s 3),
   .cl 32 27 [(.s 31)],
   .mv 30 (.s 32),
   .exq 33 (.s 30) 0,
   .exq 34 (.s 30) 1,
   .al 5 [(.int .i64 0), (.int .i64 0), (.int .u64 0), .nils],
   .st 4 (.s 5) (.s 33),
   .mv 6 (.s 34)])
  (.sq (.rg [.mv 35 (.s 3),
   .lda 36 4 (.s 1),
   .cl 37 28 [(.s 36)],
   .bi 38 .eql (.s 35) (.s 37),
   .mv 39 (.s 38),
   .gd 39 true 40 (.mv 40 (.s 4)),
   .gd 39 true 41 (.bi 41 .eql (.s 40) (.c (.int .i64 0))),
   .pk 42 (.s 39) (.s 41) (.c (.bool false)),
   .mv 43 (.s 42),
   .gd 43 true 44 (.mv 44 (.s 6)),
   .gd 43 true 45 (.bi 45 .eql (.s 44) (.c (.int .i64 0))),
   .pk 46 (.s 43) (.s 45) (.c (.bool false)),
   .mv 47 (.s 46),
   .gd 47 true 48 (.lda 48 4 (.s 5)),
   .gd 47 true 49 (.lda 49 4 (.s 1)),
   .gd 47 true 50 (.cl 50 29 [(.s 48), (.s 49)]),
   .pk 51 (.s 47) (.s 50) (.c (.bool false)),
   .mv 2 (.s 51)])
  .rt))))))))
def a6 : AF := ⟨c6, [.t 2], 1, 52⟩
theorem m6 : mF Tryz.prog gl drD Tryz.f6 a6 = true := by kernel_rfl
theorem s6 {l : List AV} {r : AV} (hl : l.length = 1) (hi : idsL l = []) (h : wpA (SpH Tryz.prog gl) c6 (postA [.t 2] r) ⟨initE 0 l, [], []⟩) : Sp Tryz.prog gl 6 l r :=
  @fun_sp Tryz.prog gl drD 6 Tryz.f6 a6 Tryz.func6 m6 (dok _) l r hl hi h
theorem h6 {d : Nat} {I : In} {O : Out} (hl : I.vs.length = 1) (h : wpA (SpH Tryz.prog gl) c6 (postH d [.t 2] O) (inSt I)) : SpH Tryz.prog gl 6 d I O :=
  @fun_spH Tryz.prog gl drD 6 Tryz.f6 a6 Tryz.func6 m6 (dok _) d I O hl h
/-- firebell/firebelllaw33.ReportReads -/
def c7 : AC :=
 (.sq (.rg [.mv 2 (.c (.bool false))])
  (.sq (.sq (.rg [.cl 9 22 [],
   .un 10 .not (.s 9)])
  (.cd (.s 10) (.sq (.rg [.mv 2 (.c (.bool false))])
  .rt) .sk))
  (.sq (.sq (.rg [.mv 11 (.s 0),
   .lns 12 (.s 11),
   .bi 13 .gtr (.s 12) (.c (.int .i64 3000))])
  (.cd (.s 13) (.sq (.rg [.mv 2 (.c (.bool true))])
  .rt) .sk))
  (.sq (.rg [.mv 15 (.s 0),
   .cl 16 27 [(.s 15)],
   .mv 14 (.s 16),
   .exq 17 (.s 14) 0,
   .exq 18 (.s 14) 1,
   .al 3 [(.int .i64 0), (.int .i64 0), (.int .u64 0), .nils],
   .st 4 (.s 3) (.s 17),
   .mv 4 (.s 18)])
  (.sq (.rg [.mv 20 (.s 0),
   .cl 21 30 [(.s 20)],
   .mv 19 (.s 21),
   .exq 22 (.s 19) 0,
   .exq 23 (.s 19) 1,
   .al 5 [(.int .i64 0), (.int .i64 0), (.int .u64 0), .nils],
   .st 4 (.s 5) (.s 22),
   .mv 6 (.s 23)])
  (.sq (.sq (.rg [.mv 24 (.s 6),
   .un 25 .not (.s 24)])
  (.cd (.s 25) (.sq (.rg [.mv 26 (.s 4),
   .bi 27 .eql (.s 26) (.c (.int .i64 5)),
   .mv 28 (.s 27),
   .gd 28 true 29 (.lda 29 4 (.s 3)),
   .gd 28 true 30 (.bd 30 [(.int .i64 0), (.int .i64 0), (.int .u64 0), .nils] []),
   .gd 28 true 31 (.cl 31 29 [(.s 29), (.s 30)]),
   .pk 32 (.s 28) (.s 31) (.c (.bool false)),
   .mv 2 (.s 32)])
  .rt) .sk))
  (.sq (.rg [.lda 34 4 (.s 3),
   .cl 35 24 [(.s 34)],
   .mv 33 (.s 35),
   .exq 36 (.s 33) 0,
   .exq 37 (.s 33) 1,
   .mv 7 (.s 36),
   .mv 8 (.s 37)])
  (.sq (.rg [.mv 38 (.s 4),
   .bi 39 .eql (.s 38) (.c (.int .i64 0)),
   .mv 40 (.s 39),
   .gd 40 true 41 (.lda 41 4 (.s 3)),
   .gd 40 true 42 (.lda 42 4 (.s 5)),
   .gd 40 true 43 (.cl 43 29 [(.s 41), (.s 42)]),
   .pk 44 (.s 40) (.s 43) (.c (.bool false)),
   .mv 45 (.s 44),
   .gd 45 true 46 (.mv 46 (.s 7)),
   .gd 45 true 47 (.mv 47 (.s 0)),
   .gd 45 true 48 (.bi 48 .eql (.s 46) (.s 47)),
   .pk 49 (.s 45) (.s 48) (.c (.bool false)),
   .mv 50 (.s 49),
   .gd 50 true 51 (.mv 51 (.s 8)),
   .gd 50 true 52 (.bi 52 .eql (.s 51) (.c (.int .i64 0))),
   .pk 53 (.s 50) (.s 52) (.c (.bool false)),
   .mv 2 (.s 53)])
  .rt))))))))
def a7 : AF := ⟨c7, [.t 2], 1, 54⟩
theorem m7 : mF Tryz.prog gl drD Tryz.f7 a7 = true := by kernel_rfl
theorem s7 {l : List AV} {r : AV} (hl : l.length = 1) (hi : idsL l = []) (h : wpA (SpH Tryz.prog gl) c7 (postA [.t 2] r) ⟨initE 0 l, [], []⟩) : Sp Tryz.prog gl 7 l r :=
  @fun_sp Tryz.prog gl drD 7 Tryz.f7 a7 Tryz.func7 m7 (dok _) l r hl hi h
theorem h7 {d : Nat} {I : In} {O : Out} (hl : I.vs.length = 1) (h : wpA (SpH Tryz.prog gl) c7 (postH d [.t 2] O) (inSt I)) : SpH Tryz.prog gl 7 d I O :=
  @fun_spH Tryz.prog gl drD 7 Tryz.f7 a7 Tryz.func7 m7 (dok _) d I O hl h
/-- firebell/firebelllaw18.ChangePrints -/
def c8 : AC :=
 (.sq (.rg [.mv 4 (.c (.bool false))])
  (.sq (.sq (.rg [.cl 19 31 [],
   .un 20 .not (.s 19)])
  (.cd (.s 20) (.sq (.rg [.mv 4 (.c (.bool false))])
  .rt) .sk))
  (.sq (.sq (.rg [.mv 21 (.s 0),
   .cl 22 32 [(.s 21)],
   .mv 23 (.s 22),
   .gd 23 false 24 (.mv 24 (.s 1)),
   .gd 23 false 25 (.lns 25 (.s 24)),
   .gd 23 false 26 (.bi 26 .gtr (.s 25) (.c (.int .i64 3000))),
   .pk 27 (.s 23) (.c (.bool true)) (.s 26)])
  (.cd (.s 27) (.sq (.rg [.mv 4 (.c (.bool true))])
  .rt) .sk))
  (.sq (.rg [.mv 5 (.c (.bool true))])
  (.sq (.rg [.mv 6 (.c (.str []))])
  (.sq (.rg [.bd 28 [(.int .i64 0), (.int .i64 0), (.int .i64 0), (.int .i64 0)] [],
   .al 7 [(.int .i64 0), (.int .i64 0), (.int .i64 0), (.int .i64 0)],
   .st 4 (.s 7) (.s 28)])
  (.sq (.sq (.rg [.mv 8 (.c (.int .i64 0))])
  (.bl 0 (.lp (.sq (.sq (.rg [.mv 29 (.s 8),
   .mv 30 (.s 0),
   .ln 31 (.s 30),
   .bi 32 .lss (.s 29) (.s 31)])
  (.cd (.s 32) .sk (.ex 0)))
  (.sq (.bl 1 (.sq (.sq (.rg [.mv 35 (.s 0),
   .mv 36 (.s 8),
   .ia 37 3 (.s 35) (.s 36),
   .fa 38 (.s 37) 2,
   .lds 39 (.s 38),
   .bi 40 .geq (.s 39) (.c (.int .i64 1)),
   .mv 41 (.s 40),
   .gd 41 true 42 (.mv 42 (.s 0)),
   .gd 41 true 43 (.mv 43 (.s 8)),
   .gd 41 true 44 (.ia 44 3 (.s 42) (.s 43)),
   .gd 41 true 45 (.fa 45 (.s 44) 2),
   .gd 41 true 46 (.lds 46 (.s 45)),
   .gd 41 true 47 (.bi 47 .leq (.s 46) (.c (.int .i64 4))),
   .pk 48 (.s 41) (.s 47) (.c (.bool false))])
  (.cd (.s 48) (.rg [.mv 49 (.s 0),
   .mv 50 (.s 8),
   .ia 51 3 (.s 49) (.s 50),
   .fa 52 (.s 51) 2,
   .lds 53 (.s 52),
   .bi 54 .sub (.s 53) (.c (.int .i64 1)),
   .iaa 55 1 4 (.s 7) (.s 54),
   .lds 56 (.s 55),
   .bi 57 .add (.s 56) (.c (.int .i64 1)),
   .iaa 58 1 4 (.s 7) (.s 54),
   .st 1 (.s 58) (.s 57)]) .sk))
  (.sq (.rg [.mv 59 (.s 0),
   .mv 60 (.s 8),
   .ia 61 3 (.s 59) (.s 60),
   .lda 62 3 (.s 61),
   .cl 63 33 [(.s 62)]])
  (.cd (.s 63) (.rg [.mv 64 (.s 6),
   .mv 65 (.s 0),
   .mv 66 (.s 8),
   .ia 67 3 (.s 65) (.s 66),
   .lda 68 3 (.s 67),
   .cl 69 34 [(.s 68)],
   .bi 70 .add (.s 64) (.s 69),
   .mv 6 (.s 70)]) (.rg [.mv 5 (.c (.bool false))])))))
  (.rg [.mv 33 (.s 8),
   .bi 34 .add (.s 33) (.c (.int .i64 1)),
   .mv 8 (.s 34)]))))))
  (.sq (.rg [.mv 72 (.s 0),
   .cl 73 35 [(.s 72)],
   .mv 71 (.s 73),
   .exq 74 (.s 71) 0,
   .exq 75 (.s 71) 1,
   .mv 9 (.s 74),
   .mv 10 (.s 75)])
  (.sq (.sq (.rd [[], [], [], [], [], [], [], [], [], [], [], [], [], [], [], []] [.mv 76 (.s 0),
   .cl 77 36 [(.s 76)],
   .lda 78 4 (.s 7),
   .ea 79 true [.i, .i, .i, .i] (.s 77) (.s 78),
   .mv 80 (.s 79),
   .gd 80 false 81 (.mv 81 (.s 5)),
   .gd 80 false 82 (.un 82 .not (.s 81)),
   .gd 80 false 83 (.mv 83 (.s 82)),
   .gd 83 true 84 (.mv 84 (.s 9)),
   .gd 83 true 85 (.bi 85 .neq (.s 84) (.c (.str []))),
   .gd 83 true 86 (.mv 86 (.s 85)),
   .gd 86 false 87 (.mv 87 (.s 10)),
   .gd 86 false 88 (.bi 88 .neq (.s 87) (.c (.int .i64 6))),
   .gd 83 true 89 (.pk 89 (.s 86) (.c (.bool true)) (.s 88)),
   .gd 80 false 90 (.pk 90 (.s 83) (.s 89) (.c (.bool false))),
   .pk 91 (.s 80) (.c (.bool true)) (.s 90)])
  (.cd (.s 91) (.sq (.rg [.mv 4 (.c (.bool false))])
  .rt) .sk))
  (.sq (.sq (.rg [.mv 92 (.s 5)])
  (.cd (.s 92) (.sq (.rg [.mv 94 (.s 9),
   .cl 95 37 [(.s 94)],
   .mv 93 (.s 95),
   .exq 96 (.s 93) 0,
   .exq 97 (.s 93) 1,
   .mv 11 (.s 96),
   .mv 12 (.s 97)])
  (.sq (.rg [.mv 98 (.s 9),
   .mv 99 (.s 6),
   .bi 100 .neq (.s 98) (.s 99),
   .mv 101 (.s 100),
   .gd 101 false 102 (.mv 102 (.s 10)),
   .gd 101 false 103 (.bi 103 .neq (.s 102) (.c (.int .i64 0))),
   .pk 104 (.s 101) (.c (.bool true)) (.s 103),
   .mv 105 (.s 104),
   .gd 105 false 106 (.mv 106 (.s 12)),
   .gd 105 false 107 (.bi 107 .neq (.s 106) (.c (.int .i64 0))),
   .pk 108 (.s 105) (.c (.bool true)) (.s 107),
   .mv 109 (.s 108),
   .gd 109 false 110 (.mv 110 (.s 0)),
   .gd 109 false 111 (.mv 111 (.s 11)),
   .gd 109 false 112 (.cl 112 38 [(.s 110), (.s 111)]),
   .gd 109 false 113 (.un 113 .not (.s 112)),
   .pk 114 (.s 109) (.c (.bool true)) (.s 113)])
  (.cd (.s 114) (.sq (.rg [.mv 4 (.c (.bool false))])
  .rt) .sk))) .sk))
  (.sq (.rg [.mv 116 (.s 1),
   .cl 117 37 [(.s 116)],
   .mv 115 (.s 117),
   .exq 118 (.s 115) 0,
   .exq 119 (.s 115) 1,
   .mv 13 (.s 118),
   .mv 14 (.s 119)])
  (.sq (.rg [.mv 121 (.s 1),
   .cl 122 39 [(.s 121)],
   .mv 120 (.s 122),
   .exq 123 (.s 120) 0,
   .exq 124 (.s 120) 1,
   .mv 15 (.s 123),
   .mv 16 (.s 124)])
  (.sq (.sq (.rg [.mv 125 (.s 16),
   .un 126 .not (.s 125)])
  (.cd (.s 126) (.sq (.rg [.mv 127 (.s 13),
   .ln 128 (.s 127),
   .bi 129 .eql (.s 128) (.c (.int .i64 0)),
   .mv 130 (.s 129),
   .gd 130 true 131 (.mv 131 (.s 14)),
   .gd 130 true 132 (.bi 132 .eql (.s 131) (.c (.int .i64 5))),
   .pk 133 (.s 130) (.s 132) (.c (.bool false)),
   .mv 4 (.s 133)])
  .rt) .sk))
  (.sq (.rg [.mv 135 (.s 13),
   .cl 136 35 [(.s 135)],
   .mv 134 (.s 136),
   .exq 137 (.s 134) 0,
   .exq 138 (.s 134) 1,
   .mv 17 (.s 137),
   .mv 18 (.s 138)])
  (.sq (.rg [.mv 139 (.s 14),
   .bi 140 .eql (.s 139) (.c (.int .i64 0)),
   .mv 141 (.s 140),
   .gd 141 true 142 (.mv 142 (.s 13)),
   .gd 141 true 143 (.mv 143 (.s 15)),
   .gd 141 true 144 (.cl 144 38 [(.s 142), (.s 143)]),
   .pk 145 (.s 141) (.s 144) (.c (.bool false)),
   .mv 146 (.s 145),
   .gd 146 true 147 (.mv 147 (.s 17)),
   .gd 146 true 148 (.mv 148 (.s 1)),
   .gd 146 true 149 (.bi 149 .eql (.s 147) (.s 148)),
   .pk 150 (.s 146) (.s 149) (.c (.bool false)),
   .mv 151 (.s 150),
   .gd 151 true 152 (.mv 152 (.s 18)),
   .gd 151 true 153 (.bi 153 .eql (.s 152) (.c (.int .i64 0))),
   .pk 154 (.s 151) (.s 153) (.c (.bool false)),
   .mv 4 (.s 154)])
  .rt)))))))))))))))
def a8 : AF := ⟨c8, [.t 4], 2, 155⟩
theorem m8 : mF Tryz.prog gl drD Tryz.f8 a8 = true := by kernel_rfl
theorem s8 {l : List AV} {r : AV} (hl : l.length = 2) (hi : idsL l = []) (h : wpA (SpH Tryz.prog gl) c8 (postA [.t 4] r) ⟨initE 0 l, [], []⟩) : Sp Tryz.prog gl 8 l r :=
  @fun_sp Tryz.prog gl drD 8 Tryz.f8 a8 Tryz.func8 m8 (dok _) l r hl hi h
theorem h8 {d : Nat} {I : In} {O : Out} (hl : I.vs.length = 2) (h : wpA (SpH Tryz.prog gl) c8 (postH d [.t 4] O) (inSt I)) : SpH Tryz.prog gl 8 d I O :=
  @fun_spH Tryz.prog gl drD 8 Tryz.f8 a8 Tryz.func8 m8 (dok _) d I O hl h
/-- firebell/firebelllaw17.awake -/
def c9 : AC :=
 (.sq (.rg [.mv 0 (.c (.bool false))])
  (.sq (.rg [.bd 4 [(.int .i64 0), (.int .i64 0), (.int .i64 0), (.int .i64 0), (.int .i64 0)] [(0, 1, (.c (.int .i64 16))), (2, 1, (.c (.int .i64 10))), (3, 1, (.c (.int .i64 300)))],
   .bd 5 [.nils, (.int .i64 0), (.int .i64 0), (.int .i64 0), (.int .i64 0), (.int .i64 0)] [(1, 5, (.s 4))],
   .cl 6 40 [(.s 5)],
   .mv 3 (.s 6),
   .exq 7 (.s 3) 0,
   .exq 8 (.s 3) 1,
   .mv 1 (.s 7),
   .mv 2 (.s 8)])
  (.sq (.rg [.mv 9 (.s 1),
   .bi 10 .eql (.s 9) (.c (.str [110, 111, 116, 105, 102, 121, 32, 123, 10, 32, 32, 114, 111, 111, 109, 32, 49, 54, 59, 10, 32, 32, 114, 101, 115, 101, 114, 118, 101, 32, 48, 59, 10, 32, 32, 102, 105, 114, 115, 116, 32, 49, 48, 115, 59, 10, 32, 32, 99, 97, 112, 32, 53, 109, 59, 10, 32, 32, 114, 101, 112, 101, 97, 116, 32, 48, 115, 59, 10, 125, 10])),
   .mv 11 (.s 10),
   .gd 11 true 12 (.mv 12 (.s 2)),
   .gd 11 true 13 (.bi 13 .eql (.s 12) (.c (.int .i64 0))),
   .pk 14 (.s 11) (.s 13) (.c (.bool false)),
   .mv 0 (.s 14)])
  .rt)))
def a9 : AF := ⟨c9, [.t 0], 0, 15⟩
theorem m9 : mF Tryz.prog gl drD Tryz.f9 a9 = true := by kernel_rfl
theorem s9 {l : List AV} {r : AV} (hl : l.length = 0) (hi : idsL l = []) (h : wpA (SpH Tryz.prog gl) c9 (postA [.t 0] r) ⟨initE 0 l, [], []⟩) : Sp Tryz.prog gl 9 l r :=
  @fun_sp Tryz.prog gl drD 9 Tryz.f9 a9 Tryz.func9 m9 (dok _) l r hl hi h
theorem h9 {d : Nat} {I : In} {O : Out} (hl : I.vs.length = 0) (h : wpA (SpH Tryz.prog gl) c9 (postH d [.t 0] O) (inSt I)) : SpH Tryz.prog gl 9 d I O :=
  @fun_spH Tryz.prog gl drD 9 Tryz.f9 a9 Tryz.func9 m9 (dok _) d I O hl h
/-- firebell/firebellref17.HeavyGoal -/
def c10 : AC :=
 (.sq (.rg [.bx 1 (.s 0),
   .mv 2 (.c (.bool false))])
  (.sq (.sq (.rg [.fa 5 (.s 1) 0,
   .lds 6 (.s 5),
   .lns 7 (.s 6),
   .bi 8 .gtr (.s 7) (.c (.int .i64 2000)),
   .mv 9 (.s 8),
   .gd 9 false 10 (.fa 10 (.s 1) 6),
   .gd 9 false 11 (.lds 11 (.s 10)),
   .gd 9 false 12 (.ln 12 (.s 11)),
   .gd 9 false 13 (.bi 13 .gtr (.s 12) (.c (.int .i64 10))),
   .pk 14 (.s 9) (.c (.bool true)) (.s 13),
   .mv 15 (.s 14),
   .gd 15 false 16 (.fa 16 (.s 1) 7),
   .gd 15 false 17 (.lds 17 (.s 16)),
   .gd 15 false 18 (.ln 18 (.s 17)),
   .gd 15 false 19 (.bi 19 .gtr (.s 18) (.c (.int .i64 10))),
   .pk 20 (.s 15) (.c (.bool true)) (.s 19)])
  (.cd (.s 20) (.sq (.rg [.mv 2 (.c (.bool true))])
  .rt) .sk))
  (.sq (.sq (.rg [.mv 3 (.c (.int .i64 0))])
  (.bl 0 (.lp (.sq (.sq (.rg [.mv 21 (.s 3),
   .fa 22 (.s 1) 6,
   .lds 23 (.s 22),
   .ln 24 (.s 23),
   .bi 25 .lss (.s 21) (.s 24)])
  (.cd (.s 25) .sk (.ex 0)))
  (.sq (.bl 1 (.sq (.rg [.fa 28 (.s 1) 6,
   .lds 29 (.s 28),
   .mv 30 (.s 3),
   .ia 31 2 (.s 29) (.s 30),
   .fa 32 (.s 31) 0,
   .lds 33 (.s 32),
   .lns 34 (.s 33),
   .bi 35 .gtr (.s 34) (.c (.int .i64 2000)),
   .mv 36 (.s 35),
   .gd 36 false 37 (.fa 37 (.s 1) 6),
   .gd 36 false 38 (.lds 38 (.s 37)),
   .gd 36 false 39 (.mv 39 (.s 3)),
   .gd 36 false 40 (.ia 40 2 (.s 38) (.s 39)),
   .gd 36 false 41 (.fa 41 (.s 40) 1),
   .gd 36 false 42 (.lds 42 (.s 41)),
   .gd 36 false 43 (.lns 43 (.s 42)),
   .gd 36 false 44 (.bi 44 .gtr (.s 43) (.c (.int .i64 2000))),
   .pk 45 (.s 36) (.c (.bool true)) (.s 44)])
  (.cd (.s 45) (.sq (.rg [.mv 2 (.c (.bool true))])
  .rt) .sk)))
  (.rg [.mv 26 (.s 3),
   .bi 27 .add (.s 26) (.c (.int .i64 1)),
   .mv 3 (.s 27)]))))))
  (.sq (.sq (.rg [.mv 4 (.c (.int .i64 0))])
  (.bl 2 (.lp (.sq (.sq (.rg [.mv 46 (.s 4),
   .fa 47 (.s 1) 7,
   .lds 48 (.s 47),
   .ln 49 (.s 48),
   .bi 50 .lss (.s 46) (.s 49)])
  (.cd (.s 50) .sk (.ex 2)))
  (.sq (.bl 3 (.sq (.rg [.fa 53 (.s 1) 7,
   .lds 54 (.s 53),
   .mv 55 (.s 4),
   .ia 56 7 (.s 54) (.s 55),
   .fa 57 (.s 56) 0,
   .lds 58 (.s 57),
   .lns 59 (.s 58),
   .bi 60 .gtr (.s 59) (.c (.int .i64 2000))])
  (.cd (.s 60) (.sq (.rg [.mv 2 (.c (.bool true))])
  .rt) .sk)))
  (.rg [.mv 51 (.s 4),
   .bi 52 .add (.s 51) (.c (.int .i64 1)),
   .mv 4 (.s 52)]))))))
  (.sq (.rg [.mv 2 (.c (.bool false))])
  .rt)))))
def a10 : AF := ⟨c10, [.t 2], 1, 61⟩
theorem m10 : mF Tryz.prog gl drD Tryz.f10 a10 = true := by kernel_rfl
theorem s10 {l : List AV} {r : AV} (hl : l.length = 1) (hi : idsL l = []) (h : wpA (SpH Tryz.prog gl) c10 (postA [.t 2] r) ⟨initE 0 l, [], []⟩) : Sp Tryz.prog gl 10 l r :=
  @fun_sp Tryz.prog gl drD 10 Tryz.f10 a10 Tryz.func10 m10 (dok _) l r hl hi h
theorem h10 {d : Nat} {I : In} {O : Out} (hl : I.vs.length = 1) (h : wpA (SpH Tryz.prog gl) c10 (postH d [.t 2] O) (inSt I)) : SpH Tryz.prog gl 10 d I O :=
  @fun_spH Tryz.prog gl drD 10 Tryz.f10 a10 Tryz.func10 m10 (dok _) d I O hl h
/-- firebell/show.RightGoal -/
def c11 : AC :=
 (.sq (.rg [.bx 1 (.s 0),
   .mv 2 (.c (.bool false))])
  (.sq (.sq (.rg [.fa 3 (.s 1) 0,
   .lds 4 (.s 3),
   .cl 5 41 [(.s 4)],
   .un 6 .not (.s 5),
   .mv 7 (.s 6),
   .gd 7 false 8 (.fa 8 (.s 1) 1),
   .gd 7 false 9 (.lds 9 (.s 8)),
   .gd 7 false 10 (.cl 10 42 [(.s 9), (.c (.int .u32 1)), (.c (.int .u32 999999))]),
   .gd 7 false 11 (.un 11 .not (.s 10)),
   .pk 12 (.s 7) (.c (.bool true)) (.s 11),
   .mv 13 (.s 12),
   .gd 13 false 14 (.fa 14 (.s 1) 2),
   .gd 13 false 15 (.lds 15 (.s 14)),
   .gd 13 false 16 (.cl 16 43 [(.s 15), (.c (.int .i64 1)), (.c (.int .i64 86400))]),
   .gd 13 false 17 (.un 17 .not (.s 16)),
   .pk 18 (.s 13) (.c (.bool true)) (.s 17),
   .mv 19 (.s 18),
   .gd 19 false 20 (.fa 20 (.s 1) 3),
   .gd 19 false 21 (.lds 21 (.s 20)),
   .gd 19 false 22 (.cl 22 43 [(.s 21), (.c (.int .i64 0)), (.c (.int .i64 86400))]),
   .gd 19 false 23 (.un 23 .not (.s 22)),
   .pk 24 (.s 19) (.c (.bool true)) (.s 23)])
  (.cd (.s 24) (.sq (.rg [.mv 2 (.c (.bool false))])
  .rt) .sk))
  (.sq (.sq (.rg [.fa 25 (.s 1) 4,
   .lds 26 (.s 25),
   .cl 27 43 [(.s 26), (.c (.int .i64 0)), (.c (.int .i64 34560000))],
   .un 28 .not (.s 27),
   .mv 29 (.s 28),
   .gd 29 false 30 (.fa 30 (.s 1) 4),
   .gd 29 false 31 (.lds 31 (.s 30)),
   .gd 29 false 32 (.fa 32 (.s 1) 2),
   .gd 29 false 33 (.lds 33 (.s 32)),
   .gd 29 false 34 (.bi 34 .rem (.s 31) (.s 33)),
   .gd 29 false 35 (.bi 35 .neq (.s 34) (.c (.int .i64 0))),
   .pk 36 (.s 29) (.c (.bool true)) (.s 35),
   .mv 37 (.s 36),
   .gd 37 false 38 (.fa 38 (.s 1) 5),
   .gd 37 false 39 (.lds 39 (.s 38)),
   .gd 37 false 40 (.cl 40 44 [(.s 39), (.c (.int .i64 0)), (.c (.int .i64 2))]),
   .gd 37 false 41 (.un 41 .not (.s 40)),
   .pk 42 (.s 37) (.c (.bool true)) (.s 41)])
  (.cd (.s 42) (.sq (.rg [.mv 2 (.c (.bool false))])
  .rt) .sk))
  (.sq (.rg [.fa 43 (.s 1) 6,
   .lds 44 (.s 43),
   .cl 45 45 [(.s 44)],
   .mv 46 (.s 45),
   .gd 46 true 47 (.fa 47 (.s 1) 7),
   .gd 46 true 48 (.lds 48 (.s 47)),
   .gd 46 true 49 (.fa 49 (.s 1) 2),
   .gd 46 true 50 (.lds 50 (.s 49)),
   .gd 46 true 51 (.cl 51 46 [(.s 48), (.s 50)]),
   .pk 52 (.s 46) (.s 51) (.c (.bool false)),
   .mv 2 (.s 52)])
  .rt))))
def a11 : AF := ⟨c11, [.t 2], 1, 53⟩
theorem m11 : mF Tryz.prog gl drD Tryz.f11 a11 = true := by kernel_rfl
theorem s11 {l : List AV} {r : AV} (hl : l.length = 1) (hi : idsL l = []) (h : wpA (SpH Tryz.prog gl) c11 (postA [.t 2] r) ⟨initE 0 l, [], []⟩) : Sp Tryz.prog gl 11 l r :=
  @fun_sp Tryz.prog gl drD 11 Tryz.f11 a11 Tryz.func11 m11 (dok _) l r hl hi h
theorem h11 {d : Nat} {I : In} {O : Out} (hl : I.vs.length = 1) (h : wpA (SpH Tryz.prog gl) c11 (postH d [.t 2] O) (inSt I)) : SpH Tryz.prog gl 11 d I O :=
  @fun_spH Tryz.prog gl drD 11 Tryz.f11 a11 Tryz.func11 m11 (dok _) d I O hl h
/-- firebell/firebellref17.RightGoal -/
def c12 : AC :=
 (.sq (.rg [.bx 1 (.s 0),
   .mv 2 (.c (.bool false))])
  (.sq (.sq (.rg [.fa 8 (.s 1) 0,
   .lds 9 (.s 8),
   .cl 10 47 [(.s 9)],
   .un 11 .not (.s 10),
   .mv 12 (.s 11),
   .gd 12 false 13 (.fa 13 (.s 1) 1),
   .gd 12 false 14 (.lds 14 (.s 13)),
   .gd 12 false 15 (.bi 15 .lss (.s 14) (.c (.int .u32 1))),
   .pk 16 (.s 12) (.c (.bool true)) (.s 15),
   .mv 17 (.s 16),
   .gd 17 false 18 (.fa 18 (.s 1) 1),
   .gd 17 false 19 (.lds 19 (.s 18)),
   .gd 17 false 20 (.bi 20 .gtr (.s 19) (.c (.int .u32 999999))),
   .pk 21 (.s 17) (.c (.bool true)) (.s 20),
   .mv 22 (.s 21),
   .gd 22 false 23 (.fa 23 (.s 1) 2),
   .gd 22 false 24 (.lds 24 (.s 23)),
   .gd 22 false 25 (.cl 25 48 [(.s 24), (.c (.int .i64 1)), (.c (.int .i64 86400))]),
   .gd 22 false 26 (.un 26 .not (.s 25)),
   .pk 27 (.s 22) (.c (.bool true)) (.s 26),
   .mv 28 (.s 27),
   .gd 28 false 29 (.fa 29 (.s 1) 3),
   .gd 28 false 30 (.lds 30 (.s 29)),
   .gd 28 false 31 (.cl 31 48 [(.s 30), (.c (.int .i64 0)), (.c (.int .i64 86400))]),
   .gd 28 false 32 (.un 32 .not (.s 31)),
   .pk 33 (.s 28) (.c (.bool true)) (.s 32),
   .mv 34 (.s 33),
   .gd 34 false 35 (.fa 35 (.s 1) 4),
   .gd 34 false 36 (.lds 36 (.s 35)),
   .gd 34 false 37 (.cl 37 48 [(.s 36), (.c (.int .i64 0)), (.c (.int .i64 34560000))]),
   .gd 34 false 38 (.un 38 .not (.s 37)),
   .pk 39 (.s 34) (.c (.bool true)) (.s 38),
   .mv 40 (.s 39),
   .gd 40 false 41 (.fa 41 (.s 1) 4),
   .gd 40 false 42 (.lds 42 (.s 41)),
   .gd 40 false 43 (.fa 43 (.s 1) 2),
   .gd 40 false 44 (.lds 44 (.s 43)),
   .gd 40 false 45 (.bi 45 .rem (.s 42) (.s 44)),
   .gd 40 false 46 (.bi 46 .neq (.s 45) (.c (.int .i64 0))),
   .pk 47 (.s 40) (.c (.bool true)) (.s 46),
   .mv 48 (.s 47),
   .gd 48 false 49 (.fa 49 (.s 1) 5),
   .gd 48 false 50 (.lds 50 (.s 49)),
   .gd 48 false 51 (.bi 51 .lss (.s 50) (.c (.int .i64 0))),
   .pk 52 (.s 48) (.c (.bool true)) (.s 51),
   .mv 53 (.s 52),
   .gd 53 false 54 (.fa 54 (.s 1) 5),
   .gd 53 false 55 (.lds 55 (.s 54)),
   .gd 53 false 56 (.bi 56 .gtr (.s 55) (.c (.int .i64 2))),
   .pk 57 (.s 53) (.c (.bool true)) (.s 56),
   .mv 58 (.s 57),
   .gd 58 false 59 (.fa 59 (.s 1) 6),
   .gd 58 false 60 (.lds 60 (.s 59)),
   .gd 58 false 61 (.ln 61 (.s 60)),
   .gd 58 false 62 (.bi 62 .gtr (.s 61) (.c (.int .i64 4))),
   .pk 63 (.s 58) (.c (.bool true)) (.s 62),
   .mv 64 (.s 63),
   .gd 64 false 65 (.fa 65 (.s 1) 7),
   .gd 64 false 66 (.lds 66 (.s 65)),
   .gd 64 false 67 (.ln 67 (.s 66)),
   .gd 64 false 68 (.bi 68 .lss (.s 67) (.c (.int .i64 1))),
   .pk 69 (.s 64) (.c (.bool true)) (.s 68),
   .mv 70 (.s 69),
   .gd 70 false 71 (.fa 71 (.s 1) 7),
   .gd 70 false 72 (.lds 72 (.s 71)),
   .gd 70 false 73 (.ln 73 (.s 72)),
   .gd 70 false 74 (.bi 74 .gtr (.s 73) (.c (.int .i64 4))),
   .pk 75 (.s 70) (.c (.bool true)) (.s 74)])
  (.cd (.s 75) (.sq (.rg [.mv 2 (.c (.bool false))])
  .rt) .sk))
  (.sq (.sq (.rg [.mv 3 (.c (.int .i64 0))])
  (.bl 0 (.lp (.sq (.sq (.rg [.mv 76 (.s 3),
   .fa 77 (.s 1) 6,
   .lds 78 (.s 77),
   .ln 79 (.s 78),
   .bi 80 .lss (.s 76) (.s 79)])
  (.cd (.s 80) .sk (.ex 0)))
  (.sq (.bl 1 (.sq (.rg [.fa 83 (.s 1) 6,
   .lds 84 (.s 83),
   .mv 85 (.s 3),
   .ia 86 2 (.s 84) (.s 85),
   .lda 87 2 (.s 86),
   .al 4 [(.str []), (.str [])],
   .st 2 (.s 4) (.s 87)])
  (.sq (.sq (.rg [.fa 88 (.s 4) 0,
   .lds 89 (.s 88),
   .cl 90 47 [(.s 89)],
   .un 91 .not (.s 90),
   .mv 92 (.s 91),
   .gd 92 false 93 (.fa 93 (.s 4) 1),
   .gd 92 false 94 (.lds 94 (.s 93)),
   .gd 92 false 95 (.cl 95 49 [(.s 94)]),
   .gd 92 false 96 (.un 96 .not (.s 95)),
   .pk 97 (.s 92) (.c (.bool true)) (.s 96),
   .mv 98 (.s 97),
   .gd 98 false 99 (.fa 99 (.s 4) 1),
   .gd 98 false 100 (.lds 100 (.s 99)),
   .gd 98 false 101 (.cl 101 50 [(.s 100)]),
   .gd 98 false 102 (.ln 102 (.s 101)),
   .gd 98 false 103 (.bi 103 .gtr (.s 102) (.c (.int .i64 120))),
   .pk 104 (.s 98) (.c (.bool true)) (.s 103)])
  (.cd (.s 104) (.sq (.rg [.mv 2 (.c (.bool false))])
  .rt) .sk))
  (.sq (.rg [.mv 5 (.c (.int .i64 0))])
  (.bl 2 (.lp (.sq (.sq (.rg [.mv 105 (.s 5),
   .mv 106 (.s 3),
   .bi 107 .lss (.s 105) (.s 106)])
  (.cd (.s 107) .sk (.ex 2)))
  (.sq (.bl 3 (.sq (.rd [[], [], [], [], [], [], [], [], []] [.fa 110 (.s 1) 6,
   .lds 111 (.s 110),
   .mv 112 (.s 5),
   .ia 113 2 (.s 111) (.s 112),
   .fa 114 (.s 113) 0,
   .lds 115 (.s 114),
   .fa 116 (.s 4) 0,
   .lds 117 (.s 116),
   .bi 118 .eql (.s 115) (.s 117)])
  (.cd (.s 118) (.sq (.rg [.mv 2 (.c (.bool false))])
  .rt) .sk)))
  (.rg [.mv 108 (.s 5),
   .bi 109 .add (.s 108) (.c (.int .i64 1)),
   .mv 5 (.s 109)])))))))))
  (.rg [.mv 81 (.s 3),
   .bi 82 .add (.s 81) (.c (.int .i64 1)),
   .mv 3 (.s 82)]))))))
  (.sq (.sq (.rg [.mv 6 (.c (.int .i64 0))])
  (.bl 4 (.lp (.sq (.sq (.rg [.mv 119 (.s 6),
   .fa 120 (.s 1) 7,
   .lds 121 (.s 120),
   .ln 122 (.s 121),
   .bi 123 .lss (.s 119) (.s 122)])
  (.cd (.s 123) .sk (.ex 4)))
  (.sq (.bl 5 (.sq (.sq (.rd [[], [], [], [], [], [], [], [], []] [.fa 126 (.s 1) 7,
   .lds 127 (.s 126),
   .mv 128 (.s 6),
   .ia 129 7 (.s 127) (.s 128),
   .lda 130 7 (.s 129),
   .fa 131 (.s 1) 2,
   .lds 132 (.s 131),
   .cl 133 14 [(.s 130), (.s 132)],
   .un 134 .not (.s 133)])
  (.cd (.s 134) (.sq (.rg [.mv 2 (.c (.bool false))])
  .rt) .sk))
  (.sq (.rg [.mv 7 (.c (.int .i64 0))])
  (.bl 6 (.lp (.sq (.sq (.rg [.mv 135 (.s 7),
   .mv 136 (.s 6),
   .bi 137 .lss (.s 135) (.s 136)])
  (.cd (.s 137) .sk (.ex 6)))
  (.sq (.bl 7 (.sq (.rd [[], [], [], [], [], [], [], [], [], [], [], [], []] [.fa 140 (.s 1) 7,
   .lds 141 (.s 140),
   .mv 142 (.s 7),
   .ia 143 7 (.s 141) (.s 142),
   .fa 144 (.s 143) 0,
   .lds 145 (.s 144),
   .fa 146 (.s 1) 7,
   .lds 147 (.s 146),
   .mv 148 (.s 6),
   .ia 149 7 (.s 147) (.s 148),
   .fa 150 (.s 149) 0,
   .lds 151 (.s 150),
   .bi 152 .eql (.s 145) (.s 151)])
  (.cd (.s 152) (.sq (.rg [.mv 2 (.c (.bool false))])
  .rt) .sk)))
  (.rg [.mv 138 (.s 7),
   .bi 139 .add (.s 138) (.c (.int .i64 1)),
   .mv 7 (.s 139)]))))))))
  (.rg [.mv 124 (.s 6),
   .bi 125 .add (.s 124) (.c (.int .i64 1)),
   .mv 6 (.s 125)]))))))
  (.sq (.rg [.mv 2 (.c (.bool true))])
  .rt)))))
def a12 : AF := ⟨c12, [.t 2], 1, 153⟩
theorem m12 : mF Tryz.prog gl drD Tryz.f12 a12 = true := by kernel_rfl
theorem s12 {l : List AV} {r : AV} (hl : l.length = 1) (hi : idsL l = []) (h : wpA (SpH Tryz.prog gl) c12 (postA [.t 2] r) ⟨initE 0 l, [], []⟩) : Sp Tryz.prog gl 12 l r :=
  @fun_sp Tryz.prog gl drD 12 Tryz.f12 a12 Tryz.func12 m12 (dok _) l r hl hi h
theorem h12 {d : Nat} {I : In} {O : Out} (hl : I.vs.length = 1) (h : wpA (SpH Tryz.prog gl) c12 (postH d [.t 2] O) (inSt I)) : SpH Tryz.prog gl 12 d I O :=
  @fun_spH Tryz.prog gl drD 12 Tryz.f12 a12 Tryz.func12 m12 (dok _) d I O hl h
/-- firebell/show.RightRule -/
def c13 : AC :=
 (.sq (.rg [.bx 2 (.s 0),
   .mv 4 (.c (.bool false))])
  (.sq (.rg [.mv 6 (.s 1),
   .bi 7 .gtr (.s 6) (.c (.int .i64 0)),
   .mv 8 (.s 7),
   .gd 8 true 9 (.fa 9 (.s 2) 3),
   .gd 8 true 10 (.lds 10 (.s 9)),
   .gd 8 true 11 (.fa 11 (.s 2) 2),
   .gd 8 true 12 (.lds 12 (.s 11)),
   .gd 8 true 13 (.cl 13 43 [(.s 10), (.c (.int .i64 1)), (.s 12)]),
   .pk 14 (.s 8) (.s 13) (.c (.bool false)),
   .mv 15 (.s 14),
   .gd 15 true 16 (.fa 16 (.s 2) 2),
   .gd 15 true 17 (.lds 17 (.s 16)),
   .gd 15 true 18 (.cl 18 43 [(.s 17), (.c (.int .i64 1)), (.c (.int .i64 34560000))]),
   .pk 19 (.s 15) (.s 18) (.c (.bool false)),
   .mv 5 (.s 19)])
  (.sq (.rg [.mv 20 (.s 5),
   .mv 21 (.s 20),
   .gd 21 true 22 (.fa 22 (.s 2) 0),
   .gd 21 true 23 (.lds 23 (.s 22)),
   .gd 21 true 24 (.cl 24 41 [(.s 23)]),
   .pk 25 (.s 21) (.s 24) (.c (.bool false)),
   .mv 26 (.s 25),
   .gd 26 true 27 (.fa 27 (.s 2) 2),
   .gd 26 true 28 (.lds 28 (.s 27)),
   .gd 26 true 29 (.mv 29 (.s 1)),
   .gd 26 true 30 (.bi 30 .rem (.s 28) (.s 29)),
   .gd 26 true 31 (.bi 31 .eql (.s 30) (.c (.int .i64 0))),
   .pk 32 (.s 26) (.s 31) (.c (.bool false)),
   .mv 33 (.s 32),
   .gd 33 true 34 (.fa 34 (.s 2) 3),
   .gd 33 true 35 (.lds 35 (.s 34)),
   .gd 33 true 36 (.mv 36 (.s 1)),
   .gd 33 true 37 (.bi 37 .rem (.s 35) (.s 36)),
   .gd 33 true 38 (.bi 38 .eql (.s 37) (.c (.int .i64 0))),
   .pk 39 (.s 33) (.s 38) (.c (.bool false)),
   .mv 40 (.s 39),
   .gd 40 true 41 (.fa 41 (.s 2) 4),
   .gd 40 true 42 (.lds 42 (.s 41)),
   .gd 40 true 43 (.cl 43 51 [(.s 42), (.c (.int .u64 1)), (.c (.int .u64 1000000))]),
   .pk 44 (.s 40) (.s 43) (.c (.bool false)),
   .mv 45 (.s 44),
   .gd 45 true 46 (.fa 46 (.s 2) 5),
   .gd 45 true 47 (.lds 47 (.s 46)),
   .gd 45 true 48 (.cl 48 43 [(.s 47), (.c (.int .i64 0)), (.c (.int .i64 604800))]),
   .pk 49 (.s 45) (.s 48) (.c (.bool false)),
   .mv 50 (.s 49),
   .gd 50 true 51 (.fa 51 (.s 2) 6),
   .gd 50 true 52 (.lds 52 (.s 51)),
   .gd 50 true 53 (.cl 53 43 [(.s 52), (.c (.int .i64 0)), (.c (.int .i64 604800))]),
   .pk 54 (.s 50) (.s 53) (.c (.bool false)),
   .mv 4 (.s 54)])
  .rt)))
def a13 : AF := ⟨c13, [.t 4], 2, 55⟩
theorem m13 : mF Tryz.prog gl drD Tryz.f13 a13 = true := by kernel_rfl
theorem s13 {l : List AV} {r : AV} (hl : l.length = 2) (hi : idsL l = []) (h : wpA (SpH Tryz.prog gl) c13 (postA [.t 4] r) ⟨initE 0 l, [], []⟩) : Sp Tryz.prog gl 13 l r :=
  @fun_sp Tryz.prog gl drD 13 Tryz.f13 a13 Tryz.func13 m13 (dok _) l r hl hi h
theorem h13 {d : Nat} {I : In} {O : Out} (hl : I.vs.length = 2) (h : wpA (SpH Tryz.prog gl) c13 (postH d [.t 4] O) (inSt I)) : SpH Tryz.prog gl 13 d I O :=
  @fun_spH Tryz.prog gl drD 13 Tryz.f13 a13 Tryz.func13 m13 (dok _) d I O hl h
/-- firebell/firebellref35.Look -/
def c20 : AC :=
 (.sq (.rg [.bx 1 (.s 0),
   .mv 2 (.c .nils)])
  (.sq (.rg [.bs 15 2 [],
   .fa 16 (.s 1) 0,
   .lds 17 (.s 16),
   .cl 18 61 [(.s 17)],
   .ca 19 60 (some (.s 15)) [(.s 18), (.c (.int .i64 1)), (.c (.str []))],
   .mo 3 19])
  (.sq (.rg [.mo 20 3,
   .fa 21 (.s 1) 3,
   .lda 22 5 (.s 21),
   .cl 23 62 [(.s 22)],
   .ca 24 60 (some (.s 20)) [(.s 23), (.c (.int .i64 2)), (.c (.str []))],
   .mo 3 24])
  (.sq (.sq (.rg [.mv 4 (.c (.int .i64 0))])
  (.bl 0 (.lp (.sq (.sq (.rg [.mv 25 (.s 4),
   .fa 26 (.s 1) 2,
   .lds 27 (.s 26),
   .ln 28 (.s 27),
   .bi 29 .lss (.s 25) (.s 28)])
  (.cd (.s 29) .sk (.ex 0)))
  (.sq (.bl 1 (.sq (.rg [.fa 32 (.s 1) 2,
   .lds 33 (.s 32),
   .mv 34 (.s 4),
   .ia 35 15 (.s 33) (.s 34),
   .lda 36 15 (.s 35),
   .al 5 [(.str []), (.int .u32 0), (.int .i64 0), (.int .i64 0), (.int .i64 0), (.int .i64 0), .nils, .nils, (.bool false), .nils, (.int .i64 0), (.int .i64 0), (.int .u64 0), (.int .u64 0), .nils],
   .st 15 (.s 5) (.s 36)])
  (.sq (.rg [.fa 37 (.s 5) 0,
   .lda 38 8 (.s 37),
   .cl 39 12 [(.s 38)],
   .mv 6 (.s 39)])
  (.sq (.sq (.rg [.mv 7 (.c (.int .i64 0))])
  (.bl 2 (.lp (.sq (.sq (.rg [.mv 40 (.s 7),
   .mv 41 (.s 4),
   .bi 42 .lss (.s 40) (.s 41)])
  (.cd (.s 42) .sk (.ex 2)))
  (.sq (.bl 3 (.rd [[], [], [], [], [], [], [], [], [], [], [], [], [], [], []] [.mv 45 (.s 6),
   .mv 46 (.s 45),
   .gd 46 true 47 (.fa 47 (.s 1) 2),
   .gd 46 true 48 (.lds 48 (.s 47)),
   .gd 46 true 49 (.mv 49 (.s 7)),
   .gd 46 true 50 (.ia 50 15 (.s 48) (.s 49)),
   .gd 46 true 51 (.fa 51 (.s 50) 0),
   .gd 46 true 52 (.fa 52 (.s 51) 0),
   .gd 46 true 53 (.lds 53 (.s 52)),
   .gd 46 true 54 (.fa 54 (.s 5) 0),
   .gd 46 true 55 (.fa 55 (.s 54) 0),
   .gd 46 true 56 (.lds 56 (.s 55)),
   .gd 46 true 57 (.bi 57 .neq (.s 53) (.s 56)),
   .pk 58 (.s 46) (.s 57) (.c (.bool false)),
   .mv 6 (.s 58)]))
  (.rg [.mv 43 (.s 7),
   .bi 44 .add (.s 43) (.c (.int .i64 1)),
   .mv 7 (.s 44)]))))))
  (.sq (.rg [.mo 59 3,
   .mv 60 (.s 6),
   .fa 61 (.s 5) 0,
   .fa 62 (.s 61) 0,
   .lds 63 (.s 62),
   .ca 64 60 (some (.s 59)) [(.s 60), (.c (.int .i64 3)), (.s 63)],
   .mo 3 64])
  (.sq (.rd [[], [], [], [], [], [], [], []] [.mo 65 3,
   .lda 66 15 (.s 5),
   .cl 67 63 [(.s 66)],
   .fa 68 (.s 5) 0,
   .fa 69 (.s 68) 0,
   .lds 70 (.s 69),
   .ca 71 60 (some (.s 65)) [(.s 67), (.c (.int .i64 4)), (.s 70)],
   .mo 3 71])
  (.sq (.rd [[], [], [], [], [], [], [], [], [], []] [.mo 72 3,
   .lda 73 15 (.s 5),
   .fa 74 (.s 1) 0,
   .lds 75 (.s 74),
   .cl 76 64 [(.s 73), (.s 75)],
   .fa 77 (.s 5) 0,
   .fa 78 (.s 77) 0,
   .lds 79 (.s 78),
   .ca 80 60 (some (.s 72)) [(.s 76), (.c (.int .i64 5)), (.s 79)],
   .mo 3 80])
  (.sq (.rd [[], [], [], [], [], [], [], [], []] [.mo 81 3,
   .lda 82 15 (.s 5),
   .lda 83 11 (.s 1),
   .cl 84 65 [(.s 82), (.s 83)],
   .fa 85 (.s 5) 0,
   .fa 86 (.s 85) 0,
   .lds 87 (.s 86),
   .ca 88 60 (some (.s 81)) [(.s 84), (.c (.int .i64 6)), (.s 87)],
   .mo 3 88])
  (.sq (.rg [.mv 8 (.c (.bool true))])
  (.sq (.sq (.rg [.mv 9 (.c (.int .i64 0))])
  (.bl 4 (.lp (.sq (.sq (.rg [.mv 89 (.s 9),
   .fa 90 (.s 5) 14,
   .lds 91 (.s 90),
   .ln 92 (.s 91),
   .bi 93 .lss (.s 89) (.s 92)])
  (.cd (.s 93) .sk (.ex 4)))
  (.sq (.bl 5 (.rd [[], [], [], [], [], [], [], [], [], [], [], [], [], [], [], [], [], [], [], [], [], [], []] [.mv 96 (.s 8),
   .mv 97 (.s 96),
   .gd 97 true 98 (.fa 98 (.s 5) 14),
   .gd 97 true 99 (.lds 99 (.s 98)),
   .gd 97 true 100 (.mv 100 (.s 9)),
   .gd 97 true 101 (.ia 101 4 (.s 99) (.s 100)),
   .gd 97 true 102 (.lda 102 4 (.s 101)),
   .gd 97 true 103 (.cl 103 66 [(.s 102)]),
   .gd 97 true 104 (.mv 104 (.s 103)),
   .gd 104 true 105 (.lda 105 11 (.s 1)),
   .gd 104 true 106 (.mv 106 (.s 4)),
   .gd 104 true 107 (.mv 107 (.s 9)),
   .gd 104 true 108 (.fa 108 (.s 5) 14),
   .gd 104 true 109 (.lds 109 (.s 108)),
   .gd 104 true 110 (.mv 110 (.s 9)),
   .gd 104 true 111 (.ia 111 4 (.s 109) (.s 110)),
   .gd 104 true 112 (.fa 112 (.s 111) 3),
   .gd 104 true 113 (.lds 113 (.s 112)),
   .gd 104 true 114 (.cl 114 67 [(.s 105), (.s 106), (.s 107), (.s 113)]),
   .gd 97 true 115 (.pk 115 (.s 104) (.s 114) (.c (.bool false))),
   .gd 97 true 116 (.un 116 .not (.s 115)),
   .pk 117 (.s 97) (.s 116) (.c (.bool false)),
   .mv 8 (.s 117)]))
  (.rg [.mv 94 (.s 9),
   .bi 95 .add (.s 94) (.c (.int .i64 1)),
   .mv 9 (.s 95)]))))))
  (.rg [.mo 118 3,
   .mv 119 (.s 8),
   .fa 120 (.s 5) 0,
   .fa 121 (.s 120) 0,
   .lds 122 (.s 121),
   .ca 123 60 (some (.s 118)) [(.s 119), (.c (.int .i64 7)), (.s 122)],
   .mo 3 123])))))))))))
  (.rg [.mv 30 (.s 4),
   .bi 31 .add (.s 30) (.c (.int .i64 1)),
   .mv 4 (.s 31)]))))))
  (.sq (.rg [.mo 124 3,
   .fa 125 (.s 1) 8,
   .lda 126 2 (.s 125),
   .cl 127 68 [(.s 126)],
   .ca 128 60 (some (.s 124)) [(.s 127), (.c (.int .i64 8)), (.c (.str []))],
   .mo 3 128])
  (.sq (.sq (.rg [.mv 10 (.c (.int .i64 0))])
  (.bl 6 (.lp (.sq (.sq (.rg [.mv 129 (.s 10),
   .fa 130 (.s 1) 8,
   .fa 131 (.s 130) 0,
   .lds 132 (.s 131),
   .ln 133 (.s 132),
   .bi 134 .lss (.s 129) (.s 133)])
  (.cd (.s 134) .sk (.ex 6)))
  (.sq (.bl 7 (.sq (.rg [.fa 137 (.s 1) 8,
   .fa 138 (.s 137) 0,
   .lds 139 (.s 138),
   .mv 140 (.s 10),
   .ia 141 9 (.s 139) (.s 140),
   .lda 142 9 (.s 141),
   .al 11 [(.str []), (.str []), (.bool false), (.int .u64 0), (.bool false), (.int .i64 0), (.int .i64 0), (.int .i64 0), (.bool false)],
   .st 9 (.s 11) (.s 142)])
  (.sq (.rg [.fa 143 (.s 11) 0,
   .lda 144 5 (.s 143),
   .cl 145 69 [(.s 144)],
   .mv 12 (.s 145)])
  (.sq (.rg [.mo 146 3,
   .fa 147 (.s 11) 5,
   .lds 148 (.s 147),
   .fa 149 (.s 1) 0,
   .lds 150 (.s 149),
   .bi 151 .leq (.s 148) (.s 150),
   .mv 152 (.s 151),
   .gd 152 true 153 (.fa 153 (.s 11) 0),
   .gd 152 true 154 (.fa 154 (.s 153) 3),
   .gd 152 true 155 (.lds 155 (.s 154)),
   .gd 152 true 156 (.fa 156 (.s 1) 1),
   .gd 152 true 157 (.lds 157 (.s 156)),
   .gd 152 true 158 (.bi 158 .leq (.s 155) (.s 157)),
   .pk 159 (.s 152) (.s 158) (.c (.bool false)),
   .mv 160 (.s 12),
   .ca 161 60 (some (.s 146)) [(.s 159), (.c (.int .i64 9)), (.s 160)],
   .mo 3 161])
  (.rg [.mo 162 3,
   .fa 163 (.s 11) 8,
   .lds 164 (.s 163),
   .un 165 .not (.s 164),
   .mv 166 (.s 165),
   .gd 166 false 167 (.lda 167 11 (.s 1)),
   .gd 166 false 168 (.fa 168 (.s 11) 0),
   .gd 166 false 169 (.lda 169 5 (.s 168)),
   .gd 166 false 170 (.cl 170 70 [(.s 167), (.s 169)]),
   .pk 171 (.s 166) (.c (.bool true)) (.s 170),
   .mv 172 (.s 12),
   .ca 173 60 (some (.s 162)) [(.s 171), (.c (.int .i64 10)), (.s 172)],
   .mo 3 173])))))
  (.rg [.mv 135 (.s 10),
   .bi 136 .add (.s 135) (.c (.int .i64 1)),
   .mv 10 (.s 136)]))))))
  (.sq (.sq (.rg [.mv 13 (.c (.int .i64 0))])
  (.bl 8 (.lp (.sq (.sq (.rg [.mv 174 (.s 13),
   .fa 175 (.s 1) 10,
   .lds 176 (.s 175),
   .ln 177 (.s 176),
   .bi 178 .lss (.s 174) (.s 177)])
  (.cd (.s 178) .sk (.ex 8)))
  (.sq (.bl 9 (.sq (.rg [.fa 181 (.s 1) 10,
   .lds 182 (.s 181),
   .mv 183 (.s 13),
   .ia 184 5 (.s 182) (.s 183),
   .lda 185 5 (.s 184),
   .al 14 [(.str []), (.str []), (.int .i64 0), (.int .i64 0), (.int .i64 0)],
   .st 5 (.s 14) (.s 185)])
  (.rd [[], [], [], [], [], [], [], [], [], [], [], [], [], [], [], [], [], [], [], [], [], [], [], [], [], [], []] [.mo 186 3,
   .lda 187 5 (.s 14),
   .cl 188 71 [(.s 187)],
   .mv 189 (.s 188),
   .gd 189 true 190 (.fa 190 (.s 14) 4),
   .gd 189 true 191 (.lds 191 (.s 190)),
   .gd 189 true 192 (.fa 192 (.s 1) 0),
   .gd 189 true 193 (.lds 193 (.s 192)),
   .gd 189 true 194 (.bi 194 .gtr (.s 191) (.s 193)),
   .pk 195 (.s 189) (.s 194) (.c (.bool false)),
   .mv 196 (.s 195),
   .gd 196 true 197 (.fa 197 (.s 1) 10),
   .gd 196 true 198 (.lds 198 (.s 197)),
   .gd 196 true 199 (.fa 199 (.s 14) 0),
   .gd 196 true 200 (.lds 200 (.s 199)),
   .gd 196 true 201 (.cl 201 72 [(.s 198), (.s 200)]),
   .gd 196 true 202 (.mv 202 (.s 13)),
   .gd 196 true 203 (.bi 203 .eql (.s 201) (.s 202)),
   .pk 204 (.s 196) (.s 203) (.c (.bool false)),
   .mv 205 (.s 204),
   .gd 205 true 206 (.mv 206 (.s 13)),
   .gd 205 true 207 (.bi 207 .lss (.s 206) (.c (.int .i64 12))),
   .pk 208 (.s 205) (.s 207) (.c (.bool false)),
   .fa 209 (.s 14) 0,
   .lds 210 (.s 209),
   .ca 211 60 (some (.s 186)) [(.s 208), (.c (.int .i64 11)), (.s 210)],
   .mo 3 211])))
  (.rg [.mv 179 (.s 13),
   .bi 180 .add (.s 179) (.c (.int .i64 1)),
   .mv 13 (.s 180)]))))))
  (.sq (.rg [.mv 212 (.s 3),
   .mv 2 (.s 212)])
  .rt))))))))
def a20 : AF := ⟨c20, [.t 2], 1, 213⟩
theorem m20 : mF Tryz.prog gl drD Tryz.f20 a20 = true := by kernel_rfl
theorem s20 {l : List AV} {r : AV} (hl : l.length = 1) (hi : idsL l = []) (h : wpA (SpH Tryz.prog gl) c20 (postA [.t 2] r) ⟨initE 0 l, [], []⟩) : Sp Tryz.prog gl 20 l r :=
  @fun_sp Tryz.prog gl drD 20 Tryz.f20 a20 Tryz.func20 m20 (dok _) l r hl hi h
theorem h20 {d : Nat} {I : In} {O : Out} (hl : I.vs.length = 1) (h : wpA (SpH Tryz.prog gl) c20 (postH d [.t 2] O) (inSt I)) : SpH Tryz.prog gl 20 d I O :=
  @fun_spH Tryz.prog gl drD 20 Tryz.f20 a20 Tryz.func20 m20 (dok _) d I O hl h
/-- firebell/audit.Sound -/
def c21 : AC :=
 (.sq (.rg [.bx 1 (.s 0),
   .mv 2 (.c (.bool false))])
  (.sq (.rg [.lda 3 11 (.s 1),
   .cl 4 18 [(.s 3)],
   .ln 5 (.s 4),
   .bi 6 .eql (.s 5) (.c (.int .i64 0)),
   .mv 2 (.s 6)])
  .rt))
def a21 : AF := ⟨c21, [.t 2], 1, 7⟩
theorem m21 : mF Tryz.prog gl drD Tryz.f21 a21 = true := by kernel_rfl
theorem s21 {l : List AV} {r : AV} (hl : l.length = 1) (hi : idsL l = []) (h : wpA (SpH Tryz.prog gl) c21 (postA [.t 2] r) ⟨initE 0 l, [], []⟩) : Sp Tryz.prog gl 21 l r :=
  @fun_sp Tryz.prog gl drD 21 Tryz.f21 a21 Tryz.func21 m21 (dok _) l r hl hi h
theorem h21 {d : Nat} {I : In} {O : Out} (hl : I.vs.length = 1) (h : wpA (SpH Tryz.prog gl) c21 (postH d [.t 2] O) (inSt I)) : SpH Tryz.prog gl 21 d I O :=
  @fun_spH Tryz.prog gl drD 21 Tryz.f21 a21 Tryz.func21 m21 (dok _) d I O hl h
/-- firebell/firebelllaw33.awake -/
def c22 : AC :=
 (.sq (.rg [.mv 0 (.c (.bool false))])
  (.sq (.rg [.bd 4 [(.int .i64 0), (.int .u64 0), .nils, (.int .i64 0), (.int .i64 0), (.int .i64 0), (.int .i64 0), (.int .i64 0), .nils, (.int .u64 0), .nils] [(0, 1, (.c (.int .i64 5)))],
   .cl 5 73 [(.s 4)],
   .cl 6 24 [(.s 5)],
   .mv 3 (.s 6),
   .exq 7 (.s 3) 0,
   .exq 8 (.s 3) 1,
   .mv 1 (.s 7),
   .mv 2 (.s 8)])
  (.sq (.rg [.mv 9 (.s 1),
   .bi 10 .eql (.s 9) (.c (.str [114, 101, 112, 111, 114, 116, 32, 97, 116, 32, 53, 32, 119, 97, 105, 116, 105, 110, 103, 32, 48, 32, 100, 114, 111, 112, 112, 101, 100, 32, 48, 10])),
   .mv 11 (.s 10),
   .gd 11 true 12 (.mv 12 (.s 2)),
   .gd 11 true 13 (.bi 13 .eql (.s 12) (.c (.int .i64 0))),
   .pk 14 (.s 11) (.s 13) (.c (.bool false)),
   .mv 0 (.s 14)])
  .rt)))
def a22 : AF := ⟨c22, [.t 0], 0, 15⟩
theorem m22 : mF Tryz.prog gl drD Tryz.f22 a22 = true := by kernel_rfl
theorem s22 {l : List AV} {r : AV} (hl : l.length = 0) (hi : idsL l = []) (h : wpA (SpH Tryz.prog gl) c22 (postA [.t 0] r) ⟨initE 0 l, [], []⟩) : Sp Tryz.prog gl 22 l r :=
  @fun_sp Tryz.prog gl drD 22 Tryz.f22 a22 Tryz.func22 m22 (dok _) l r hl hi h
theorem h22 {d : Nat} {I : In} {O : Out} (hl : I.vs.length = 0) (h : wpA (SpH Tryz.prog gl) c22 (postH d [.t 0] O) (inSt I)) : SpH Tryz.prog gl 22 d I O :=
  @fun_spH Tryz.prog gl drD 22 Tryz.f22 a22 Tryz.func22 m22 (dok _) d I O hl h
/-- firebell/firebellref33.HeavyReport -/
def c23 : AC :=
 (.sq (.rg [.bx 1 (.s 0),
   .mv 2 (.c (.bool false))])
  (.sq (.sq (.rg [.fa 5 (.s 1) 3,
   .lds 6 (.s 5),
   .ln 7 (.s 6),
   .bi 8 .gtr (.s 7) (.c (.int .i64 8))])
  (.cd (.s 8) (.sq (.rg [.mv 2 (.c (.bool true))])
  .rt) .sk))
  (.sq (.sq (.rg [.mv 3 (.c (.int .i64 0))])
  (.bl 0 (.lp (.sq (.sq (.rg [.mv 9 (.s 3),
   .fa 10 (.s 1) 3,
   .lds 11 (.s 10),
   .ln 12 (.s 11),
   .bi 13 .lss (.s 9) (.s 12)])
  (.cd (.s 13) .sk (.ex 0)))
  (.sq (.bl 1 (.sq (.sq (.rg [.fa 16 (.s 1) 3,
   .lds 17 (.s 16),
   .mv 18 (.s 3),
   .ia 19 12 (.s 17) (.s 18),
   .fa 20 (.s 19) 0,
   .lds 21 (.s 20),
   .lns 22 (.s 21),
   .bi 23 .gtr (.s 22) (.c (.int .i64 500)),
   .mv 24 (.s 23),
   .gd 24 false 25 (.fa 25 (.s 1) 3),
   .gd 24 false 26 (.lds 26 (.s 25)),
   .gd 24 false 27 (.mv 27 (.s 3)),
   .gd 24 false 28 (.ia 28 12 (.s 26) (.s 27)),
   .gd 24 false 29 (.fa 29 (.s 28) 11),
   .gd 24 false 30 (.lds 30 (.s 29)),
   .gd 24 false 31 (.ln 31 (.s 30)),
   .gd 24 false 32 (.bi 32 .gtr (.s 31) (.c (.int .i64 10))),
   .pk 33 (.s 24) (.c (.bool true)) (.s 32)])
  (.cd (.s 33) (.sq (.rg [.mv 2 (.c (.bool true))])
  .rt) .sk))
  (.sq (.rg [.mv 4 (.c (.int .i64 0))])
  (.bl 2 (.lp (.sq (.sq (.rg [.mv 34 (.s 4),
   .fa 35 (.s 1) 3,
   .lds 36 (.s 35),
   .mv 37 (.s 3),
   .ia 38 12 (.s 36) (.s 37),
   .fa 39 (.s 38) 11,
   .lds 40 (.s 39),
   .ln 41 (.s 40),
   .bi 42 .lss (.s 34) (.s 41)])
  (.cd (.s 42) .sk (.ex 2)))
  (.sq (.bl 3 (.sq (.rg [.fa 45 (.s 1) 3,
   .lds 46 (.s 45),
   .mv 47 (.s 3),
   .ia 48 12 (.s 46) (.s 47),
   .fa 49 (.s 48) 11,
   .lds 50 (.s 49),
   .mv 51 (.s 4),
   .ia 52 5 (.s 50) (.s 51),
   .fa 53 (.s 52) 0,
   .lds 54 (.s 53),
   .lns 55 (.s 54),
   .bi 56 .gtr (.s 55) (.c (.int .i64 500))])
  (.cd (.s 56) (.sq (.rg [.mv 2 (.c (.bool true))])
  .rt) .sk)))
  (.rg [.mv 43 (.s 4),
   .bi 44 .add (.s 43) (.c (.int .i64 1)),
   .mv 4 (.s 44)]))))))))
  (.rg [.mv 14 (.s 3),
   .bi 15 .add (.s 14) (.c (.int .i64 1)),
   .mv 3 (.s 15)]))))))
  (.sq (.rg [.mv 2 (.c (.bool false))])
  .rt))))
def a23 : AF := ⟨c23, [.t 2], 1, 57⟩
theorem m23 : mF Tryz.prog gl drD Tryz.f23 a23 = true := by kernel_rfl
theorem s23 {l : List AV} {r : AV} (hl : l.length = 1) (hi : idsL l = []) (h : wpA (SpH Tryz.prog gl) c23 (postA [.t 2] r) ⟨initE 0 l, [], []⟩) : Sp Tryz.prog gl 23 l r :=
  @fun_sp Tryz.prog gl drD 23 Tryz.f23 a23 Tryz.func23 m23 (dok _) l r hl hi h
theorem h23 {d : Nat} {I : In} {O : Out} (hl : I.vs.length = 1) (h : wpA (SpH Tryz.prog gl) c23 (postH d [.t 2] O) (inSt I)) : SpH Tryz.prog gl 23 d I O :=
  @fun_spH Tryz.prog gl drD 23 Tryz.f23 a23 Tryz.func23 m23 (dok _) d I O hl h
/-- firebell/report.Print -/
def c24 : AC :=
 (.sq (.rg [.bx 1 (.s 0),
   .mv 2 (.c (.str [])),
   .mv 3 (.c (.int .i64 0))])
  (.sq (.sq (.rg [.lda 9 4 (.s 1),
   .cl 10 25 [(.s 9)],
   .un 11 .not (.s 10)])
  (.cd (.s 11) (.sq (.rg [.mv 2 (.c (.str [])),
   .mv 3 (.c (.int .i64 6))])
  .rt) .sk))
  (.sq (.rg [.bd 12 [.nilp, .nils] [],
   .bxT 13 148 0 (.s 12),
   .mv 4 (.s 13)])
  (.sq (.rd [[], [], [], [], [], [], [], [], [], [], [], [], [], []] [.mv 14 (.s 4),
   .fa 15 (.s 1) 0,
   .lds 16 (.s 15),
   .cv 17 .u64 (.s 16),
   .cl 18 75 [(.s 17)],
   .fa 19 (.s 1) 1,
   .lds 20 (.s 19),
   .cv 21 .u64 (.s 20),
   .cl 22 75 [(.s 21)],
   .fa 23 (.s 1) 2,
   .lds 24 (.s 23),
   .cl 25 75 [(.s 24)],
   .bs 26 1 [(.c (.str [114, 101, 112, 111, 114, 116])), (.c (.str [97, 116])), (.s 18), (.c (.str [119, 97, 105, 116, 105, 110, 103])), (.s 22), (.c (.str [100, 114, 111, 112, 112, 101, 100])), (.s 25)],
   .ce 27 74 [(.s 14), (.s 26)]])
  (.sq (.sq (.rg [.fa 28 (.s 1) 3,
   .lds 29 (.s 28),
   .ln 30 (.s 29),
   .mv 31 (.c (.int .i64 0))])
  (.bl 0 (.lp (.sq (.rg [.bi 32 .lss (.s 31) (.s 30)])
  (.sq (.cd (.s 32) .sk (.ex 0))
  (.sq (.bl 1 (.sq (.rg [.ia 33 12 (.s 29) (.s 31),
   .lda 34 12 (.s 33),
   .al 6 [(.str []), (.bool false), (.bool false), (.int .u64 0), (.int .u64 0), (.bool false), (.int .u64 0), (.int .u64 0), (.int .i64 0), (.int .u64 0), (.int .u64 0), .nils],
   .st 12 (.s 6) (.s 34)])
  (.sq (.sq (.rg [.fa 35 (.s 6) 1,
   .lds 36 (.s 35)])
  (.cd (.s 36) (.rg [.mv 37 (.s 4),
   .fa 38 (.s 6) 0,
   .lds 39 (.s 38),
   .bs 40 1 [(.c (.str [103, 111, 97, 108])), (.s 39), (.c (.str [115, 97, 116, 101, 100]))],
   .ce 41 74 [(.s 37), (.s 40)]]) (.rd [[], [], [], [], [], [], [], [], [], [], [], [], [], []] [.mv 42 (.s 4),
   .fa 43 (.s 6) 0,
   .lds 44 (.s 43),
   .fa 45 (.s 6) 2,
   .lda 46 3 (.s 45),
   .cl 47 76 [(.s 46)],
   .fa 48 (.s 6) 5,
   .lda 49 3 (.s 48),
   .cl 50 76 [(.s 49)],
   .fa 51 (.s 6) 8,
   .lda 52 3 (.s 51),
   .cl 53 77 [(.s 52)],
   .bs 54 1 [(.c (.str [103, 111, 97, 108])), (.s 44), (.c (.str [114, 111, 108, 108, 105, 110, 103])), (.s 47), (.c (.str [99, 97, 108, 101, 110, 100, 97, 114])), (.s 50), (.c (.str [111, 117, 116, 108, 111, 111, 107])), (.s 53)],
   .ce 55 74 [(.s 42), (.s 54)]])))
  (.sq (.rg [.fa 56 (.s 6) 11,
   .lds 57 (.s 56),
   .ln 58 (.s 57),
   .mv 59 (.c (.int .i64 0))])
  (.bl 2 (.lp (.sq (.rg [.bi 60 .lss (.s 59) (.s 58)])
  (.sq (.cd (.s 60) .sk (.ex 2))
  (.sq (.bl 3 (.sq (.rg [.ia 61 5 (.s 57) (.s 59),
   .lda 62 5 (.s 61),
   .al 8 [(.str []), (.bool false), (.int .i64 0), (.int .u64 0), (.int .u64 0)],
   .st 5 (.s 8) (.s 62)])
  (.rd [[], [], [], [], [], [], [], [], [], [], [], [], [], [], [], [], []] [.mv 63 (.s 4),
   .fa 64 (.s 8) 0,
   .lds 65 (.s 64),
   .fa 66 (.s 8) 1,
   .lds 67 (.s 66),
   .cl 68 78 [(.s 67)],
   .fa 69 (.s 8) 2,
   .lds 70 (.s 69),
   .cl 71 79 [(.s 70)],
   .fa 72 (.s 8) 3,
   .lds 73 (.s 72),
   .cl 74 75 [(.s 73)],
   .fa 75 (.s 8) 4,
   .lds 76 (.s 75),
   .cl 77 75 [(.s 76)],
   .bs 78 1 [(.c (.str [114, 117, 108, 101])), (.s 65), (.s 68), (.s 71), (.c (.str [108, 111, 110, 103])), (.s 74), (.c (.str [115, 104, 111, 114, 116])), (.s 77)],
   .ce 79 74 [(.s 63), (.s 78)]])))
  (.rg [.bi 80 .add (.s 59) (.c (.int .i64 1)),
   .mv 59 (.s 80)]))))))))))
  (.rg [.bi 81 .add (.s 31) (.c (.int .i64 1)),
   .mv 31 (.s 81)])))))))
  (.sq (.rg [.mv 82 (.s 4),
   .nc 83 (.s 82),
   .fa 84 (.s 83) 0,
   .ce 85 80 [(.s 84)],
   .mv 2 (.s 85),
   .mv 3 (.c (.int .i64 0))])
  .rt))))))
def a24 : AF := ⟨c24, [.t 2, .t 3], 1, 86⟩
theorem m24 : mF Tryz.prog gl drD Tryz.f24 a24 = true := by kernel_rfl
theorem s24 {l : List AV} {r : AV} (hl : l.length = 1) (hi : idsL l = []) (h : wpA (SpH Tryz.prog gl) c24 (postA [.t 2, .t 3] r) ⟨initE 0 l, [], []⟩) : Sp Tryz.prog gl 24 l r :=
  @fun_sp Tryz.prog gl drD 24 Tryz.f24 a24 Tryz.func24 m24 (dok _) l r hl hi h
theorem h24 {d : Nat} {I : In} {O : Out} (hl : I.vs.length = 1) (h : wpA (SpH Tryz.prog gl) c24 (postH d [.t 2, .t 3] O) (inSt I)) : SpH Tryz.prog gl 24 d I O :=
  @fun_spH Tryz.prog gl drD 24 Tryz.f24 a24 Tryz.func24 m24 (dok _) d I O hl h
/-- firebell/report.Right -/
def c25 : AC :=
 (.sq (.rg [.bx 1 (.s 0),
   .mv 2 (.c (.bool false))])
  (.sq (.sq (.rg [.fa 5 (.s 1) 3,
   .lds 6 (.s 5),
   .ln 7 (.s 6),
   .mv 8 (.c (.int .i64 0))])
  (.bl 0 (.lp (.sq (.rg [.bi 9 .lss (.s 8) (.s 7)])
  (.sq (.cd (.s 9) .sk (.ex 0))
  (.sq (.bl 1 (.sq (.rg [.ia 10 12 (.s 6) (.s 8),
   .lda 11 12 (.s 10),
   .al 4 [(.str []), (.bool false), (.bool false), (.int .u64 0), (.int .u64 0), (.bool false), (.int .u64 0), (.int .u64 0), (.int .i64 0), (.int .u64 0), (.int .u64 0), .nils],
   .st 12 (.s 4) (.s 11)])
  (.sq (.rg [.lda 12 12 (.s 4),
   .cl 13 81 [(.s 12)],
   .un 14 .not (.s 13)])
  (.cd (.s 14) (.sq (.rg [.mv 2 (.c (.bool false))])
  .rt) .sk))))
  (.rg [.bi 15 .add (.s 8) (.c (.int .i64 1)),
   .mv 8 (.s 15)])))))))
  (.sq (.rg [.fa 16 (.s 1) 0,
   .lds 17 (.s 16),
   .bi 18 .geq (.s 17) (.c (.int .i64 0)),
   .mv 19 (.s 18),
   .gd 19 true 20 (.fa 20 (.s 1) 0),
   .gd 19 true 21 (.lds 21 (.s 20)),
   .gd 19 true 22 (.bi 22 .leq (.s 21) (.c (.int .i64 253402300799))),
   .pk 23 (.s 19) (.s 22) (.c (.bool false)),
   .mv 24 (.s 23),
   .gd 24 true 25 (.fa 25 (.s 1) 1),
   .gd 24 true 26 (.lds 26 (.s 25)),
   .gd 24 true 27 (.bi 27 .geq (.s 26) (.c (.int .i64 0))),
   .pk 28 (.s 24) (.s 27) (.c (.bool false)),
   .mv 29 (.s 28),
   .gd 29 true 30 (.fa 30 (.s 1) 1),
   .gd 29 true 31 (.lds 31 (.s 30)),
   .gd 29 true 32 (.bi 32 .leq (.s 31) (.c (.int .i64 64))),
   .pk 33 (.s 29) (.s 32) (.c (.bool false)),
   .mv 34 (.s 33),
   .gd 34 true 35 (.fa 35 (.s 1) 3),
   .gd 34 true 36 (.lds 36 (.s 35)),
   .gd 34 true 37 (.ln 37 (.s 36)),
   .gd 34 true 38 (.bi 38 .leq (.s 37) (.c (.int .i64 6))),
   .pk 39 (.s 34) (.s 38) (.c (.bool false)),
   .mv 2 (.s 39)])
  .rt)))
def a25 : AF := ⟨c25, [.t 2], 1, 40⟩
theorem m25 : mF Tryz.prog gl drD Tryz.f25 a25 = true := by kernel_rfl
theorem s25 {l : List AV} {r : AV} (hl : l.length = 1) (hi : idsL l = []) (h : wpA (SpH Tryz.prog gl) c25 (postA [.t 2] r) ⟨initE 0 l, [], []⟩) : Sp Tryz.prog gl 25 l r :=
  @fun_sp Tryz.prog gl drD 25 Tryz.f25 a25 Tryz.func25 m25 (dok _) l r hl hi h
theorem h25 {d : Nat} {I : In} {O : Out} (hl : I.vs.length = 1) (h : wpA (SpH Tryz.prog gl) c25 (postH d [.t 2] O) (inSt I)) : SpH Tryz.prog gl 25 d I O :=
  @fun_spH Tryz.prog gl drD 25 Tryz.f25 a25 Tryz.func25 m25 (dok _) d I O hl h
/-- firebell/firebelllaw18.awake -/
def c31 : AC :=
 (.sq (.rg [.mv 0 (.c (.bool false))])
  (.sq (.rg [.bd 6 [(.int .i64 0), (.int .i64 0), (.int .i64 0), (.int .i64 0), (.int .i64 0)] [(0, 1, (.c (.int .i64 1))), (2, 1, (.c (.int .i64 1))), (3, 1, (.c (.int .i64 1)))],
   .al 1 [(.int .i64 0), (.int .i64 0), (.int .i64 0), (.int .i64 0), (.int .i64 0)],
   .st 5 (.s 1) (.s 6)])
  (.sq (.rg [.bd 7 [(.str []), (.bool false), (.int .i64 0), (.int .i64 0), (.int .u64 0), (.int .i64 0), (.int .i64 0)] [(0, 1, (.c (.str [114]))), (2, 1, (.c (.int .i64 120))), (3, 1, (.c (.int .i64 60))), (4, 1, (.c (.int .u64 1)))],
   .bs 8 7 [(.s 7)],
   .bd 9 [(.str []), (.int .u32 0), (.int .i64 0), (.int .i64 0), (.int .i64 0), (.int .i64 0), .nils, .nils] [(0, 1, (.c (.str [97]))), (1, 1, (.c (.int .u32 5))), (2, 1, (.c (.int .i64 60))), (7, 1, (.s 8))],
   .al 2 [(.str []), (.int .u32 0), (.int .i64 0), (.int .i64 0), (.int .i64 0), (.int .i64 0), .nils, .nils],
   .st 8 (.s 2) (.s 9)])
  (.sq (.rg [.lda 10 8 (.s 2),
   .al 3 [(.str []), (.int .u32 0), (.int .i64 0), (.int .i64 0), (.int .i64 0), (.int .i64 0), .nils, .nils],
   .st 8 (.s 3) (.s 10)])
  (.sq (.rg [.fa 11 (.s 3) 1,
   .st 1 (.s 11) (.c (.int .u32 6))])
  (.sq (.rg [.lda 13 8 (.s 2),
   .bs 14 8 [(.s 13)],
   .lda 15 5 (.s 1),
   .bd 16 [.nils, (.int .i64 0), (.int .i64 0), (.int .i64 0), (.int .i64 0), (.int .i64 0)] [(0, 1, (.s 14)), (1, 5, (.s 15))],
   .lda 17 8 (.s 3),
   .bs 18 8 [(.s 17)],
   .lda 19 5 (.s 1),
   .bd 20 [.nils, (.int .i64 0), (.int .i64 0), (.int .i64 0), (.int .i64 0), (.int .i64 0)] [(0, 1, (.s 18)), (1, 5, (.s 19))],
   .cl 21 95 [(.s 16), (.s 20)],
   .mv 12 (.s 21),
   .exq 22 (.s 12) 0,
   .exq 23 (.s 12) 1,
   .mv 4 (.s 22),
   .mv 5 (.s 23)])
  (.sq (.rg [.mv 24 (.s 5),
   .bi 25 .eql (.s 24) (.c (.int .i64 0)),
   .mv 26 (.s 25),
   .gd 26 true 27 (.mv 27 (.s 4)),
   .gd 26 true 28 (.ln 28 (.s 27)),
   .gd 26 true 29 (.bi 29 .eql (.s 28) (.c (.int .i64 2))),
   .pk 30 (.s 26) (.s 29) (.c (.bool false)),
   .mv 31 (.s 30),
   .gd 31 true 32 (.mv 32 (.s 4)),
   .gd 31 true 33 (.ia 33 3 (.s 32) (.c (.int .i64 0))),
   .gd 31 true 34 (.lda 34 3 (.s 33)),
   .gd 31 true 35 (.bd 35 [(.str []), (.str []), (.int .i64 0)] [(0, 1, (.c (.str [97]))), (2, 1, (.c (.int .i64 2)))]),
   .gd 31 true 36 (.ea 36 false [.s, .s, .i] (.s 34) (.s 35)),
   .pk 37 (.s 31) (.s 36) (.c (.bool false)),
   .mv 38 (.s 37),
   .gd 38 true 39 (.mv 39 (.s 4)),
   .gd 38 true 40 (.ia 40 3 (.s 39) (.c (.int .i64 1))),
   .gd 38 true 41 (.lda 41 3 (.s 40)),
   .gd 38 true 42 (.bd 42 [(.str []), (.str []), (.int .i64 0)] [(0, 1, (.c (.str [97]))), (1, 1, (.c (.str [114]))), (2, 1, (.c (.int .i64 2)))]),
   .gd 38 true 43 (.ea 43 false [.s, .s, .i] (.s 41) (.s 42)),
   .pk 44 (.s 38) (.s 43) (.c (.bool false)),
   .mv 0 (.s 44)])
  .rt)))))))
def a31 : AF := ⟨c31, [.t 0], 0, 45⟩
theorem m31 : mF Tryz.prog gl drD Tryz.f31 a31 = true := by kernel_rfl
theorem s31 {l : List AV} {r : AV} (hl : l.length = 0) (hi : idsL l = []) (h : wpA (SpH Tryz.prog gl) c31 (postA [.t 0] r) ⟨initE 0 l, [], []⟩) : Sp Tryz.prog gl 31 l r :=
  @fun_sp Tryz.prog gl drD 31 Tryz.f31 a31 Tryz.func31 m31 (dok _) l r hl hi h
theorem h31 {d : Nat} {I : In} {O : Out} (hl : I.vs.length = 0) (h : wpA (SpH Tryz.prog gl) c31 (postH d [.t 0] O) (inSt I)) : SpH Tryz.prog gl 31 d I O :=
  @fun_spH Tryz.prog gl drD 31 Tryz.f31 a31 Tryz.func31 m31 (dok _) d I O hl h
/-- firebell/firebelllaw18.heavy -/
def c32 : AC :=
 (.sq (.rg [.mv 2 (.c (.bool false))])
  (.sq (.sq (.rg [.mv 4 (.s 0),
   .ln 5 (.s 4),
   .bi 6 .gtr (.s 5) (.c (.int .i64 100))])
  (.cd (.s 6) (.sq (.rg [.mv 2 (.c (.bool true))])
  .rt) .sk))
  (.sq (.sq (.rg [.mv 3 (.c (.int .i64 0))])
  (.bl 0 (.lp (.sq (.sq (.rg [.mv 7 (.s 3),
   .mv 8 (.s 0),
   .ln 9 (.s 8),
   .bi 10 .lss (.s 7) (.s 9)])
  (.cd (.s 10) .sk (.ex 0)))
  (.sq (.bl 1 (.sq (.rg [.mv 13 (.s 0),
   .mv 14 (.s 3),
   .ia 15 3 (.s 13) (.s 14),
   .fa 16 (.s 15) 0,
   .lds 17 (.s 16),
   .lns 18 (.s 17),
   .bi 19 .gtr (.s 18) (.c (.int .i64 500)),
   .mv 20 (.s 19),
   .gd 20 false 21 (.mv 21 (.s 0)),
   .gd 20 false 22 (.mv 22 (.s 3)),
   .gd 20 false 23 (.ia 23 3 (.s 21) (.s 22)),
   .gd 20 false 24 (.fa 24 (.s 23) 1),
   .gd 20 false 25 (.lds 25 (.s 24)),
   .gd 20 false 26 (.lns 26 (.s 25)),
   .gd 20 false 27 (.bi 27 .gtr (.s 26) (.c (.int .i64 500))),
   .pk 28 (.s 20) (.c (.bool true)) (.s 27)])
  (.cd (.s 28) (.sq (.rg [.mv 2 (.c (.bool true))])
  .rt) .sk)))
  (.rg [.mv 11 (.s 3),
   .bi 12 .add (.s 11) (.c (.int .i64 1)),
   .mv 3 (.s 12)]))))))
  (.sq (.rg [.mv 2 (.c (.bool false))])
  .rt))))
def a32 : AF := ⟨c32, [.t 2], 1, 29⟩
theorem m32 : mF Tryz.prog gl drD Tryz.f32 a32 = true := by kernel_rfl
theorem s32 {l : List AV} {r : AV} (hl : l.length = 1) (hi : idsL l = []) (h : wpA (SpH Tryz.prog gl) c32 (postA [.t 2] r) ⟨initE 0 l, [], []⟩) : Sp Tryz.prog gl 32 l r :=
  @fun_sp Tryz.prog gl drD 32 Tryz.f32 a32 Tryz.func32 m32 (dok _) l r hl hi h
theorem h32 {d : Nat} {I : In} {O : Out} (hl : I.vs.length = 1) (h : wpA (SpH Tryz.prog gl) c32 (postH d [.t 2] O) (inSt I)) : SpH Tryz.prog gl 32 d I O :=
  @fun_spH Tryz.prog gl drD 32 Tryz.f32 a32 Tryz.func32 m32 (dok _) d I O hl h
/-- firebell/firebellref18.Right -/
def c33 : AC :=
 (.sq (.rg [.bx 1 (.s 0),
   .mv 2 (.c (.bool false))])
  (.sq (.rg [.fa 3 (.s 1) 2,
   .lds 4 (.s 3),
   .bi 5 .geq (.s 4) (.c (.int .i64 1)),
   .mv 6 (.s 5),
   .gd 6 true 7 (.fa 7 (.s 1) 2),
   .gd 6 true 8 (.lds 8 (.s 7)),
   .gd 6 true 9 (.bi 9 .leq (.s 8) (.c (.int .i64 4))),
   .pk 10 (.s 6) (.s 9) (.c (.bool false)),
   .mv 11 (.s 10),
   .gd 11 true 12 (.fa 12 (.s 1) 0),
   .gd 11 true 13 (.lds 13 (.s 12)),
   .gd 11 true 14 (.cl 14 47 [(.s 13)]),
   .pk 15 (.s 11) (.s 14) (.c (.bool false)),
   .mv 16 (.s 15),
   .gd 16 true 17 (.fa 17 (.s 1) 1),
   .gd 16 true 18 (.lds 18 (.s 17)),
   .gd 16 true 19 (.bi 19 .eql (.s 18) (.c (.str []))),
   .gd 16 true 20 (.mv 20 (.s 19)),
   .gd 20 false 21 (.fa 21 (.s 1) 1),
   .gd 20 false 22 (.lds 22 (.s 21)),
   .gd 20 false 23 (.cl 23 47 [(.s 22)]),
   .gd 16 true 24 (.pk 24 (.s 20) (.c (.bool true)) (.s 23)),
   .pk 25 (.s 16) (.s 24) (.c (.bool false)),
   .mv 2 (.s 25)])
  .rt))
def a33 : AF := ⟨c33, [.t 2], 1, 26⟩
theorem m33 : mF Tryz.prog gl drD Tryz.f33 a33 = true := by kernel_rfl
theorem s33 {l : List AV} {r : AV} (hl : l.length = 1) (hi : idsL l = []) (h : wpA (SpH Tryz.prog gl) c33 (postA [.t 2] r) ⟨initE 0 l, [], []⟩) : Sp Tryz.prog gl 33 l r :=
  @fun_sp Tryz.prog gl drD 33 Tryz.f33 a33 Tryz.func33 m33 (dok _) l r hl hi h
theorem h33 {d : Nat} {I : In} {O : Out} (hl : I.vs.length = 1) (h : wpA (SpH Tryz.prog gl) c33 (postH d [.t 2] O) (inSt I)) : SpH Tryz.prog gl 33 d I O :=
  @fun_spH Tryz.prog gl drD 33 Tryz.f33 a33 Tryz.func33 m33 (dok _) d I O hl h
/-- firebell/firebellref18.Line -/
def c34 : AC :=
 (.sq (.rg [.bx 1 (.s 0),
   .mv 2 (.c (.str []))])
  (.sq (.rd [[], [], [], [], [], [], [], [], [], []] [.cl 4 96 [],
   .fa 5 (.s 1) 2,
   .lds 6 (.s 5),
   .ia 7 1 (.s 4) (.s 6),
   .lds 8 (.s 7),
   .bi 9 .add (.s 8) (.c (.str [32])),
   .fa 10 (.s 1) 0,
   .lds 11 (.s 10),
   .bi 12 .add (.s 9) (.s 11),
   .mv 3 (.s 12)])
  (.sq (.sq (.rg [.fa 13 (.s 1) 1,
   .lds 14 (.s 13),
   .bi 15 .neq (.s 14) (.c (.str []))])
  (.cd (.s 15) (.rg [.mv 16 (.s 3),
   .bi 17 .add (.s 16) (.c (.str [32])),
   .fa 18 (.s 1) 1,
   .lds 19 (.s 18),
   .bi 20 .add (.s 17) (.s 19),
   .mv 3 (.s 20)]) .sk))
  (.sq (.rg [.mv 21 (.s 3),
   .bi 22 .add (.s 21) (.c (.str [10])),
   .mv 2 (.s 22)])
  .rt))))
def a34 : AF := ⟨c34, [.t 2], 1, 23⟩
theorem m34 : mF Tryz.prog gl drD Tryz.f34 a34 = true := by kernel_rfl
theorem s34 {l : List AV} {r : AV} (hl : l.length = 1) (hi : idsL l = []) (h : wpA (SpH Tryz.prog gl) c34 (postA [.t 2] r) ⟨initE 0 l, [], []⟩) : Sp Tryz.prog gl 34 l r :=
  @fun_sp Tryz.prog gl drD 34 Tryz.f34 a34 Tryz.func34 m34 (dok _) l r hl hi h
theorem h34 {d : Nat} {I : In} {O : Out} (hl : I.vs.length = 1) (h : wpA (SpH Tryz.prog gl) c34 (postH d [.t 2] O) (inSt I)) : SpH Tryz.prog gl 34 d I O :=
  @fun_spH Tryz.prog gl drD 34 Tryz.f34 a34 Tryz.func34 m34 (dok _) d I O hl h
/-- firebell/change.Print -/
def c35 : AC :=
 (.sq (.rg [.mv 2 (.c (.str [])),
   .mv 3 (.c (.int .i64 0))])
  (.sq (.rg [.alT 4 146 0 [.nilp, .nils]])
  (.sq (.sq (.rg [.mv 7 (.s 0),
   .ln 8 (.s 7),
   .mv 9 (.c (.int .i64 0))])
  (.bl 0 (.lp (.sq (.rg [.bi 10 .lss (.s 9) (.s 8)])
  (.sq (.cd (.s 10) .sk (.ex 0))
  (.sq (.bl 1 (.sq (.rg [.ia 11 3 (.s 7) (.s 9),
   .lda 12 3 (.s 11),
   .al 6 [(.str []), (.str []), (.int .i64 0)],
   .st 3 (.s 6) (.s 12)])
  (.sq (.sq (.rg [.lda 13 3 (.s 6),
   .cl 14 97 [(.s 13)],
   .un 15 .not (.s 14)])
  (.cd (.s 15) (.sq (.rg [.mv 2 (.c (.str [])),
   .mv 3 (.c (.int .i64 6))])
  .rt) .sk))
  (.sq (.rd [[], [], [], [], [], [], [], []] [.fa 16 (.s 6) 2,
   .lds 17 (.s 16),
   .cl 18 99 [(.s 17)],
   .bi 19 .add (.s 18) (.c (.str [32])),
   .fa 20 (.s 6) 0,
   .lds 21 (.s 20),
   .bi 22 .add (.s 19) (.s 21),
   .ce 23 98 [(.s 4), (.s 22)]])
  (.sq (.sq (.rg [.fa 24 (.s 6) 1,
   .lds 25 (.s 24),
   .bi 26 .neq (.s 25) (.c (.str []))])
  (.cd (.s 26) (.rg [.fa 27 (.s 6) 1,
   .lds 28 (.s 27),
   .bi 29 .add (.c (.str [32])) (.s 28),
   .ce 30 98 [(.s 4), (.s 29)]]) .sk))
  (.rg [.ce 31 100 [(.s 4), (.c (.int .u8 10))]]))))))
  (.rg [.bi 32 .add (.s 9) (.c (.int .i64 1)),
   .mv 9 (.s 32)])))))))
  (.sq (.rg [.ce 33 80 [(.s 4)],
   .mv 2 (.s 33),
   .mv 3 (.c (.int .i64 0))])
  .rt))))
def a35 : AF := ⟨c35, [.t 2, .t 3], 1, 34⟩
theorem m35 : mF Tryz.prog gl drD Tryz.f35 a35 = true := by kernel_rfl
theorem s35 {l : List AV} {r : AV} (hl : l.length = 1) (hi : idsL l = []) (h : wpA (SpH Tryz.prog gl) c35 (postA [.t 2, .t 3] r) ⟨initE 0 l, [], []⟩) : Sp Tryz.prog gl 35 l r :=
  @fun_sp Tryz.prog gl drD 35 Tryz.f35 a35 Tryz.func35 m35 (dok _) l r hl hi h
theorem h35 {d : Nat} {I : In} {O : Out} (hl : I.vs.length = 1) (h : wpA (SpH Tryz.prog gl) c35 (postH d [.t 2, .t 3] O) (inSt I)) : SpH Tryz.prog gl 35 d I O :=
  @fun_spH Tryz.prog gl drD 35 Tryz.f35 a35 Tryz.func35 m35 (dok _) d I O hl h
/-- firebell/change.Tally -/
def c36 : AC :=
 (.sq (.rg [.al 2 [(.int .i64 0), (.int .i64 0), (.int .i64 0), (.int .i64 0)]])
  (.sq (.rg [.al 3 [(.int .i64 0), (.int .i64 0), (.int .i64 0), (.int .i64 0)]])
  (.sq (.sq (.rg [.mv 6 (.s 0),
   .ln 7 (.s 6),
   .mv 8 (.c (.int .i64 0))])
  (.bl 0 (.lp (.sq (.rg [.bi 9 .lss (.s 8) (.s 7)])
  (.sq (.cd (.s 9) .sk (.ex 0))
  (.sq (.bl 1 (.sq (.rg [.ia 10 3 (.s 6) (.s 8),
   .lda 11 3 (.s 10),
   .al 5 [(.str []), (.str []), (.int .i64 0)],
   .st 3 (.s 5) (.s 11)])
  (.sq (.rg [.fa 12 (.s 5) 2,
   .lds 13 (.s 12),
   .cl 14 99 [(.s 13)],
   .bi 15 .neq (.s 14) (.c (.str []))])
  (.cd (.s 15) (.rg [.fa 16 (.s 5) 2,
   .lds 17 (.s 16),
   .bi 18 .sub (.s 17) (.c (.int .i64 1)),
   .iaa 19 1 4 (.s 3) (.s 18),
   .lds 20 (.s 19),
   .bi 21 .add (.s 20) (.c (.int .i64 1)),
   .iaa 22 1 4 (.s 3) (.s 18),
   .st 1 (.s 22) (.s 21)]) .sk))))
  (.rg [.bi 23 .add (.s 8) (.c (.int .i64 1)),
   .mv 8 (.s 23)])))))))
  (.sq (.rg [.lda 24 4 (.s 3),
   .st 4 (.s 2) (.s 24)])
  .rt))))
def a36 : AF := ⟨c36, [.ca 2 4], 1, 25⟩
theorem m36 : mF Tryz.prog gl drD Tryz.f36 a36 = true := by kernel_rfl
theorem s36 {l : List AV} {r : AV} (hl : l.length = 1) (hi : idsL l = []) (h : wpA (SpH Tryz.prog gl) c36 (postA [.ca 2 4] r) ⟨initE 0 l, [], []⟩) : Sp Tryz.prog gl 36 l r :=
  @fun_sp Tryz.prog gl drD 36 Tryz.f36 a36 Tryz.func36 m36 (dok _) l r hl hi h
theorem h36 {d : Nat} {I : In} {O : Out} (hl : I.vs.length = 1) (h : wpA (SpH Tryz.prog gl) c36 (postH d [.ca 2 4] O) (inSt I)) : SpH Tryz.prog gl 36 d I O :=
  @fun_spH Tryz.prog gl drD 36 Tryz.f36 a36 Tryz.func36 m36 (dok _) d I O hl h
/-- firebell/change.Read -/
def c37 : AC :=
 (.sq (.rg [.mv 2 (.c .nils),
   .mv 3 (.c (.int .i64 0))])
  (.sq (.rg [.mv 4 (.c .nils)])
  (.sq (.bl 0 (.lp (.sq (.sq (.rg [.mv 10 (.s 0),
   .bi 11 .neq (.s 10) (.c (.str []))])
  (.cd (.s 11) .sk (.ex 0)))
  (.bl 1 (.sq (.rg [.mv 13 (.s 0),
   .cl 14 101 [(.s 13), (.c (.str [10]))],
   .mv 12 (.s 14),
   .exq 15 (.s 12) 0,
   .exq 16 (.s 12) 1,
   .exq 17 (.s 12) 2,
   .mv 5 (.s 15),
   .mv 6 (.s 16),
   .mv 7 (.s 17)])
  (.sq (.rg [.mv 19 (.s 5),
   .cl 20 102 [(.s 19)],
   .mv 18 (.s 20),
   .exq 21 (.s 18) 0,
   .exq 22 (.s 18) 1,
   .al 8 [(.str []), (.str []), (.int .i64 0)],
   .st 3 (.s 8) (.s 21),
   .mv 9 (.s 22)])
  (.sq (.sq (.rg [.mv 23 (.s 9),
   .un 24 .not (.s 23),
   .mv 25 (.s 24),
   .gd 25 false 26 (.mv 26 (.s 7)),
   .gd 25 false 27 (.un 27 .not (.s 26)),
   .pk 28 (.s 25) (.c (.bool true)) (.s 27)])
  (.cd (.s 28) (.sq (.rg [.mv 2 (.c .nils),
   .mv 3 (.c (.int .i64 5))])
  .rt) .sk))
  (.sq (.rg [.mo 29 4,
   .lda 30 3 (.s 8),
   .bs 31 3 [(.s 30)],
   .ap 32 3 40 (.s 29) (.s 31),
   .mo 4 32])
  (.rg [.mv 33 (.s 6),
   .mv 0 (.s 33)])))))))))
  (.sq (.rg [.mv 34 (.s 4),
   .mv 2 (.s 34),
   .mv 3 (.c (.int .i64 0))])
  .rt))))
def a37 : AF := ⟨c37, [.t 2, .t 3], 1, 35⟩
theorem m37 : mF Tryz.prog gl drD Tryz.f37 a37 = true := by kernel_rfl
theorem s37 {l : List AV} {r : AV} (hl : l.length = 1) (hi : idsL l = []) (h : wpA (SpH Tryz.prog gl) c37 (postA [.t 2, .t 3] r) ⟨initE 0 l, [], []⟩) : Sp Tryz.prog gl 37 l r :=
  @fun_sp Tryz.prog gl drD 37 Tryz.f37 a37 Tryz.func37 m37 (dok _) l r hl hi h
theorem h37 {d : Nat} {I : In} {O : Out} (hl : I.vs.length = 1) (h : wpA (SpH Tryz.prog gl) c37 (postH d [.t 2, .t 3] O) (inSt I)) : SpH Tryz.prog gl 37 d I O :=
  @fun_spH Tryz.prog gl drD 37 Tryz.f37 a37 Tryz.func37 m37 (dok _) d I O hl h
/-- firebell/firebellref18.SameTurns -/
def c38 : AC :=
 (.sq (.rg [.mv 4 (.c (.bool false))])
  (.sq (.sq (.rg [.mv 6 (.s 0),
   .ln 7 (.s 6),
   .mv 8 (.s 1),
   .ln 9 (.s 8),
   .bi 10 .neq (.s 7) (.s 9)])
  (.cd (.s 10) (.sq (.rg [.mv 4 (.c (.bool false))])
  .rt) .sk))
  (.sq (.sq (.rg [.mv 5 (.c (.int .i64 0))])
  (.bl 0 (.lp (.sq (.sq (.rg [.mv 11 (.s 5),
   .mv 12 (.s 0),
   .ln 13 (.s 12),
   .bi 14 .lss (.s 11) (.s 13)])
  (.cd (.s 14) .sk (.ex 0)))
  (.sq (.bl 1 (.sq (.rd [[], [], [], [], [], [], [], [], []] [.mv 17 (.s 0),
   .mv 18 (.s 5),
   .ia 19 3 (.s 17) (.s 18),
   .lda 20 3 (.s 19),
   .mv 21 (.s 1),
   .mv 22 (.s 5),
   .ia 23 3 (.s 21) (.s 22),
   .lda 24 3 (.s 23),
   .ea 25 true [.s, .s, .i] (.s 20) (.s 24)])
  (.cd (.s 25) (.sq (.rg [.mv 4 (.c (.bool false))])
  .rt) .sk)))
  (.rg [.mv 15 (.s 5),
   .bi 16 .add (.s 15) (.c (.int .i64 1)),
   .mv 5 (.s 16)]))))))
  (.sq (.rg [.mv 4 (.c (.bool true))])
  .rt))))
def a38 : AF := ⟨c38, [.t 4], 2, 26⟩
theorem m38 : mF Tryz.prog gl drD Tryz.f38 a38 = true := by kernel_rfl
theorem s38 {l : List AV} {r : AV} (hl : l.length = 2) (hi : idsL l = []) (h : wpA (SpH Tryz.prog gl) c38 (postA [.t 4] r) ⟨initE 0 l, [], []⟩) : Sp Tryz.prog gl 38 l r :=
  @fun_sp Tryz.prog gl drD 38 Tryz.f38 a38 Tryz.func38 m38 (dok _) l r hl hi h
theorem h38 {d : Nat} {I : In} {O : Out} (hl : I.vs.length = 2) (h : wpA (SpH Tryz.prog gl) c38 (postH d [.t 4] O) (inSt I)) : SpH Tryz.prog gl 38 d I O :=
  @fun_spH Tryz.prog gl drD 38 Tryz.f38 a38 Tryz.func38 m38 (dok _) d I O hl h
/-- firebell/firebellref18.Read -/
def c39 : AC :=
 (.sq (.rg [.mv 2 (.c .nils),
   .mv 3 (.c (.bool false))])
  (.sq (.rg [.bs 13 3 [],
   .mo 4 13])
  (.sq (.rg [.mv 5 (.c (.int .i64 0))])
  (.sq (.bl 0 (.lp (.sq (.sq (.rg [.mv 14 (.s 5),
   .mv 15 (.s 0),
   .lns 16 (.s 15),
   .bi 17 .lss (.s 14) (.s 16)])
  (.cd (.s 17) .sk (.ex 0)))
  (.bl 1 (.sq (.rg [.bs 18 1 [],
   .mo 6 18])
  (.sq (.rg [.mv 19 (.s 5),
   .mv 7 (.s 19)])
  (.sq (.sq (.rg [.mv 8 (.c (.int .i64 0))])
  (.bl 2 (.lp (.sq (.sq (.rg [.mv 20 (.s 8),
   .bi 21 .lss (.s 20) (.c (.int .i64 4))])
  (.cd (.s 21) .sk (.ex 2)))
  (.sq (.bl 3 (.sq (.rg [.mv 25 (.s 0),
   .mv 26 (.s 7),
   .cl 27 103 [(.s 25), (.s 26)],
   .mv 24 (.s 27),
   .exq 28 (.s 24) 0,
   .exq 29 (.s 24) 1,
   .mv 9 (.s 28),
   .mv 10 (.s 29)])
  (.sq (.rg [.mo 30 6,
   .mv 31 (.s 9),
   .bs 32 1 [(.s 31)],
   .ap 33 1 16 (.s 30) (.s 32),
   .mo 6 33])
  (.sq (.rg [.mv 34 (.s 10),
   .mv 7 (.s 34)])
  (.sq (.sq (.rg [.mv 35 (.s 7),
   .mv 36 (.s 0),
   .lns 37 (.s 36),
   .bi 38 .geq (.s 35) (.s 37),
   .mv 39 (.s 38),
   .gd 39 false 40 (.mv 40 (.s 0)),
   .gd 39 false 41 (.mv 41 (.s 7)),
   .gd 39 false 42 (.ixs 42 (.s 40) (.s 41)),
   .gd 39 false 43 (.bi 43 .eql (.s 42) (.c (.int .u8 10))),
   .pk 44 (.s 39) (.c (.bool true)) (.s 43)])
  (.cd (.s 44) (.ex 2) .sk))
  (.rg [.mv 45 (.s 7),
   .bi 46 .add (.s 45) (.c (.int .i64 1)),
   .mv 7 (.s 46)]))))))
  (.rg [.mv 22 (.s 8),
   .bi 23 .add (.s 22) (.c (.int .i64 1)),
   .mv 8 (.s 23)]))))))
  (.sq (.rg [.bd 47 [(.str []), (.str []), (.int .i64 0)] [],
   .al 11 [(.str []), (.str []), (.int .i64 0)],
   .st 3 (.s 11) (.s 47)])
  (.sq (.sq (.rg [.mv 12 (.c (.int .i64 1))])
  (.bl 4 (.lp (.sq (.sq (.rg [.mv 48 (.s 12),
   .bi 49 .leq (.s 48) (.c (.int .i64 4))])
  (.cd (.s 49) .sk (.ex 4)))
  (.sq (.bl 5 (.sq (.rd [[], [], [], [], [], [], [], []] [.mv 52 (.s 6),
   .ia 53 1 (.s 52) (.c (.int .i64 0)),
   .lds 54 (.s 53),
   .cl 55 96 [],
   .mv 56 (.s 12),
   .ia 57 1 (.s 55) (.s 56),
   .lds 58 (.s 57),
   .bi 59 .eql (.s 54) (.s 58)])
  (.cd (.s 59) (.rg [.mv 60 (.s 12),
   .fa 61 (.s 11) 2,
   .st 1 (.s 61) (.s 60)]) .sk)))
  (.rg [.mv 50 (.s 12),
   .bi 51 .add (.s 50) (.c (.int .i64 1)),
   .mv 12 (.s 51)]))))))
  (.sq (.sq (.rg [.mv 62 (.s 6),
   .ln 63 (.s 62),
   .bi 64 .gtr (.s 63) (.c (.int .i64 1))])
  (.cd (.s 64) (.rg [.mv 65 (.s 6),
   .ia 66 1 (.s 65) (.c (.int .i64 1)),
   .lds 67 (.s 66),
   .fa 68 (.s 11) 0,
   .st 1 (.s 68) (.s 67)]) .sk))
  (.sq (.sq (.rg [.mv 69 (.s 6),
   .ln 70 (.s 69),
   .bi 71 .gtr (.s 70) (.c (.int .i64 2))])
  (.cd (.s 71) (.rg [.mv 72 (.s 6),
   .ia 73 1 (.s 72) (.c (.int .i64 2)),
   .lds 74 (.s 73),
   .fa 75 (.s 11) 1,
   .st 1 (.s 75) (.s 74)]) .sk))
  (.sq (.sq (.rd [[], [], [], [], [], [], [], [], [], [], [], [], [], [], [], [], [], [], []] [.mv 76 (.s 7),
   .mv 77 (.s 0),
   .lns 78 (.s 77),
   .bi 79 .geq (.s 76) (.s 78),
   .mv 80 (.s 79),
   .gd 80 false 81 (.lda 81 3 (.s 11)),
   .gd 80 false 82 (.cl 82 33 [(.s 81)]),
   .gd 80 false 83 (.un 83 .not (.s 82)),
   .pk 84 (.s 80) (.c (.bool true)) (.s 83),
   .mv 85 (.s 84),
   .gd 85 false 86 (.lda 86 3 (.s 11)),
   .gd 85 false 87 (.cl 87 34 [(.s 86)]),
   .gd 85 false 88 (.mv 88 (.s 0)),
   .gd 85 false 89 (.mv 89 (.s 5)),
   .gd 85 false 90 (.mv 90 (.s 7)),
   .gd 85 false 91 (.bi 91 .add (.s 90) (.c (.int .i64 1))),
   .gd 85 false 92 (.sls 92 (.s 88) (some (.s 89)) (some (.s 91))),
   .gd 85 false 93 (.bi 93 .neq (.s 87) (.s 92)),
   .pk 94 (.s 85) (.c (.bool true)) (.s 93)])
  (.cd (.s 94) (.sq (.rg [.mv 2 (.c .nils),
   .mv 3 (.c (.bool false))])
  .rt) .sk))
  (.sq (.rg [.mo 95 4,
   .lda 96 3 (.s 11),
   .bs 97 3 [(.s 96)],
   .ap 98 3 40 (.s 95) (.s 97),
   .mo 4 98])
  (.rg [.mv 99 (.s 7),
   .bi 100 .add (.s 99) (.c (.int .i64 1)),
   .mv 5 (.s 100)]))))))))))))))
  (.sq (.rg [.mv 101 (.s 4),
   .mv 2 (.s 101),
   .mv 3 (.c (.bool true))])
  .rt)))))
def a39 : AF := ⟨c39, [.t 2, .t 3], 1, 102⟩
theorem m39 : mF Tryz.prog gl drD Tryz.f39 a39 = true := by kernel_rfl
theorem s39 {l : List AV} {r : AV} (hl : l.length = 1) (hi : idsL l = []) (h : wpA (SpH Tryz.prog gl) c39 (postA [.t 2, .t 3] r) ⟨initE 0 l, [], []⟩) : Sp Tryz.prog gl 39 l r :=
  @fun_sp Tryz.prog gl drD 39 Tryz.f39 a39 Tryz.func39 m39 (dok _) l r hl hi h
theorem h39 {d : Nat} {I : In} {O : Out} (hl : I.vs.length = 1) (h : wpA (SpH Tryz.prog gl) c39 (postH d [.t 2, .t 3] O) (inSt I)) : SpH Tryz.prog gl 39 d I O :=
  @fun_spH Tryz.prog gl drD 39 Tryz.f39 a39 Tryz.func39 m39 (dok _) d I O hl h
/-- firebell/show.Print -/
def c40 : AC :=
 (.sq (.rg [.bx 1 (.s 0),
   .mv 2 (.c (.str [])),
   .mv 3 (.c (.int .i64 0))])
  (.sq (.rg [.lda 7 6 (.s 1),
   .cl 8 104 [(.s 7)],
   .mv 6 (.s 8),
   .exq 9 (.s 6) 0,
   .exq 10 (.s 6) 1,
   .mv 4 (.s 9),
   .mv 5 (.s 10)])
  (.sq (.sq (.rg [.mv 11 (.s 5),
   .bi 12 .neq (.s 11) (.c (.int .i64 0))])
  (.cd (.s 12) (.sq (.rg [.mv 13 (.s 5),
   .mv 2 (.c (.str [])),
   .mv 3 (.s 13)])
  .rt) .sk))
  (.sq (.rg [.mv 14 (.s 4),
   .cl 15 105 [(.s 14)],
   .exq 16 (.s 15) 0,
   .exq 17 (.s 15) 1,
   .mv 2 (.s 16),
   .mv 3 (.s 17)])
  .rt))))
def a40 : AF := ⟨c40, [.t 2, .t 3], 1, 18⟩
theorem m40 : mF Tryz.prog gl drD Tryz.f40 a40 = true := by kernel_rfl
theorem s40 {l : List AV} {r : AV} (hl : l.length = 1) (hi : idsL l = []) (h : wpA (SpH Tryz.prog gl) c40 (postA [.t 2, .t 3] r) ⟨initE 0 l, [], []⟩) : Sp Tryz.prog gl 40 l r :=
  @fun_sp Tryz.prog gl drD 40 Tryz.f40 a40 Tryz.func40 m40 (dok _) l r hl hi h
theorem h40 {d : Nat} {I : In} {O : Out} (hl : I.vs.length = 1) (h : wpA (SpH Tryz.prog gl) c40 (postH d [.t 2, .t 3] O) (inSt I)) : SpH Tryz.prog gl 40 d I O :=
  @fun_spH Tryz.prog gl drD 40 Tryz.f40 a40 Tryz.func40 m40 (dok _) d I O hl h
/-- firebell/text.Name -/
def c41 : AC :=
 (.sq (.rg [.mv 2 (.c (.bool false))])
  (.sq (.rg [.mv 3 (.c (.int .i64 0))])
  (.sq (.rg [.mv 4 (.c (.int .i32 32))])
  (.sq (.sq (.rg [.mv 8 (.s 0),
   .rs 9 (.s 8)])
  (.bl 0 (.lp (.sq (.rg [.nx 10 (.s 9),
   .exq 11 (.s 10) 0])
  (.sq (.cd (.s 11) .sk (.ex 0))
  (.bl 1 (.sq (.rg [.exq 12 (.s 10) 1,
   .exq 13 (.s 10) 2,
   .mv 5 (.s 12),
   .mv 6 (.s 13)])
  (.sq (.rg [.mv 14 (.s 6),
   .cl 15 106 [(.s 14)],
   .mv 16 (.s 15),
   .gd 16 false 17 (.mv 17 (.s 5)),
   .gd 16 false 18 (.bi 18 .gtr (.s 17) (.c (.int .i64 0))),
   .gd 16 false 19 (.mv 19 (.s 18)),
   .gd 19 true 20 (.mv 20 (.s 6)),
   .gd 19 true 21 (.cl 21 107 [(.s 20)]),
   .gd 19 true 22 (.mv 22 (.s 21)),
   .gd 22 false 23 (.mv 23 (.s 6)),
   .gd 22 false 24 (.bi 24 .eql (.s 23) (.c (.int .i32 95))),
   .gd 19 true 25 (.pk 25 (.s 22) (.c (.bool true)) (.s 24)),
   .gd 19 true 26 (.mv 26 (.s 25)),
   .gd 26 false 27 (.mv 27 (.s 6)),
   .gd 26 false 28 (.bi 28 .eql (.s 27) (.c (.int .i32 45))),
   .gd 19 true 29 (.pk 29 (.s 26) (.c (.bool true)) (.s 28)),
   .gd 16 false 30 (.pk 30 (.s 19) (.s 29) (.c (.bool false))),
   .pk 31 (.s 16) (.c (.bool true)) (.s 30),
   .mv 7 (.s 31)])
  (.sq (.sq (.rg [.mv 32 (.s 7),
   .un 33 .not (.s 32)])
  (.cd (.s 33) (.sq (.rg [.mv 2 (.c (.bool false))])
  .rt) .sk))
  (.rg [.mv 34 (.s 3),
   .bi 35 .add (.s 34) (.c (.int .i64 1)),
   .mv 36 (.s 6),
   .mv 3 (.s 35),
   .mv 4 (.s 36)]))))))))))
  (.sq (.rg [.mv 37 (.s 3),
   .bi 38 .gtr (.s 37) (.c (.int .i64 0)),
   .mv 39 (.s 38),
   .gd 39 true 40 (.mv 40 (.s 3)),
   .gd 39 true 41 (.bi 41 .leq (.s 40) (.c (.int .i64 24))),
   .pk 42 (.s 39) (.s 41) (.c (.bool false)),
   .mv 43 (.s 42),
   .gd 43 true 44 (.mv 44 (.s 4)),
   .gd 43 true 45 (.cl 45 106 [(.s 44)]),
   .gd 43 true 46 (.mv 46 (.s 45)),
   .gd 46 false 47 (.mv 47 (.s 4)),
   .gd 46 false 48 (.cl 48 107 [(.s 47)]),
   .gd 43 true 49 (.pk 49 (.s 46) (.c (.bool true)) (.s 48)),
   .pk 50 (.s 43) (.s 49) (.c (.bool false)),
   .mv 2 (.s 50)])
  .rt)))))
def a41 : AF := ⟨c41, [.t 2], 1, 51⟩
theorem m41 : mF Tryz.prog gl drD Tryz.f41 a41 = true := by kernel_rfl
theorem s41 {l : List AV} {r : AV} (hl : l.length = 1) (hi : idsL l = []) (h : wpA (SpH Tryz.prog gl) c41 (postA [.t 2] r) ⟨initE 0 l, [], []⟩) : Sp Tryz.prog gl 41 l r :=
  @fun_sp Tryz.prog gl drD 41 Tryz.f41 a41 Tryz.func41 m41 (dok _) l r hl hi h
theorem h41 {d : Nat} {I : In} {O : Out} (hl : I.vs.length = 1) (h : wpA (SpH Tryz.prog gl) c41 (postH d [.t 2] O) (inSt I)) : SpH Tryz.prog gl 41 d I O :=
  @fun_spH Tryz.prog gl drD 41 Tryz.f41 a41 Tryz.func41 m41 (dok _) d I O hl h
/-- firebell/show.between[uint32] -/
def c42 : AC :=
 (.sq (.rg [.mv 6 (.c (.bool false))])
  (.sq (.rg [.mv 7 (.s 0),
   .mv 8 (.s 1),
   .bi 9 .geq (.s 7) (.s 8),
   .mv 10 (.s 9),
   .gd 10 true 11 (.mv 11 (.s 0)),
   .gd 10 true 12 (.mv 12 (.s 2)),
   .gd 10 true 13 (.bi 13 .leq (.s 11) (.s 12)),
   .pk 14 (.s 10) (.s 13) (.c (.bool false)),
   .mv 6 (.s 14)])
  .rt))
def a42 : AF := ⟨c42, [.t 6], 3, 15⟩
theorem m42 : mF Tryz.prog gl drD Tryz.f42 a42 = true := by kernel_rfl
theorem s42 {l : List AV} {r : AV} (hl : l.length = 3) (hi : idsL l = []) (h : wpA (SpH Tryz.prog gl) c42 (postA [.t 6] r) ⟨initE 0 l, [], []⟩) : Sp Tryz.prog gl 42 l r :=
  @fun_sp Tryz.prog gl drD 42 Tryz.f42 a42 Tryz.func42 m42 (dok _) l r hl hi h
theorem h42 {d : Nat} {I : In} {O : Out} (hl : I.vs.length = 3) (h : wpA (SpH Tryz.prog gl) c42 (postH d [.t 6] O) (inSt I)) : SpH Tryz.prog gl 42 d I O :=
  @fun_spH Tryz.prog gl drD 42 Tryz.f42 a42 Tryz.func42 m42 (dok _) d I O hl h
/-- firebell/show.between[int64] -/
def c43 : AC :=
 (.sq (.rg [.mv 6 (.c (.bool false))])
  (.sq (.rg [.mv 7 (.s 0),
   .mv 8 (.s 1),
   .bi 9 .geq (.s 7) (.s 8),
   .mv 10 (.s 9),
   .gd 10 true 11 (.mv 11 (.s 0)),
   .gd 10 true 12 (.mv 12 (.s 2)),
   .gd 10 true 13 (.bi 13 .leq (.s 11) (.s 12)),
   .pk 14 (.s 10) (.s 13) (.c (.bool false)),
   .mv 6 (.s 14)])
  .rt))
def a43 : AF := ⟨c43, [.t 6], 3, 15⟩
theorem m43 : mF Tryz.prog gl drD Tryz.f43 a43 = true := by kernel_rfl
theorem s43 {l : List AV} {r : AV} (hl : l.length = 3) (hi : idsL l = []) (h : wpA (SpH Tryz.prog gl) c43 (postA [.t 6] r) ⟨initE 0 l, [], []⟩) : Sp Tryz.prog gl 43 l r :=
  @fun_sp Tryz.prog gl drD 43 Tryz.f43 a43 Tryz.func43 m43 (dok _) l r hl hi h
theorem h43 {d : Nat} {I : In} {O : Out} (hl : I.vs.length = 3) (h : wpA (SpH Tryz.prog gl) c43 (postH d [.t 6] O) (inSt I)) : SpH Tryz.prog gl 43 d I O :=
  @fun_spH Tryz.prog gl drD 43 Tryz.f43 a43 Tryz.func43 m43 (dok _) d I O hl h
/-- firebell/show.between[int] -/
def c44 : AC :=
 (.sq (.rg [.mv 6 (.c (.bool false))])
  (.sq (.rg [.mv 7 (.s 0),
   .mv 8 (.s 1),
   .bi 9 .geq (.s 7) (.s 8),
   .mv 10 (.s 9),
   .gd 10 true 11 (.mv 11 (.s 0)),
   .gd 10 true 12 (.mv 12 (.s 2)),
   .gd 10 true 13 (.bi 13 .leq (.s 11) (.s 12)),
   .pk 14 (.s 10) (.s 13) (.c (.bool false)),
   .mv 6 (.s 14)])
  .rt))
def a44 : AF := ⟨c44, [.t 6], 3, 15⟩
theorem m44 : mF Tryz.prog gl drD Tryz.f44 a44 = true := by kernel_rfl
theorem s44 {l : List AV} {r : AV} (hl : l.length = 3) (hi : idsL l = []) (h : wpA (SpH Tryz.prog gl) c44 (postA [.t 6] r) ⟨initE 0 l, [], []⟩) : Sp Tryz.prog gl 44 l r :=
  @fun_sp Tryz.prog gl drD 44 Tryz.f44 a44 Tryz.func44 m44 (dok _) l r hl hi h
theorem h44 {d : Nat} {I : In} {O : Out} (hl : I.vs.length = 3) (h : wpA (SpH Tryz.prog gl) c44 (postH d [.t 6] O) (inSt I)) : SpH Tryz.prog gl 44 d I O :=
  @fun_spH Tryz.prog gl drD 44 Tryz.f44 a44 Tryz.func44 m44 (dok _) d I O hl h
/-- firebell/show.labels -/
def c45 : AC :=
 (.sq (.rg [.mv 2 (.c (.bool false))])
  (.sq (.sq (.rg [.mv 5 (.s 0),
   .ln 6 (.s 5),
   .mv 7 (.c (.int .i64 0))])
  (.bl 0 (.lp (.sq (.rg [.bi 8 .lss (.s 7) (.s 6)])
  (.sq (.cd (.s 8) .sk (.ex 0))
  (.sq (.bl 1 (.sq (.rg [.ia 9 2 (.s 5) (.s 7),
   .lda 10 2 (.s 9),
   .al 4 [(.str []), (.str [])],
   .st 2 (.s 4) (.s 10)])
  (.sq (.rg [.fa 11 (.s 4) 0,
   .lds 12 (.s 11),
   .cl 13 41 [(.s 12)],
   .un 14 .not (.s 13),
   .mv 15 (.s 14),
   .gd 15 false 16 (.fa 16 (.s 4) 1),
   .gd 15 false 17 (.lds 17 (.s 16)),
   .gd 15 false 18 (.cl 18 108 [(.s 17)]),
   .gd 15 false 19 (.un 19 .not (.s 18)),
   .pk 20 (.s 15) (.c (.bool true)) (.s 19),
   .mv 21 (.s 20),
   .gd 21 false 22 (.fa 22 (.s 4) 1),
   .gd 21 false 23 (.lds 23 (.s 22)),
   .gd 21 false 24 (.cl 24 109 [(.s 23)]),
   .gd 21 false 25 (.bi 25 .gtr (.s 24) (.c (.int .i64 120))),
   .pk 26 (.s 21) (.c (.bool true)) (.s 25)])
  (.cd (.s 26) (.sq (.rg [.mv 2 (.c (.bool false))])
  .rt) .sk))))
  (.rg [.bi 27 .add (.s 7) (.c (.int .i64 1)),
   .mv 7 (.s 27)])))))))
  (.sq (.rg [.mv 28 (.s 0),
   .ln 29 (.s 28),
   .bi 30 .leq (.s 29) (.c (.int .i64 4)),
   .mv 31 (.s 30),
   .gd 31 true 32 (.mv 32 (.s 0)),
   .gd 31 true 33 (.ce 33 110 [(.s 32), (.c (.fn 111 []))]),
   .pk 34 (.s 31) (.s 33) (.c (.bool false)),
   .mv 2 (.s 34)])
  .rt)))
def a45 : AF := ⟨c45, [.t 2], 1, 35⟩
theorem m45 : mF Tryz.prog gl drD Tryz.f45 a45 = true := by kernel_rfl
theorem s45 {l : List AV} {r : AV} (hl : l.length = 1) (hi : idsL l = []) (h : wpA (SpH Tryz.prog gl) c45 (postA [.t 2] r) ⟨initE 0 l, [], []⟩) : Sp Tryz.prog gl 45 l r :=
  @fun_sp Tryz.prog gl drD 45 Tryz.f45 a45 Tryz.func45 m45 (dok _) l r hl hi h
theorem h45 {d : Nat} {I : In} {O : Out} (hl : I.vs.length = 1) (h : wpA (SpH Tryz.prog gl) c45 (postH d [.t 2] O) (inSt I)) : SpH Tryz.prog gl 45 d I O :=
  @fun_spH Tryz.prog gl drD 45 Tryz.f45 a45 Tryz.func45 m45 (dok _) d I O hl h
/-- firebell/show.rules -/
def c46 : AC :=
 (.sq (.rg [.mv 4 (.c (.bool false))])
  (.sq (.sq (.rg [.mv 7 (.s 0),
   .ln 8 (.s 7),
   .mv 9 (.c (.int .i64 0))])
  (.bl 0 (.lp (.sq (.rg [.bi 10 .lss (.s 9) (.s 8)])
  (.sq (.cd (.s 10) .sk (.ex 0))
  (.sq (.bl 1 (.sq (.rg [.ia 11 7 (.s 7) (.s 9),
   .lda 12 7 (.s 11),
   .al 6 [(.str []), (.bool false), (.int .i64 0), (.int .i64 0), (.int .u64 0), (.int .i64 0), (.int .i64 0)],
   .st 7 (.s 6) (.s 12)])
  (.sq (.rg [.lda 13 7 (.s 6),
   .mv 14 (.s 1),
   .cl 15 13 [(.s 13), (.s 14)],
   .un 16 .not (.s 15)])
  (.cd (.s 16) (.sq (.rg [.mv 4 (.c (.bool false))])
  .rt) .sk))))
  (.rg [.bi 17 .add (.s 9) (.c (.int .i64 1)),
   .mv 9 (.s 17)])))))))
  (.sq (.rg [.mv 18 (.s 0),
   .ln 19 (.s 18),
   .cl 20 44 [(.s 19), (.c (.int .i64 1)), (.c (.int .i64 4))],
   .mv 21 (.s 20),
   .gd 21 true 22 (.mv 22 (.s 0)),
   .gd 21 true 23 (.ce 23 112 [(.s 22), (.c (.fn 113 []))]),
   .pk 24 (.s 21) (.s 23) (.c (.bool false)),
   .mv 4 (.s 24)])
  .rt)))
def a46 : AF := ⟨c46, [.t 4], 2, 25⟩
theorem m46 : mF Tryz.prog gl drD Tryz.f46 a46 = true := by kernel_rfl
theorem s46 {l : List AV} {r : AV} (hl : l.length = 2) (hi : idsL l = []) (h : wpA (SpH Tryz.prog gl) c46 (postA [.t 4] r) ⟨initE 0 l, [], []⟩) : Sp Tryz.prog gl 46 l r :=
  @fun_sp Tryz.prog gl drD 46 Tryz.f46 a46 Tryz.func46 m46 (dok _) l r hl hi h
theorem h46 {d : Nat} {I : In} {O : Out} (hl : I.vs.length = 2) (h : wpA (SpH Tryz.prog gl) c46 (postH d [.t 4] O) (inSt I)) : SpH Tryz.prog gl 46 d I O :=
  @fun_spH Tryz.prog gl drD 46 Tryz.f46 a46 Tryz.func46 m46 (dok _) d I O hl h
/-- firebell/firebellref06.Name -/
def c47 : AC :=
 (.sq (.rg [.mv 2 (.c (.bool false))])
  (.sq (.rg [.mv 7 (.s 0),
   .cl 8 50 [(.s 7)],
   .mv 3 (.s 8)])
  (.sq (.sq (.rg [.mv 9 (.s 3),
   .ln 10 (.s 9),
   .bi 11 .eql (.s 10) (.c (.int .i64 0)),
   .mv 12 (.s 11),
   .gd 12 false 13 (.mv 13 (.s 3)),
   .gd 12 false 14 (.ln 14 (.s 13)),
   .gd 12 false 15 (.bi 15 .gtr (.s 14) (.c (.int .i64 24))),
   .pk 16 (.s 12) (.c (.bool true)) (.s 15),
   .mv 17 (.s 16),
   .gd 17 false 18 (.mv 18 (.s 3)),
   .gd 17 false 19 (.ia 19 1 (.s 18) (.c (.int .i64 0))),
   .gd 17 false 20 (.lds 20 (.s 19)),
   .gd 17 false 21 (.cl 21 114 [(.s 20)]),
   .gd 17 false 22 (.un 22 .not (.s 21)),
   .pk 23 (.s 17) (.c (.bool true)) (.s 22)])
  (.cd (.s 23) (.sq (.rg [.mv 2 (.c (.bool false))])
  .rt) .sk))
  (.sq (.sq (.rg [.mv 4 (.c (.int .i64 0))])
  (.bl 0 (.lp (.sq (.sq (.rg [.mv 24 (.s 4),
   .mv 25 (.s 3),
   .ln 26 (.s 25),
   .bi 27 .lss (.s 24) (.s 26)])
  (.cd (.s 27) .sk (.ex 0)))
  (.sq (.bl 1 (.sq (.rg [.mv 30 (.s 4),
   .mv 31 (.s 3),
   .ln 32 (.s 31),
   .bi 33 .sub (.s 32) (.c (.int .i64 1)),
   .bi 34 .eql (.s 30) (.s 33),
   .mv 5 (.s 34)])
  (.sq (.rg [.mv 35 (.s 3),
   .mv 36 (.s 4),
   .ia 37 1 (.s 35) (.s 36),
   .lds 38 (.s 37),
   .bi 39 .geq (.s 38) (.c (.int .i32 48)),
   .mv 40 (.s 39),
   .gd 40 true 41 (.mv 41 (.s 3)),
   .gd 40 true 42 (.mv 42 (.s 4)),
   .gd 40 true 43 (.ia 43 1 (.s 41) (.s 42)),
   .gd 40 true 44 (.lds 44 (.s 43)),
   .gd 40 true 45 (.bi 45 .leq (.s 44) (.c (.int .i32 57))),
   .pk 46 (.s 40) (.s 45) (.c (.bool false)),
   .mv 6 (.s 46)])
  (.sq (.rg [.mv 47 (.s 3),
   .mv 48 (.s 4),
   .ia 49 1 (.s 47) (.s 48),
   .lds 50 (.s 49),
   .cl 51 114 [(.s 50)],
   .un 52 .not (.s 51),
   .mv 53 (.s 52),
   .gd 53 true 54 (.mv 54 (.s 6)),
   .gd 53 true 55 (.un 55 .not (.s 54)),
   .pk 56 (.s 53) (.s 55) (.c (.bool false)),
   .mv 57 (.s 56),
   .gd 57 true 58 (.mv 58 (.s 5)),
   .gd 57 true 59 (.mv 59 (.s 58)),
   .gd 59 false 60 (.mv 60 (.s 3)),
   .gd 59 false 61 (.mv 61 (.s 4)),
   .gd 59 false 62 (.ia 62 1 (.s 60) (.s 61)),
   .gd 59 false 63 (.lds 63 (.s 62)),
   .gd 59 false 64 (.bi 64 .neq (.s 63) (.c (.int .i32 95))),
   .gd 59 false 65 (.mv 65 (.s 64)),
   .gd 65 true 66 (.mv 66 (.s 3)),
   .gd 65 true 67 (.mv 67 (.s 4)),
   .gd 65 true 68 (.ia 68 1 (.s 66) (.s 67)),
   .gd 65 true 69 (.lds 69 (.s 68)),
   .gd 65 true 70 (.bi 70 .neq (.s 69) (.c (.int .i32 45))),
   .gd 59 false 71 (.pk 71 (.s 65) (.s 70) (.c (.bool false))),
   .gd 57 true 72 (.pk 72 (.s 59) (.c (.bool true)) (.s 71)),
   .pk 73 (.s 57) (.s 72) (.c (.bool false))])
  (.cd (.s 73) (.sq (.rg [.mv 2 (.c (.bool false))])
  .rt) .sk)))))
  (.rg [.mv 28 (.s 4),
   .bi 29 .add (.s 28) (.c (.int .i64 1)),
   .mv 4 (.s 29)]))))))
  (.sq (.rg [.mv 2 (.c (.bool true))])
  .rt)))))
def a47 : AF := ⟨c47, [.t 2], 1, 74⟩
theorem m47 : mF Tryz.prog gl drD Tryz.f47 a47 = true := by kernel_rfl
theorem s47 {l : List AV} {r : AV} (hl : l.length = 1) (hi : idsL l = []) (h : wpA (SpH Tryz.prog gl) c47 (postA [.t 2] r) ⟨initE 0 l, [], []⟩) : Sp Tryz.prog gl 47 l r :=
  @fun_sp Tryz.prog gl drD 47 Tryz.f47 a47 Tryz.func47 m47 (dok _) l r hl hi h
theorem h47 {d : Nat} {I : In} {O : Out} (hl : I.vs.length = 1) (h : wpA (SpH Tryz.prog gl) c47 (postH d [.t 2] O) (inSt I)) : SpH Tryz.prog gl 47 d I O :=
  @fun_spH Tryz.prog gl drD 47 Tryz.f47 a47 Tryz.func47 m47 (dok _) d I O hl h
/-- firebell/firebellref06.Good -/
def c49 : AC :=
 (.sq (.rg [.mv 2 (.c (.bool false))])
  (.sq (.rg [.mv 5 (.s 0),
   .cl 6 50 [(.s 5)],
   .mv 3 (.s 6)])
  (.sq (.sq (.rg [.mv 4 (.c (.int .i64 0))])
  (.bl 0 (.lp (.sq (.sq (.rg [.mv 7 (.s 4),
   .mv 8 (.s 3),
   .ln 9 (.s 8),
   .bi 10 .lss (.s 7) (.s 9)])
  (.cd (.s 10) .sk (.ex 0)))
  (.sq (.bl 1 (.sq (.rg [.mv 13 (.s 3),
   .mv 14 (.s 4),
   .ia 15 1 (.s 13) (.s 14),
   .lds 16 (.s 15),
   .bi 17 .lss (.s 16) (.c (.int .i32 0))])
  (.cd (.s 17) (.sq (.rg [.mv 2 (.c (.bool false))])
  .rt) .sk)))
  (.rg [.mv 11 (.s 4),
   .bi 12 .add (.s 11) (.c (.int .i64 1)),
   .mv 4 (.s 12)]))))))
  (.sq (.rg [.mv 2 (.c (.bool true))])
  .rt))))
def a49 : AF := ⟨c49, [.t 2], 1, 18⟩
theorem m49 : mF Tryz.prog gl drD Tryz.f49 a49 = true := by kernel_rfl
theorem s49 {l : List AV} {r : AV} (hl : l.length = 1) (hi : idsL l = []) (h : wpA (SpH Tryz.prog gl) c49 (postA [.t 2] r) ⟨initE 0 l, [], []⟩) : Sp Tryz.prog gl 49 l r :=
  @fun_sp Tryz.prog gl drD 49 Tryz.f49 a49 Tryz.func49 m49 (dok _) l r hl hi h
theorem h49 {d : Nat} {I : In} {O : Out} (hl : I.vs.length = 1) (h : wpA (SpH Tryz.prog gl) c49 (postH d [.t 2] O) (inSt I)) : SpH Tryz.prog gl 49 d I O :=
  @fun_spH Tryz.prog gl drD 49 Tryz.f49 a49 Tryz.func49 m49 (dok _) d I O hl h
/-- firebell/firebellref06.Runes -/
def c50 : AC :=
 (.sq (.rg [.mv 2 (.c .nils)])
  (.sq (.rg [.bs 10 1 [],
   .mo 3 10])
  (.sq (.rg [.mv 4 (.c (.int .i64 0))])
  (.sq (.bl 0 (.lp (.sq (.sq (.rg [.mv 11 (.s 4),
   .mv 12 (.s 0),
   .lns 13 (.s 12),
   .bi 14 .lss (.s 11) (.s 13)])
  (.cd (.s 14) .sk (.ex 0)))
  (.bl 1 (.sq (.rg [.mv 15 (.s 0),
   .mv 16 (.s 4),
   .ixs 17 (.s 15) (.s 16),
   .cv 18 .i32 (.s 17),
   .mv 5 (.s 18)])
  (.sq (.rg [.mv 6 (.c (.int .i64 0))])
  (.sq (.rg [.mv 7 (.c (.int .i32 0))])
  (.sq (.bl 2 (.sq (.rg [.mv 20 (.s 5),
   .bi 21 .lss (.s 20) (.c (.int .i32 128)),
   .mv 19 (.s 21)])
  (.cd (.s 19) (.sq (.rg [.mo 22 3,
   .mv 23 (.s 5),
   .bs 24 1 [(.s 23)],
   .ap 25 1 4 (.s 22) (.s 24),
   .mo 3 25])
  (.sq (.rg [.mv 26 (.s 4),
   .bi 27 .add (.s 26) (.c (.int .i64 1)),
   .mv 4 (.s 27)])
  (.ex 1))) (.sq (.rg [.mv 29 (.s 5),
   .bi 30 .geq (.s 29) (.c (.int .i32 192)),
   .mv 31 (.s 30),
   .gd 31 true 32 (.mv 32 (.s 5)),
   .gd 31 true 33 (.bi 33 .lss (.s 32) (.c (.int .i32 224))),
   .pk 34 (.s 31) (.s 33) (.c (.bool false)),
   .mv 28 (.s 34)])
  (.cd (.s 28) (.sq (.rg [.mv 6 (.c (.int .i64 1))])
  (.sq (.rg [.mv 35 (.s 5),
   .bi 36 .sub (.s 35) (.c (.int .i32 192)),
   .mv 5 (.s 36)])
  (.rg [.mv 7 (.c (.int .i32 128))]))) (.sq (.rg [.mv 38 (.s 5),
   .bi 39 .geq (.s 38) (.c (.int .i32 224)),
   .mv 40 (.s 39),
   .gd 40 true 41 (.mv 41 (.s 5)),
   .gd 40 true 42 (.bi 42 .lss (.s 41) (.c (.int .i32 240))),
   .pk 43 (.s 40) (.s 42) (.c (.bool false)),
   .mv 37 (.s 43)])
  (.cd (.s 37) (.sq (.rg [.mv 6 (.c (.int .i64 2))])
  (.sq (.rg [.mv 44 (.s 5),
   .bi 45 .sub (.s 44) (.c (.int .i32 224)),
   .mv 5 (.s 45)])
  (.rg [.mv 7 (.c (.int .i32 2048))]))) (.sq (.rg [.mv 47 (.s 5),
   .bi 48 .geq (.s 47) (.c (.int .i32 240)),
   .mv 49 (.s 48),
   .gd 49 true 50 (.mv 50 (.s 5)),
   .gd 49 true 51 (.bi 51 .lss (.s 50) (.c (.int .i32 248))),
   .pk 52 (.s 49) (.s 51) (.c (.bool false)),
   .mv 46 (.s 52)])
  (.cd (.s 46) (.sq (.rg [.mv 6 (.c (.int .i64 3))])
  (.sq (.rg [.mv 53 (.s 5),
   .bi 54 .sub (.s 53) (.c (.int .i32 240)),
   .mv 5 (.s 54)])
  (.rg [.mv 7 (.c (.int .i32 65536))]))) .sk)))))))))
  (.sq (.rg [.mv 55 (.s 6),
   .bi 56 .gtr (.s 55) (.c (.int .i64 0)),
   .mv 8 (.s 56)])
  (.sq (.sq (.rg [.mv 9 (.c (.int .i64 1))])
  (.bl 3 (.lp (.sq (.sq (.rg [.mv 57 (.s 9),
   .mv 58 (.s 6),
   .bi 59 .leq (.s 57) (.s 58)])
  (.cd (.s 59) .sk (.ex 3)))
  (.sq (.bl 4 (.sq (.sq (.rg [.mv 62 (.s 4),
   .mv 63 (.s 9),
   .bi 64 .add (.s 62) (.s 63),
   .mv 65 (.s 0),
   .lns 66 (.s 65),
   .bi 67 .geq (.s 64) (.s 66),
   .mv 68 (.s 67),
   .gd 68 false 69 (.mv 69 (.s 0)),
   .gd 68 false 70 (.mv 70 (.s 4)),
   .gd 68 false 71 (.mv 71 (.s 9)),
   .gd 68 false 72 (.bi 72 .add (.s 70) (.s 71)),
   .gd 68 false 73 (.ixs 73 (.s 69) (.s 72)),
   .gd 68 false 74 (.bi 74 .lss (.s 73) (.c (.int .u8 128))),
   .pk 75 (.s 68) (.c (.bool true)) (.s 74),
   .mv 76 (.s 75),
   .gd 76 false 77 (.mv 77 (.s 0)),
   .gd 76 false 78 (.mv 78 (.s 4)),
   .gd 76 false 79 (.mv 79 (.s 9)),
   .gd 76 false 80 (.bi 80 .add (.s 78) (.s 79)),
   .gd 76 false 81 (.ixs 81 (.s 77) (.s 80)),
   .gd 76 false 82 (.bi 82 .gtr (.s 81) (.c (.int .u8 191))),
   .pk 83 (.s 76) (.c (.bool true)) (.s 82)])
  (.cd (.s 83) (.sq (.rg [.mv 8 (.c (.bool false))])
  (.ex 3)) .sk))
  (.rg [.mv 84 (.s 5),
   .bi 85 .mul (.c (.int .i32 64)) (.s 84),
   .mv 86 (.s 0),
   .mv 87 (.s 4),
   .mv 88 (.s 9),
   .bi 89 .add (.s 87) (.s 88),
   .ixs 90 (.s 86) (.s 89),
   .cv 91 .i32 (.s 90),
   .bi 92 .add (.s 85) (.s 91),
   .bi 93 .sub (.s 92) (.c (.int .i32 128)),
   .mv 5 (.s 93)])))
  (.rg [.mv 60 (.s 9),
   .bi 61 .add (.s 60) (.c (.int .i64 1)),
   .mv 9 (.s 61)]))))))
  (.sq (.sq (.rg [.mv 94 (.s 8),
   .un 95 .not (.s 94),
   .mv 96 (.s 95),
   .gd 96 false 97 (.mv 97 (.s 5)),
   .gd 96 false 98 (.mv 98 (.s 7)),
   .gd 96 false 99 (.bi 99 .lss (.s 97) (.s 98)),
   .pk 100 (.s 96) (.c (.bool true)) (.s 99),
   .mv 101 (.s 100),
   .gd 101 false 102 (.mv 102 (.s 5)),
   .gd 101 false 103 (.bi 103 .gtr (.s 102) (.c (.int .i32 1114111))),
   .pk 104 (.s 101) (.c (.bool true)) (.s 103),
   .mv 105 (.s 104),
   .gd 105 false 106 (.mv 106 (.s 5)),
   .gd 105 false 107 (.bi 107 .geq (.s 106) (.c (.int .i32 55296))),
   .gd 105 false 108 (.mv 108 (.s 107)),
   .gd 108 true 109 (.mv 109 (.s 5)),
   .gd 108 true 110 (.bi 110 .lss (.s 109) (.c (.int .i32 57344))),
   .gd 105 false 111 (.pk 111 (.s 108) (.s 110) (.c (.bool false))),
   .pk 112 (.s 105) (.c (.bool true)) (.s 111)])
  (.cd (.s 112) (.sq (.rg [.mo 113 3,
   .bs 114 1 [(.c (.int .i32 (-1)))],
   .ap 115 1 4 (.s 113) (.s 114),
   .mo 3 115])
  (.sq (.rg [.mv 116 (.s 4),
   .bi 117 .add (.s 116) (.c (.int .i64 1)),
   .mv 4 (.s 117)])
  (.ex 1))) .sk))
  (.sq (.rg [.mo 118 3,
   .mv 119 (.s 5),
   .bs 120 1 [(.s 119)],
   .ap 121 1 4 (.s 118) (.s 120),
   .mo 3 121])
  (.rg [.mv 122 (.s 4),
   .bi 123 .add (.s 122) (.c (.int .i64 1)),
   .mv 124 (.s 6),
   .bi 125 .add (.s 123) (.s 124),
   .mv 4 (.s 125)])))))))))))))
  (.sq (.rg [.mv 126 (.s 3),
   .mv 2 (.s 126)])
  .rt)))))
def a50 : AF := ⟨c50, [.t 2], 1, 127⟩
theorem m50 : mF Tryz.prog gl drD Tryz.f50 a50 = true := by kernel_rfl
theorem s50 {l : List AV} {r : AV} (hl : l.length = 1) (hi : idsL l = []) (h : wpA (SpH Tryz.prog gl) c50 (postA [.t 2] r) ⟨initE 0 l, [], []⟩) : Sp Tryz.prog gl 50 l r :=
  @fun_sp Tryz.prog gl drD 50 Tryz.f50 a50 Tryz.func50 m50 (dok _) l r hl hi h
theorem h50 {d : Nat} {I : In} {O : Out} (hl : I.vs.length = 1) (h : wpA (SpH Tryz.prog gl) c50 (postH d [.t 2] O) (inSt I)) : SpH Tryz.prog gl 50 d I O :=
  @fun_spH Tryz.prog gl drD 50 Tryz.f50 a50 Tryz.func50 m50 (dok _) d I O hl h
/-- firebell/show.between[uint64] -/
def c51 : AC :=
 (.sq (.rg [.mv 6 (.c (.bool false))])
  (.sq (.rg [.mv 7 (.s 0),
   .mv 8 (.s 1),
   .bi 9 .geq (.s 7) (.s 8),
   .mv 10 (.s 9),
   .gd 10 true 11 (.mv 11 (.s 0)),
   .gd 10 true 12 (.mv 12 (.s 2)),
   .gd 10 true 13 (.bi 13 .leq (.s 11) (.s 12)),
   .pk 14 (.s 10) (.s 13) (.c (.bool false)),
   .mv 6 (.s 14)])
  .rt))
def a51 : AF := ⟨c51, [.t 6], 3, 15⟩
theorem m51 : mF Tryz.prog gl drD Tryz.f51 a51 = true := by kernel_rfl
theorem s51 {l : List AV} {r : AV} (hl : l.length = 3) (hi : idsL l = []) (h : wpA (SpH Tryz.prog gl) c51 (postA [.t 6] r) ⟨initE 0 l, [], []⟩) : Sp Tryz.prog gl 51 l r :=
  @fun_sp Tryz.prog gl drD 51 Tryz.f51 a51 Tryz.func51 m51 (dok _) l r hl hi h
theorem h51 {d : Nat} {I : In} {O : Out} (hl : I.vs.length = 3) (h : wpA (SpH Tryz.prog gl) c51 (postH d [.t 6] O) (inSt I)) : SpH Tryz.prog gl 51 d I O :=
  @fun_spH Tryz.prog gl drD 51 Tryz.f51 a51 Tryz.func51 m51 (dok _) d I O hl h
/-- firebell/firebellref27.Heavy -/
def c53 : AC :=
 (.sq (.rg [.mv 2 (.c (.bool false))])
  (.sq (.sq (.rg [.mv 4 (.s 0),
   .ln 5 (.s 4),
   .bi 6 .gtr (.s 5) (.c (.int .i64 30))])
  (.cd (.s 6) (.sq (.rg [.mv 2 (.c (.bool true))])
  .rt) .sk))
  (.sq (.sq (.rg [.mv 3 (.c (.int .i64 0))])
  (.bl 0 (.lp (.sq (.sq (.rg [.mv 7 (.s 3),
   .mv 8 (.s 0),
   .ln 9 (.s 8),
   .bi 10 .lss (.s 7) (.s 9)])
  (.cd (.s 10) .sk (.ex 0)))
  (.sq (.bl 1 (.sq (.rg [.mv 13 (.s 0),
   .mv 14 (.s 3),
   .ia 15 5 (.s 13) (.s 14),
   .fa 16 (.s 15) 0,
   .lds 17 (.s 16),
   .lns 18 (.s 17),
   .bi 19 .gtr (.s 18) (.c (.int .i64 500)),
   .mv 20 (.s 19),
   .gd 20 false 21 (.mv 21 (.s 0)),
   .gd 20 false 22 (.mv 22 (.s 3)),
   .gd 20 false 23 (.ia 23 5 (.s 21) (.s 22)),
   .gd 20 false 24 (.fa 24 (.s 23) 1),
   .gd 20 false 25 (.lds 25 (.s 24)),
   .gd 20 false 26 (.lns 26 (.s 25)),
   .gd 20 false 27 (.bi 27 .gtr (.s 26) (.c (.int .i64 500))),
   .pk 28 (.s 20) (.c (.bool true)) (.s 27)])
  (.cd (.s 28) (.sq (.rg [.mv 2 (.c (.bool true))])
  .rt) .sk)))
  (.rg [.mv 11 (.s 3),
   .bi 12 .add (.s 11) (.c (.int .i64 1)),
   .mv 3 (.s 12)]))))))
  (.sq (.rg [.mv 2 (.c (.bool false))])
  .rt))))
def a53 : AF := ⟨c53, [.t 2], 1, 29⟩
theorem m53 : mF Tryz.prog gl drD Tryz.f53 a53 = true := by kernel_rfl
theorem s53 {l : List AV} {r : AV} (hl : l.length = 1) (hi : idsL l = []) (h : wpA (SpH Tryz.prog gl) c53 (postA [.t 2] r) ⟨initE 0 l, [], []⟩) : Sp Tryz.prog gl 53 l r :=
  @fun_sp Tryz.prog gl drD 53 Tryz.f53 a53 Tryz.func53 m53 (dok _) l r hl hi h
theorem h53 {d : Nat} {I : In} {O : Out} (hl : I.vs.length = 1) (h : wpA (SpH Tryz.prog gl) c53 (postH d [.t 2] O) (inSt I)) : SpH Tryz.prog gl 53 d I O :=
  @fun_spH Tryz.prog gl drD 53 Tryz.f53 a53 Tryz.func53 m53 (dok _) d I O hl h
/-- firebell/show.Right -/
def c56 : AC :=
 (.sq (.rg [.bx 1 (.s 0),
   .mv 2 (.c (.bool false))])
  (.sq (.sq (.rg [.fa 7 (.s 1) 0,
   .lds 8 (.s 7),
   .ln 9 (.s 8),
   .mv 10 (.c (.int .i64 0))])
  (.bl 0 (.lp (.sq (.rg [.bi 11 .lss (.s 10) (.s 9)])
  (.sq (.cd (.s 11) .sk (.ex 0))
  (.sq (.bl 1 (.sq (.rg [.ia 12 8 (.s 8) (.s 10),
   .lda 13 8 (.s 12),
   .al 4 [(.str []), (.int .u32 0), (.int .i64 0), (.int .i64 0), (.int .i64 0), (.int .i64 0), .nils, .nils],
   .st 8 (.s 4) (.s 13)])
  (.sq (.rg [.lda 14 8 (.s 4),
   .cl 15 11 [(.s 14)],
   .un 16 .not (.s 15)])
  (.cd (.s 16) (.sq (.rg [.mv 2 (.c (.bool false))])
  .rt) .sk))))
  (.rg [.bi 17 .add (.s 10) (.c (.int .i64 1)),
   .mv 10 (.s 17)])))))))
  (.sq (.rg [.fa 18 (.s 1) 1,
   .lda 19 5 (.s 18),
   .al 5 [(.int .i64 0), (.int .i64 0), (.int .i64 0), (.int .i64 0), (.int .i64 0)],
   .st 5 (.s 5) (.s 19)])
  (.sq (.rg [.fa 20 (.s 5) 0,
   .lds 21 (.s 20),
   .cl 22 44 [(.s 21), (.c (.int .i64 1)), (.c (.int .i64 64))],
   .mv 23 (.s 22),
   .gd 23 true 24 (.fa 24 (.s 5) 1),
   .gd 23 true 25 (.lds 25 (.s 24)),
   .gd 23 true 26 (.fa 26 (.s 5) 0),
   .gd 23 true 27 (.lds 27 (.s 26)),
   .gd 23 true 28 (.cl 28 44 [(.s 25), (.c (.int .i64 0)), (.s 27)]),
   .pk 29 (.s 23) (.s 28) (.c (.bool false)),
   .mv 30 (.s 29),
   .gd 30 true 31 (.fa 31 (.s 5) 2),
   .gd 30 true 32 (.lds 32 (.s 31)),
   .gd 30 true 33 (.cl 33 43 [(.s 32), (.c (.int .i64 1)), (.c (.int .i64 86400))]),
   .pk 34 (.s 30) (.s 33) (.c (.bool false)),
   .mv 35 (.s 34),
   .gd 35 true 36 (.fa 36 (.s 5) 3),
   .gd 35 true 37 (.lds 37 (.s 36)),
   .gd 35 true 38 (.fa 38 (.s 5) 2),
   .gd 35 true 39 (.lds 39 (.s 38)),
   .gd 35 true 40 (.cl 40 43 [(.s 37), (.s 39), (.c (.int .i64 604800))]),
   .pk 41 (.s 35) (.s 40) (.c (.bool false)),
   .mv 42 (.s 41),
   .gd 42 true 43 (.fa 43 (.s 5) 4),
   .gd 42 true 44 (.lds 44 (.s 43)),
   .gd 42 true 45 (.cl 45 43 [(.s 44), (.c (.int .i64 0)), (.c (.int .i64 2592000))]),
   .pk 46 (.s 42) (.s 45) (.c (.bool false)),
   .mv 6 (.s 46)])
  (.sq (.rg [.mv 47 (.s 6),
   .mv 48 (.s 47),
   .gd 48 true 49 (.fa 49 (.s 1) 0),
   .gd 48 true 50 (.lds 50 (.s 49)),
   .gd 48 true 51 (.ln 51 (.s 50)),
   .gd 48 true 52 (.bi 52 .leq (.s 51) (.c (.int .i64 6))),
   .pk 53 (.s 48) (.s 52) (.c (.bool false)),
   .mv 54 (.s 53),
   .gd 54 true 55 (.fa 55 (.s 1) 0),
   .gd 54 true 56 (.lds 56 (.s 55)),
   .gd 54 true 57 (.ce 57 116 [(.s 56), (.c (.fn 117 []))]),
   .pk 58 (.s 54) (.s 57) (.c (.bool false)),
   .mv 2 (.s 58)])
  .rt)))))
def a56 : AF := ⟨c56, [.t 2], 1, 59⟩
theorem m56 : mF Tryz.prog gl drD Tryz.f56 a56 = true := by kernel_rfl
theorem s56 {l : List AV} {r : AV} (hl : l.length = 1) (hi : idsL l = []) (h : wpA (SpH Tryz.prog gl) c56 (postA [.t 2] r) ⟨initE 0 l, [], []⟩) : Sp Tryz.prog gl 56 l r :=
  @fun_sp Tryz.prog gl drD 56 Tryz.f56 a56 Tryz.func56 m56 (dok _) l r hl hi h
theorem h56 {d : Nat} {I : In} {O : Out} (hl : I.vs.length = 1) (h : wpA (SpH Tryz.prog gl) c56 (postH d [.t 2] O) (inSt I)) : SpH Tryz.prog gl 56 d I O :=
  @fun_spH Tryz.prog gl drD 56 Tryz.f56 a56 Tryz.func56 m56 (dok _) d I O hl h
/-- (*firebell/audit.look).goals -/
def c57 : AC :=
 (.sq (.rg [.mkp 10,
   .mkp 11,
   .mv 2 (.s 10),
   .mv 3 (.s 11)])
  (.sq (.rg [.mv 12 (.s 0),
   .nc 13 (.s 12),
   .fa 14 (.s 13) 0,
   .fa 15 (.s 14) 2,
   .lds 16 (.s 15),
   .ln 17 (.s 16),
   .mv 18 (.c (.int .i64 0))])
  (.bl 0 (.lp (.sq (.rg [.bi 19 .lss (.s 18) (.s 17)])
  (.sq (.cd (.s 19) .sk (.ex 0))
  (.sq (.bl 1 (.sq (.rg [.ia 20 15 (.s 16) (.s 18),
   .lda 21 15 (.s 20),
   .al 5 [(.str []), (.int .u32 0), (.int .i64 0), (.int .i64 0), (.int .i64 0), (.int .i64 0), .nils, .nils, (.bool false), .nils, (.int .i64 0), (.int .i64 0), (.int .u64 0), (.int .u64 0), .nils],
   .st 15 (.s 5) (.s 21)])
  (.sq (.rg [.fa 22 (.s 5) 0,
   .fa 23 (.s 22) 0,
   .lds 24 (.s 23),
   .mv 6 (.s 24)])
  (.sq (.rg [.mv 25 (.s 2),
   .mv 26 (.s 6),
   .mlk 27 .s (.i .i64 0) (.s 25) (.s 26) false,
   .bi 28 .add (.s 27) (.c (.int .i64 1)),
   .mup .s (.s 25) (.s 26) (.s 28)])
  (.sq (.rg [.mv 29 (.s 0),
   .fa 30 (.s 5) 0,
   .lda 31 8 (.s 30),
   .cl 32 11 [(.s 31)],
   .mv 33 (.s 32),
   .gd 33 true 34 (.mv 34 (.s 2)),
   .gd 33 true 35 (.mv 35 (.s 6)),
   .gd 33 true 36 (.mlk 36 .s (.i .i64 0) (.s 34) (.s 35) false),
   .gd 33 true 37 (.bi 37 .eql (.s 36) (.c (.int .i64 1))),
   .pk 38 (.s 33) (.s 37) (.c (.bool false)),
   .mv 39 (.s 6),
   .ce 40 54 [(.s 29), (.s 38), (.c (.int .i64 3)), (.s 39)]])
  (.sq (.rg [.mv 41 (.s 0),
   .lda 42 15 (.s 5),
   .cl 43 118 [(.s 42)],
   .mv 44 (.s 6),
   .ce 45 54 [(.s 41), (.s 43), (.c (.int .i64 4)), (.s 44)]])
  (.sq (.rg [.mv 46 (.s 0),
   .mv 47 (.s 0),
   .lda 48 15 (.s 5),
   .ce 49 119 [(.s 47), (.s 48)],
   .mv 50 (.s 6),
   .ce 51 54 [(.s 46), (.s 49), (.c (.int .i64 5)), (.s 50)]])
  (.sq (.rg [.mv 52 (.s 0),
   .mv 53 (.s 0),
   .lda 54 15 (.s 5),
   .ce 55 120 [(.s 53), (.s 54)],
   .mv 56 (.s 6),
   .ce 57 54 [(.s 52), (.s 55), (.c (.int .i64 6)), (.s 56)]])
  (.sq (.rg [.mv 7 (.c (.bool true))])
  (.sq (.sq (.rg [.fa 58 (.s 5) 14,
   .lds 59 (.s 58),
   .cl 60 121 [(.s 59)],
   .ln 61 (.s 60),
   .mv 62 (.c (.int .i64 0))])
  (.bl 2 (.lp (.sq (.rg [.bi 63 .lss (.s 62) (.s 61)])
  (.sq (.cd (.s 63) .sk (.ex 2))
  (.sq (.bl 3 (.sq (.rg [.ia 64 1 (.s 60) (.s 62),
   .lds 65 (.s 64),
   .mv 9 (.s 65)])
  (.sq (.rg [.mv 66 (.s 3),
   .mv 67 (.s 9),
   .mlk 68 .i (.i .i64 0) (.s 66) (.s 67) false,
   .bi 69 .add (.s 68) (.c (.int .i64 1)),
   .mup .i (.s 66) (.s 67) (.s 69)])
  (.rg [.mv 70 (.s 7),
   .mv 71 (.s 70),
   .gd 71 true 72 (.mv 72 (.s 3)),
   .gd 71 true 73 (.mv 73 (.s 9)),
   .gd 71 true 74 (.mlk 74 .i (.i .i64 0) (.s 72) (.s 73) false),
   .gd 71 true 75 (.bi 75 .eql (.s 74) (.c (.int .i64 1))),
   .pk 76 (.s 71) (.s 75) (.c (.bool false)),
   .mv 7 (.s 76)]))))
  (.rg [.bi 77 .add (.s 62) (.c (.int .i64 1)),
   .mv 62 (.s 77)])))))))
  (.rg [.mv 78 (.s 0),
   .mv 79 (.s 7),
   .mv 80 (.s 6),
   .ce 81 54 [(.s 78), (.s 79), (.c (.int .i64 7)), (.s 80)]])))))))))))
  (.rg [.bi 82 .add (.s 18) (.c (.int .i64 1)),
   .mv 18 (.s 82)]))))))))
def a57 : AF := ⟨c57, [], 1, 83⟩
theorem m57 : mF Tryz.prog gl drD Tryz.f57 a57 = true := by kernel_rfl
theorem s57 {l : List AV} {r : AV} (hl : l.length = 1) (hi : idsL l = []) (h : wpA (SpH Tryz.prog gl) c57 (postA [] r) ⟨initE 0 l, [], []⟩) : Sp Tryz.prog gl 57 l r :=
  @fun_sp Tryz.prog gl drD 57 Tryz.f57 a57 Tryz.func57 m57 (dok _) l r hl hi h
theorem h57 {d : Nat} {I : In} {O : Out} (hl : I.vs.length = 1) (h : wpA (SpH Tryz.prog gl) c57 (postH d [] O) (inSt I)) : SpH Tryz.prog gl 57 d I O :=
  @fun_spH Tryz.prog gl drD 57 Tryz.f57 a57 Tryz.func57 m57 (dok _) d I O hl h
/-- firebell/firebellref35.windows -/
def c63 : AC :=
 (.sq (.rg [.bx 1 (.s 0),
   .mv 2 (.c (.bool false))])
  (.sq (.rg [.fa 5 (.s 1) 0,
   .lda 6 8 (.s 5),
   .cl 7 127 [(.s 6)],
   .mv 3 (.s 7)])
  (.sq (.sq (.rg [.mv 8 (.s 3),
   .ln 9 (.s 8),
   .fa 10 (.s 1) 9,
   .lds 11 (.s 10),
   .ln 12 (.s 11),
   .bi 13 .neq (.s 9) (.s 12)])
  (.cd (.s 13) (.sq (.rg [.mv 2 (.c (.bool false))])
  .rt) .sk))
  (.sq (.sq (.rg [.mv 4 (.c (.int .i64 0))])
  (.bl 0 (.lp (.sq (.sq (.rg [.mv 14 (.s 4),
   .mv 15 (.s 3),
   .ln 16 (.s 15),
   .bi 17 .lss (.s 14) (.s 16)])
  (.cd (.s 17) .sk (.ex 0)))
  (.sq (.bl 1 (.sq (.rd [[], [], [], [], [], [], [], [], [], [], [], [], [], [], [], [], [], [], [], [], []] [.fa 20 (.s 1) 9,
   .lds 21 (.s 20),
   .mv 22 (.s 4),
   .ia 23 3 (.s 21) (.s 22),
   .fa 24 (.s 23) 0,
   .lds 25 (.s 24),
   .mv 26 (.s 3),
   .mv 27 (.s 4),
   .ia 28 1 (.s 26) (.s 27),
   .lds 29 (.s 28),
   .bi 30 .neq (.s 25) (.s 29),
   .mv 31 (.s 30),
   .gd 31 false 32 (.fa 32 (.s 1) 9),
   .gd 31 false 33 (.lds 33 (.s 32)),
   .gd 31 false 34 (.mv 34 (.s 4)),
   .gd 31 false 35 (.ia 35 3 (.s 33) (.s 34)),
   .gd 31 false 36 (.fa 36 (.s 35) 1),
   .gd 31 false 37 (.lda 37 2 (.s 36)),
   .gd 31 false 38 (.cl 38 128 [(.s 37)]),
   .gd 31 false 39 (.un 39 .not (.s 38)),
   .pk 40 (.s 31) (.c (.bool true)) (.s 39)])
  (.cd (.s 40) (.sq (.rg [.mv 2 (.c (.bool false))])
  .rt) .sk)))
  (.rg [.mv 18 (.s 4),
   .bi 19 .add (.s 18) (.c (.int .i64 1)),
   .mv 4 (.s 19)]))))))
  (.sq (.rg [.mv 2 (.c (.bool true))])
  .rt)))))
def a63 : AF := ⟨c63, [.t 2], 1, 41⟩
theorem m63 : mF Tryz.prog gl drD Tryz.f63 a63 = true := by kernel_rfl
theorem s63 {l : List AV} {r : AV} (hl : l.length = 1) (hi : idsL l = []) (h : wpA (SpH Tryz.prog gl) c63 (postA [.t 2] r) ⟨initE 0 l, [], []⟩) : Sp Tryz.prog gl 63 l r :=
  @fun_sp Tryz.prog gl drD 63 Tryz.f63 a63 Tryz.func63 m63 (dok _) l r hl hi h
theorem h63 {d : Nat} {I : In} {O : Out} (hl : I.vs.length = 1) (h : wpA (SpH Tryz.prog gl) c63 (postH d [.t 2] O) (inSt I)) : SpH Tryz.prog gl 63 d I O :=
  @fun_spH Tryz.prog gl drD 63 Tryz.f63 a63 Tryz.func63 m63 (dok _) d I O hl h
/-- firebell/firebellref35.period -/
def c64 : AC :=
 (.sq (.rg [.bx 2 (.s 0),
   .mv 4 (.c (.bool false))])
  (.sq (.sq (.rg [.fa 7 (.s 2) 0,
   .fa 8 (.s 7) 5,
   .lds 9 (.s 8),
   .bi 10 .eql (.s 9) (.c (.int .i64 0)),
   .mv 11 (.s 10),
   .gd 11 true 12 (.fa 12 (.s 2) 12),
   .gd 11 true 13 (.lda 13 2 (.s 12)),
   .gd 11 true 14 (.bd 14 [(.int .u64 0), (.int .u64 0)] []),
   .gd 11 true 15 (.ea 15 true [.i, .i] (.s 13) (.s 14)),
   .pk 16 (.s 11) (.s 15) (.c (.bool false)),
   .mv 17 (.s 16),
   .gd 17 false 18 (.fa 18 (.s 2) 12),
   .gd 17 false 19 (.lda 19 2 (.s 18)),
   .gd 17 false 20 (.cl 20 128 [(.s 19)]),
   .gd 17 false 21 (.un 21 .not (.s 20)),
   .pk 22 (.s 17) (.c (.bool true)) (.s 21)])
  (.cd (.s 22) (.sq (.rg [.mv 4 (.c (.bool false))])
  .rt) .sk))
  (.sq (.rg [.mv 5 (.c (.int .i64 0)),
   .mv 6 (.c (.int .i64 0))])
  (.sq (.sq (.rg [.mv 23 (.s 1),
   .cl 24 61 [(.s 23)],
   .mv 25 (.s 24),
   .gd 25 true 26 (.fa 26 (.s 2) 0),
   .gd 25 true 27 (.fa 27 (.s 26) 5),
   .gd 25 true 28 (.lds 28 (.s 27)),
   .gd 25 true 29 (.bi 29 .eql (.s 28) (.c (.int .i64 1))),
   .pk 30 (.s 25) (.s 29) (.c (.bool false))])
  (.cd (.s 30) (.rg [.mv 32 (.s 1),
   .cl 33 129 [(.s 32), (.c (.int .i64 1))],
   .mv 31 (.s 33),
   .exq 34 (.s 31) 0,
   .exq 35 (.s 31) 1,
   .mv 5 (.s 34),
   .mv 6 (.s 35)]) .sk))
  (.sq (.sq (.rg [.mv 36 (.s 1),
   .cl 37 61 [(.s 36)],
   .mv 38 (.s 37),
   .gd 38 true 39 (.fa 39 (.s 2) 0),
   .gd 38 true 40 (.fa 40 (.s 39) 5),
   .gd 38 true 41 (.lds 41 (.s 40)),
   .gd 38 true 42 (.bi 42 .eql (.s 41) (.c (.int .i64 2))),
   .pk 43 (.s 38) (.s 42) (.c (.bool false))])
  (.cd (.s 43) (.rg [.mv 45 (.s 1),
   .cl 46 129 [(.s 45), (.c (.int .i64 3))],
   .mv 44 (.s 46),
   .exq 47 (.s 44) 0,
   .exq 48 (.s 44) 1,
   .mv 5 (.s 47),
   .mv 6 (.s 48)]) .sk))
  (.sq (.rg [.fa 49 (.s 2) 10,
   .lds 50 (.s 49),
   .mv 51 (.s 5),
   .bi 52 .eql (.s 50) (.s 51),
   .mv 53 (.s 52),
   .gd 53 true 54 (.fa 54 (.s 2) 11),
   .gd 53 true 55 (.lds 55 (.s 54)),
   .gd 53 true 56 (.mv 56 (.s 6)),
   .gd 53 true 57 (.bi 57 .eql (.s 55) (.s 56)),
   .pk 58 (.s 53) (.s 57) (.c (.bool false)),
   .mv 4 (.s 58)])
  .rt))))))
def a64 : AF := ⟨c64, [.t 4], 2, 59⟩
theorem m64 : mF Tryz.prog gl drD Tryz.f64 a64 = true := by kernel_rfl
theorem s64 {l : List AV} {r : AV} (hl : l.length = 2) (hi : idsL l = []) (h : wpA (SpH Tryz.prog gl) c64 (postA [.t 4] r) ⟨initE 0 l, [], []⟩) : Sp Tryz.prog gl 64 l r :=
  @fun_sp Tryz.prog gl drD 64 Tryz.f64 a64 Tryz.func64 m64 (dok _) l r hl hi h
theorem h64 {d : Nat} {I : In} {O : Out} (hl : I.vs.length = 2) (h : wpA (SpH Tryz.prog gl) c64 (postH d [.t 4] O) (inSt I)) : SpH Tryz.prog gl 64 d I O :=
  @fun_spH Tryz.prog gl drD 64 Tryz.f64 a64 Tryz.func64 m64 (dok _) d I O hl h
/-- firebell/firebellref35.Fires -/
def c70 : AC :=
 (.sq (.rg [.bx 2 (.s 0),
   .bx 3 (.s 1),
   .mv 4 (.c (.bool false))])
  (.sq (.sq (.rg [.mv 5 (.c (.int .i64 0))])
  (.bl 0 (.lp (.sq (.sq (.rg [.mv 9 (.s 5),
   .fa 10 (.s 2) 2,
   .lds 11 (.s 10),
   .ln 12 (.s 11),
   .bi 13 .lss (.s 9) (.s 12)])
  (.cd (.s 13) .sk (.ex 0)))
  (.sq (.bl 1 (.sq (.rg [.fa 16 (.s 2) 2,
   .lds 17 (.s 16),
   .mv 18 (.s 5),
   .ia 19 15 (.s 17) (.s 18),
   .lda 20 15 (.s 19),
   .al 6 [(.str []), (.int .u32 0), (.int .i64 0), (.int .i64 0), (.int .i64 0), (.int .i64 0), .nils, .nils, (.bool false), .nils, (.int .i64 0), (.int .i64 0), (.int .u64 0), (.int .u64 0), .nils],
   .st 15 (.s 6) (.s 20)])
  (.sq (.rg [.mv 7 (.c (.int .i64 0))])
  (.bl 2 (.lp (.sq (.sq (.rg [.mv 21 (.s 7),
   .fa 22 (.s 6) 14,
   .lds 23 (.s 22),
   .ln 24 (.s 23),
   .bi 25 .lss (.s 21) (.s 24),
   .mv 26 (.s 25),
   .gd 26 true 27 (.mv 27 (.s 7)),
   .gd 26 true 28 (.fa 28 (.s 6) 0),
   .gd 26 true 29 (.fa 29 (.s 28) 7),
   .gd 26 true 30 (.lds 30 (.s 29)),
   .gd 26 true 31 (.ln 31 (.s 30)),
   .gd 26 true 32 (.bi 32 .lss (.s 27) (.s 31)),
   .pk 33 (.s 26) (.s 32) (.c (.bool false))])
  (.cd (.s 33) .sk (.ex 2)))
  (.sq (.bl 3 (.sq (.rg [.fa 36 (.s 6) 0,
   .fa 37 (.s 36) 7,
   .lds 38 (.s 37),
   .mv 39 (.s 7),
   .ia 40 7 (.s 38) (.s 39),
   .lda 41 7 (.s 40),
   .al 8 [(.str []), (.bool false), (.int .i64 0), (.int .i64 0), (.int .u64 0), (.int .i64 0), (.int .i64 0)],
   .st 7 (.s 8) (.s 41)])
  (.sq (.rd [[], [], [], [], [], [], [], [], [], [], [], [], [], [], [], [], [], [], [], [], [], [], [], [], [], [], [], [], [], [], [], [], [], [], [], [], [], [], [], [], [], [], [], []] [.fa 42 (.s 6) 14,
   .lds 43 (.s 42),
   .mv 44 (.s 7),
   .ia 45 4 (.s 43) (.s 44),
   .lda 46 4 (.s 45),
   .cl 47 66 [(.s 46)],
   .mv 48 (.s 47),
   .gd 48 true 49 (.fa 49 (.s 3) 4),
   .gd 48 true 50 (.lds 50 (.s 49)),
   .gd 48 true 51 (.un 51 .not (.s 50)),
   .pk 52 (.s 48) (.s 51) (.c (.bool false)),
   .mv 53 (.s 52),
   .gd 53 true 54 (.fa 54 (.s 3) 0),
   .gd 53 true 55 (.lds 55 (.s 54)),
   .gd 53 true 56 (.fa 56 (.s 6) 0),
   .gd 53 true 57 (.fa 57 (.s 56) 0),
   .gd 53 true 58 (.lds 58 (.s 57)),
   .gd 53 true 59 (.bi 59 .eql (.s 55) (.s 58)),
   .pk 60 (.s 53) (.s 59) (.c (.bool false)),
   .mv 61 (.s 60),
   .gd 61 true 62 (.fa 62 (.s 3) 1),
   .gd 61 true 63 (.lds 63 (.s 62)),
   .gd 61 true 64 (.fa 64 (.s 8) 0),
   .gd 61 true 65 (.lds 65 (.s 64)),
   .gd 61 true 66 (.bi 66 .eql (.s 63) (.s 65)),
   .pk 67 (.s 61) (.s 66) (.c (.bool false)),
   .mv 68 (.s 67),
   .gd 68 true 69 (.fa 69 (.s 3) 2),
   .gd 68 true 70 (.lds 70 (.s 69)),
   .gd 68 true 71 (.fa 71 (.s 8) 1),
   .gd 68 true 72 (.lds 72 (.s 71)),
   .gd 68 true 73 (.bb 73 false (.s 70) (.s 72)),
   .pk 74 (.s 68) (.s 73) (.c (.bool false)),
   .mv 75 (.s 74),
   .gd 75 true 76 (.fa 76 (.s 3) 3),
   .gd 75 true 77 (.lds 77 (.s 76)),
   .gd 75 true 78 (.fa 78 (.s 6) 14),
   .gd 75 true 79 (.lds 79 (.s 78)),
   .gd 75 true 80 (.mv 80 (.s 7)),
   .gd 75 true 81 (.ia 81 4 (.s 79) (.s 80)),
   .gd 75 true 82 (.fa 82 (.s 81) 3),
   .gd 75 true 83 (.lds 83 (.s 82)),
   .gd 75 true 84 (.bi 84 .eql (.s 77) (.s 83)),
   .pk 85 (.s 75) (.s 84) (.c (.bool false))])
  (.cd (.s 85) (.sq (.rg [.mv 4 (.c (.bool true))])
  .rt) .sk))))
  (.rg [.mv 34 (.s 7),
   .bi 35 .add (.s 34) (.c (.int .i64 1)),
   .mv 7 (.s 35)]))))))))
  (.rg [.mv 14 (.s 5),
   .bi 15 .add (.s 14) (.c (.int .i64 1)),
   .mv 5 (.s 15)]))))))
  (.sq (.rg [.mv 4 (.c (.bool false))])
  .rt)))
def a70 : AF := ⟨c70, [.t 4], 2, 86⟩
theorem m70 : mF Tryz.prog gl drD Tryz.f70 a70 = true := by kernel_rfl
theorem s70 {l : List AV} {r : AV} (hl : l.length = 2) (hi : idsL l = []) (h : wpA (SpH Tryz.prog gl) c70 (postA [.t 4] r) ⟨initE 0 l, [], []⟩) : Sp Tryz.prog gl 70 l r :=
  @fun_sp Tryz.prog gl drD 70 Tryz.f70 a70 Tryz.func70 m70 (dok _) l r hl hi h
theorem h70 {d : Nat} {I : In} {O : Out} (hl : I.vs.length = 2) (h : wpA (SpH Tryz.prog gl) c70 (postH d [.t 4] O) (inSt I)) : SpH Tryz.prog gl 70 d I O :=
  @fun_spH Tryz.prog gl drD 70 Tryz.f70 a70 Tryz.func70 m70 (dok _) d I O hl h
/-- firebell/firebellref27.Find -/
def c72 : AC :=
 (.sq (.rg [.mv 4 (.c (.int .i64 0))])
  (.sq (.sq (.rg [.mv 5 (.c (.int .i64 0))])
  (.bl 0 (.lp (.sq (.sq (.rg [.mv 6 (.s 5),
   .mv 7 (.s 0),
   .ln 8 (.s 7),
   .bi 9 .lss (.s 6) (.s 8)])
  (.cd (.s 9) .sk (.ex 0)))
  (.sq (.bl 1 (.sq (.rg [.mv 12 (.s 0),
   .mv 13 (.s 5),
   .ia 14 5 (.s 12) (.s 13),
   .fa 15 (.s 14) 0,
   .lds 16 (.s 15),
   .mv 17 (.s 1),
   .bi 18 .eql (.s 16) (.s 17)])
  (.cd (.s 18) (.sq (.rg [.mv 19 (.s 5),
   .mv 4 (.s 19)])
  .rt) .sk)))
  (.rg [.mv 10 (.s 5),
   .bi 11 .add (.s 10) (.c (.int .i64 1)),
   .mv 5 (.s 11)]))))))
  (.sq (.rg [.mv 4 (.c (.int .i64 (-1)))])
  .rt)))
def a72 : AF := ⟨c72, [.t 4], 2, 20⟩
theorem m72 : mF Tryz.prog gl drD Tryz.f72 a72 = true := by kernel_rfl
theorem s72 {l : List AV} {r : AV} (hl : l.length = 2) (hi : idsL l = []) (h : wpA (SpH Tryz.prog gl) c72 (postA [.t 4] r) ⟨initE 0 l, [], []⟩) : Sp Tryz.prog gl 72 l r :=
  @fun_sp Tryz.prog gl drD 72 Tryz.f72 a72 Tryz.func72 m72 (dok _) l r hl hi h
theorem h72 {d : Nat} {I : In} {O : Out} (hl : I.vs.length = 2) (h : wpA (SpH Tryz.prog gl) c72 (postH d [.t 4] O) (inSt I)) : SpH Tryz.prog gl 72 d I O :=
  @fun_spH Tryz.prog gl drD 72 Tryz.f72 a72 Tryz.func72 m72 (dok _) d I O hl h
/-- firebell/report.digits -/
def c75 : AC :=
 (.sq (.rg [.mv 2 (.c (.str []))])
  (.sq (.rg [.mv 3 (.s 0),
   .cl 4 137 [(.s 3), (.c (.int .i64 10))],
   .mv 2 (.s 4)])
  .rt))
def a75 : AF := ⟨c75, [.t 2], 1, 5⟩
theorem m75 : mF Tryz.prog gl drD Tryz.f75 a75 = true := by kernel_rfl
theorem s75 {l : List AV} {r : AV} (hl : l.length = 1) (hi : idsL l = []) (h : wpA (SpH Tryz.prog gl) c75 (postA [.t 2] r) ⟨initE 0 l, [], []⟩) : Sp Tryz.prog gl 75 l r :=
  @fun_sp Tryz.prog gl drD 75 Tryz.f75 a75 Tryz.func75 m75 (dok _) l r hl hi h
theorem h75 {d : Nat} {I : In} {O : Out} (hl : I.vs.length = 1) (h : wpA (SpH Tryz.prog gl) c75 (postH d [.t 2] O) (inSt I)) : SpH Tryz.prog gl 75 d I O :=
  @fun_spH Tryz.prog gl drD 75 Tryz.f75 a75 Tryz.func75 m75 (dok _) d I O hl h
/-- firebell/signed.Print -/
def c76 : AC :=
 (.sq (.rg [.bx 1 (.s 0),
   .mv 2 (.c (.str []))])
  (.sq (.rg [.lda 3 3 (.s 1),
   .cl 4 138 [(.s 3)],
   .st 3 (.s 1) (.s 4)])
  (.sq (.sq (.rg [.fa 5 (.s 1) 0,
   .lds 6 (.s 5)])
  (.cd (.s 6) (.sq (.rg [.fa 7 (.s 1) 1,
   .lda 8 2 (.s 7),
   .cl 9 139 [(.s 8)],
   .bi 10 .add (.c (.str [45])) (.s 9),
   .mv 2 (.s 10)])
  .rt) .sk))
  (.sq (.rg [.fa 11 (.s 1) 1,
   .lda 12 2 (.s 11),
   .cl 13 139 [(.s 12)],
   .mv 2 (.s 13)])
  .rt))))
def a76 : AF := ⟨c76, [.t 2], 1, 14⟩
theorem m76 : mF Tryz.prog gl drD Tryz.f76 a76 = true := by kernel_rfl
theorem s76 {l : List AV} {r : AV} (hl : l.length = 1) (hi : idsL l = []) (h : wpA (SpH Tryz.prog gl) c76 (postA [.t 2] r) ⟨initE 0 l, [], []⟩) : Sp Tryz.prog gl 76 l r :=
  @fun_sp Tryz.prog gl drD 76 Tryz.f76 a76 Tryz.func76 m76 (dok _) l r hl hi h
theorem h76 {d : Nat} {I : In} {O : Out} (hl : I.vs.length = 1) (h : wpA (SpH Tryz.prog gl) c76 (postH d [.t 2] O) (inSt I)) : SpH Tryz.prog gl 76 d I O :=
  @fun_spH Tryz.prog gl drD 76 Tryz.f76 a76 Tryz.func76 m76 (dok _) d I O hl h
/-- firebell/change.Plan -/
def c95 : AC :=
 (.sq (.rg [.bx 2 (.s 0),
   .bx 3 (.s 1),
   .mv 4 (.c .nils),
   .mv 5 (.c (.int .i64 0))])
  (.sq (.sq (.rg [.lda 15 6 (.s 2),
   .cl 16 56 [(.s 15)],
   .un 17 .not (.s 16),
   .mv 18 (.s 17),
   .gd 18 false 19 (.lda 19 6 (.s 3)),
   .gd 18 false 20 (.cl 20 56 [(.s 19)]),
   .gd 18 false 21 (.un 21 .not (.s 20)),
   .pk 22 (.s 18) (.c (.bool true)) (.s 21)])
  (.cd (.s 22) (.sq (.rg [.mv 4 (.c .nils),
   .mv 5 (.c (.int .i64 2))])
  .rt) .sk))
  (.sq (.rg [.bd 23 [.nils] [],
   .bx 24 (.s 23),
   .mv 6 (.s 24)])
  (.sq (.sq (.rg [.fa 25 (.s 3) 0,
   .lds 26 (.s 25),
   .ln 27 (.s 26),
   .mv 28 (.c (.int .i64 0))])
  (.bl 0 (.lp (.sq (.rg [.bi 29 .lss (.s 28) (.s 27)])
  (.sq (.cd (.s 29) .sk (.ex 0))
  (.sq (.bl 1 (.sq (.rg [.ia 30 8 (.s 26) (.s 28),
   .lda 31 8 (.s 30),
   .al 8 [(.str []), (.int .u32 0), (.int .i64 0), (.int .i64 0), (.int .i64 0), (.int .i64 0), .nils, .nils],
   .st 8 (.s 8) (.s 31)])
  (.sq (.rg [.lda 33 6 (.s 2),
   .fa 34 (.s 8) 0,
   .lds 35 (.s 34),
   .cl 36 153 [(.s 33), (.s 35)],
   .mv 32 (.s 36),
   .exq 37 (.s 32) 0,
   .exq 38 (.s 32) 1,
   .al 9 [(.str []), (.int .u32 0), (.int .i64 0), (.int .i64 0), (.int .i64 0), (.int .i64 0), .nils, .nils],
   .st 8 (.s 9) (.s 37),
   .mv 10 (.s 38)])
  (.rg [.mv 39 (.s 6),
   .lda 40 8 (.s 8),
   .lda 41 8 (.s 9),
   .mv 42 (.s 10),
   .ce 43 154 [(.s 39), (.s 40), (.s 41), (.s 42)]]))))
  (.rg [.bi 44 .add (.s 28) (.c (.int .i64 1)),
   .mv 28 (.s 44)])))))))
  (.sq (.sq (.rg [.fa 45 (.s 2) 0,
   .lds 46 (.s 45),
   .ln 47 (.s 46),
   .mv 48 (.c (.int .i64 0))])
  (.bl 2 (.lp (.sq (.rg [.bi 49 .lss (.s 48) (.s 47)])
  (.sq (.cd (.s 49) .sk (.ex 2))
  (.sq (.bl 3 (.sq (.rg [.ia 50 8 (.s 46) (.s 48),
   .lda 51 8 (.s 50),
   .al 12 [(.str []), (.int .u32 0), (.int .i64 0), (.int .i64 0), (.int .i64 0), (.int .i64 0), .nils, .nils],
   .st 8 (.s 12) (.s 51)])
  (.sq (.rg [.lda 53 6 (.s 3),
   .fa 54 (.s 12) 0,
   .lds 55 (.s 54),
   .cl 56 153 [(.s 53), (.s 55)],
   .mv 52 (.s 56),
   .exq 57 (.s 52) 0,
   .exq 58 (.s 52) 1,
   .al 13 [(.str []), (.int .u32 0), (.int .i64 0), (.int .i64 0), (.int .i64 0), (.int .i64 0), .nils, .nils],
   .st 8 (.s 13) (.s 57),
   .mv 14 (.s 58)])
  (.sq (.rg [.mv 59 (.s 14),
   .un 60 .not (.s 59)])
  (.cd (.s 60) (.sq (.rg [.mv 61 (.s 6),
   .fa 62 (.s 12) 0,
   .lds 63 (.s 62),
   .ce 64 155 [(.s 61), (.s 63), (.c (.str [])), (.c (.int .i64 4))]])
  (.rg [.mv 65 (.s 6),
   .lda 66 8 (.s 12),
   .bd 67 [(.str []), (.int .u32 0), (.int .i64 0), (.int .i64 0), (.int .i64 0), (.int .i64 0), .nils, .nils] [],
   .ce 68 156 [(.s 65), (.s 66), (.s 67)]])) .sk)))))
  (.rg [.bi 69 .add (.s 48) (.c (.int .i64 1)),
   .mv 48 (.s 69)])))))))
  (.sq (.rg [.mv 70 (.s 6),
   .nc 71 (.s 70),
   .fa 72 (.s 71) 0,
   .lds 73 (.s 72),
   .mv 4 (.s 73),
   .mv 5 (.c (.int .i64 0))])
  .rt))))))
def a95 : AF := ⟨c95, [.t 4, .t 5], 2, 74⟩
theorem m95 : mF Tryz.prog gl drD Tryz.f95 a95 = true := by kernel_rfl
theorem s95 {l : List AV} {r : AV} (hl : l.length = 2) (hi : idsL l = []) (h : wpA (SpH Tryz.prog gl) c95 (postA [.t 4, .t 5] r) ⟨initE 0 l, [], []⟩) : Sp Tryz.prog gl 95 l r :=
  @fun_sp Tryz.prog gl drD 95 Tryz.f95 a95 Tryz.func95 m95 (dok _) l r hl hi h
theorem h95 {d : Nat} {I : In} {O : Out} (hl : I.vs.length = 2) (h : wpA (SpH Tryz.prog gl) c95 (postH d [.t 4, .t 5] O) (inSt I)) : SpH Tryz.prog gl 95 d I O :=
  @fun_spH Tryz.prog gl drD 95 Tryz.f95 a95 Tryz.func95 m95 (dok _) d I O hl h
/-- firebell/firebellref18.words -/
def c96 : AC :=
 (.sq (.rg [.mv 0 (.c .nils)])
  (.sq (.rg [.bs 1 1 [(.c (.str [])), (.c (.str [99, 111, 109, 101, 115])), (.c (.str [115, 116, 97, 121, 115])), (.c (.str [116, 117, 114, 110, 115])), (.c (.str [103, 111, 101, 115]))],
   .mv 0 (.s 1)])
  .rt))
def a96 : AF := ⟨c96, [.t 0], 0, 2⟩
theorem m96 : mF Tryz.prog gl drD Tryz.f96 a96 = true := by kernel_rfl
theorem s96 {l : List AV} {r : AV} (hl : l.length = 0) (hi : idsL l = []) (h : wpA (SpH Tryz.prog gl) c96 (postA [.t 0] r) ⟨initE 0 l, [], []⟩) : Sp Tryz.prog gl 96 l r :=
  @fun_sp Tryz.prog gl drD 96 Tryz.f96 a96 Tryz.func96 m96 (dok _) l r hl hi h
theorem h96 {d : Nat} {I : In} {O : Out} (hl : I.vs.length = 0) (h : wpA (SpH Tryz.prog gl) c96 (postH d [.t 0] O) (inSt I)) : SpH Tryz.prog gl 96 d I O :=
  @fun_spH Tryz.prog gl drD 96 Tryz.f96 a96 Tryz.func96 m96 (dok _) d I O hl h
/-- firebell/change.right -/
def c97 : AC :=
 (.sq (.rg [.bx 1 (.s 0),
   .mv 2 (.c (.bool false))])
  (.sq (.rg [.fa 3 (.s 1) 2,
   .lds 4 (.s 3),
   .cl 5 99 [(.s 4)],
   .bi 6 .neq (.s 5) (.c (.str [])),
   .mv 7 (.s 6),
   .gd 7 true 8 (.fa 8 (.s 1) 0),
   .gd 7 true 9 (.lds 9 (.s 8)),
   .gd 7 true 10 (.cl 10 41 [(.s 9)]),
   .pk 11 (.s 7) (.s 10) (.c (.bool false)),
   .mv 12 (.s 11),
   .gd 12 true 13 (.fa 13 (.s 1) 1),
   .gd 12 true 14 (.lds 14 (.s 13)),
   .gd 12 true 15 (.bi 15 .eql (.s 14) (.c (.str []))),
   .gd 12 true 16 (.mv 16 (.s 15)),
   .gd 16 false 17 (.fa 17 (.s 1) 1),
   .gd 16 false 18 (.lds 18 (.s 17)),
   .gd 16 false 19 (.cl 19 41 [(.s 18)]),
   .gd 12 true 20 (.pk 20 (.s 16) (.c (.bool true)) (.s 19)),
   .pk 21 (.s 12) (.s 20) (.c (.bool false)),
   .mv 2 (.s 21)])
  .rt))
def a97 : AF := ⟨c97, [.t 2], 1, 22⟩
theorem m97 : mF Tryz.prog gl drD Tryz.f97 a97 = true := by kernel_rfl
theorem s97 {l : List AV} {r : AV} (hl : l.length = 1) (hi : idsL l = []) (h : wpA (SpH Tryz.prog gl) c97 (postA [.t 2] r) ⟨initE 0 l, [], []⟩) : Sp Tryz.prog gl 97 l r :=
  @fun_sp Tryz.prog gl drD 97 Tryz.f97 a97 Tryz.func97 m97 (dok _) l r hl hi h
theorem h97 {d : Nat} {I : In} {O : Out} (hl : I.vs.length = 1) (h : wpA (SpH Tryz.prog gl) c97 (postH d [.t 2] O) (inSt I)) : SpH Tryz.prog gl 97 d I O :=
  @fun_spH Tryz.prog gl drD 97 Tryz.f97 a97 Tryz.func97 m97 (dok _) d I O hl h
/-- firebell/change.word -/
def c99 : AC :=
 (.sq (.rg [.mv 2 (.c (.str []))])
  (.sq (.sq (.rg [.cl 5 158 [(.c (.str [99, 111, 109, 101, 115, 32, 115, 116, 97, 121, 115, 32, 116, 117, 114, 110, 115, 32, 103, 111, 101, 115]))],
   .ln 6 (.s 5),
   .mv 7 (.c (.int .i64 0))])
  (.bl 0 (.lp (.sq (.rg [.bi 8 .lss (.s 7) (.s 6)])
  (.sq (.cd (.s 8) .sk (.ex 0))
  (.sq (.bl 1 (.sq (.rg [.mv 9 (.s 7),
   .ia 10 1 (.s 5) (.s 7),
   .lds 11 (.s 10),
   .mv 3 (.s 9),
   .mv 4 (.s 11)])
  (.sq (.rg [.mv 12 (.s 3),
   .bi 13 .add (.s 12) (.c (.int .i64 1)),
   .mv 14 (.s 0),
   .bi 15 .eql (.s 13) (.s 14)])
  (.cd (.s 15) (.sq (.rg [.mv 16 (.s 4),
   .mv 2 (.s 16)])
  .rt) .sk))))
  (.rg [.bi 17 .add (.s 7) (.c (.int .i64 1)),
   .mv 7 (.s 17)])))))))
  (.sq (.rg [.mv 2 (.c (.str []))])
  .rt)))
def a99 : AF := ⟨c99, [.t 2], 1, 18⟩
theorem m99 : mF Tryz.prog gl drD Tryz.f99 a99 = true := by kernel_rfl
theorem s99 {l : List AV} {r : AV} (hl : l.length = 1) (hi : idsL l = []) (h : wpA (SpH Tryz.prog gl) c99 (postA [.t 2] r) ⟨initE 0 l, [], []⟩) : Sp Tryz.prog gl 99 l r :=
  @fun_sp Tryz.prog gl drD 99 Tryz.f99 a99 Tryz.func99 m99 (dok _) l r hl hi h
theorem h99 {d : Nat} {I : In} {O : Out} (hl : I.vs.length = 1) (h : wpA (SpH Tryz.prog gl) c99 (postH d [.t 2] O) (inSt I)) : SpH Tryz.prog gl 99 d I O :=
  @fun_spH Tryz.prog gl drD 99 Tryz.f99 a99 Tryz.func99 m99 (dok _) d I O hl h
/-- (*strings.Builder).WriteByte -/
def c100 : AC :=
 (.sq (.rg [.no])
  (.sq (.rg [.mv 5 (.s 0),
   .ce 6 157 [(.s 5)]])
  (.sq (.rg [.mv 7 (.s 0),
   .mv 8 (.s 0),
   .nc 9 (.s 8),
   .fa 10 (.s 9) 1,
   .lo 11 (.s 10),
   .mv 12 (.s 1),
   .bs 13 1 [(.s 12)],
   .ap 14 1 1 (.s 11) (.s 13),
   .nc 15 (.s 7),
   .fa 16 (.s 15) 1,
   .so (.s 16) 14])
  (.sq (.rg [.no])
  .rt))))
def a100 : AF := ⟨c100, [.t 4], 2, 17⟩
theorem m100 : mF Tryz.prog gl drD Tryz.f100 a100 = true := by kernel_rfl
theorem s100 {l : List AV} {r : AV} (hl : l.length = 2) (hi : idsL l = []) (h : wpA (SpH Tryz.prog gl) c100 (postA [.t 4] r) ⟨initE 0 l, [], []⟩) : Sp Tryz.prog gl 100 l r :=
  @fun_sp Tryz.prog gl drD 100 Tryz.f100 a100 Tryz.func100 m100 (dok _) l r hl hi h
theorem h100 {d : Nat} {I : In} {O : Out} (hl : I.vs.length = 2) (h : wpA (SpH Tryz.prog gl) c100 (postH d [.t 4] O) (inSt I)) : SpH Tryz.prog gl 100 d I O :=
  @fun_spH Tryz.prog gl drD 100 Tryz.f100 a100 Tryz.func100 m100 (dok _) d I O hl h
/-- strings.Cut -/
def c101 : AC :=
 (.sq (.rg [.mv 4 (.c (.str [])),
   .mv 5 (.c (.str [])),
   .mv 6 (.c (.bool false))])
  (.sq (.rg [.mv 7 (.s 0),
   .mv 8 (.s 1),
   .cl 9 159 [(.s 7), (.s 8)],
   .exq 10 (.s 9) 0,
   .exq 11 (.s 9) 1,
   .exq 12 (.s 9) 2,
   .mv 4 (.s 10),
   .mv 5 (.s 11),
   .mv 6 (.s 12)])
  .rt))
def a101 : AF := ⟨c101, [.t 4, .t 5, .t 6], 2, 13⟩
theorem m101 : mF Tryz.prog gl drD Tryz.f101 a101 = true := by kernel_rfl
theorem s101 {l : List AV} {r : AV} (hl : l.length = 2) (hi : idsL l = []) (h : wpA (SpH Tryz.prog gl) c101 (postA [.t 4, .t 5, .t 6] r) ⟨initE 0 l, [], []⟩) : Sp Tryz.prog gl 101 l r :=
  @fun_sp Tryz.prog gl drD 101 Tryz.f101 a101 Tryz.func101 m101 (dok _) l r hl hi h
theorem h101 {d : Nat} {I : In} {O : Out} (hl : I.vs.length = 2) (h : wpA (SpH Tryz.prog gl) c101 (postH d [.t 4, .t 5, .t 6] O) (inSt I)) : SpH Tryz.prog gl 101 d I O :=
  @fun_spH Tryz.prog gl drD 101 Tryz.f101 a101 Tryz.func101 m101 (dok _) d I O hl h
/-- firebell/change.turn -/
def c102 : AC :=
 (.sq (.rg [.al 2 [(.str []), (.str []), (.int .i64 0)],
   .mv 3 (.c (.bool false))])
  (.sq (.rg [.mv 6 (.s 0),
   .cl 7 160 [(.s 6), (.c (.str [32]))],
   .mv 4 (.s 7)])
  (.sq (.sq (.rg [.mv 8 (.s 4),
   .ln 9 (.s 8),
   .bi 10 .lss (.s 9) (.c (.int .i64 2)),
   .mv 11 (.s 10),
   .gd 11 false 12 (.mv 12 (.s 4)),
   .gd 11 false 13 (.ln 13 (.s 12)),
   .gd 11 false 14 (.bi 14 .gtr (.s 13) (.c (.int .i64 3))),
   .pk 15 (.s 11) (.c (.bool true)) (.s 14)])
  (.cd (.s 15) (.sq (.rg [.bd 16 [(.str []), (.str []), (.int .i64 0)] [],
   .st 3 (.s 2) (.s 16),
   .mv 3 (.c (.bool false))])
  .rt) .sk))
  (.sq (.rd [[], [], [], [], [], [], [], [], [2, 6], []] [.mv 17 (.s 4),
   .ia 18 1 (.s 17) (.c (.int .i64 0)),
   .lds 19 (.s 18),
   .cl 20 161 [(.s 19)],
   .mv 21 (.s 4),
   .ia 22 1 (.s 21) (.c (.int .i64 1)),
   .lds 23 (.s 22),
   .bd 24 [(.str []), (.str []), (.int .i64 0)] [(2, 1, (.s 20)), (0, 1, (.s 23))],
   .al 5 [(.str []), (.str []), (.int .i64 0)],
   .st 3 (.s 5) (.s 24)])
  (.sq (.sq (.rg [.mv 25 (.s 4),
   .ln 26 (.s 25),
   .bi 27 .eql (.s 26) (.c (.int .i64 3))])
  (.cd (.s 27) (.rg [.mv 28 (.s 4),
   .ia 29 1 (.s 28) (.c (.int .i64 2)),
   .lds 30 (.s 29),
   .fa 31 (.s 5) 1,
   .st 1 (.s 31) (.s 30)]) .sk))
  (.sq (.rd [[], [], [], [], [], [], [], [], [], [], [], [], [], [9], []] [.lda 32 3 (.s 5),
   .lda 33 3 (.s 5),
   .cl 34 97 [(.s 33)],
   .mv 35 (.s 34),
   .gd 35 true 36 (.mv 36 (.s 4)),
   .gd 35 true 37 (.ln 37 (.s 36)),
   .gd 35 true 38 (.bi 38 .eql (.s 37) (.c (.int .i64 2))),
   .gd 35 true 39 (.mv 39 (.s 38)),
   .gd 39 false 40 (.fa 40 (.s 5) 1),
   .gd 39 false 41 (.lds 41 (.s 40)),
   .gd 39 false 42 (.bi 42 .neq (.s 41) (.c (.str []))),
   .gd 35 true 43 (.pk 43 (.s 39) (.c (.bool true)) (.s 42)),
   .pk 44 (.s 35) (.s 43) (.c (.bool false)),
   .st 3 (.s 2) (.s 32),
   .mv 3 (.s 44)])
  .rt))))))
def a102 : AF := ⟨c102, [.ca 2 3, .t 3], 1, 45⟩
theorem m102 : mF Tryz.prog gl drD Tryz.f102 a102 = true := by kernel_rfl
theorem s102 {l : List AV} {r : AV} (hl : l.length = 1) (hi : idsL l = []) (h : wpA (SpH Tryz.prog gl) c102 (postA [.ca 2 3, .t 3] r) ⟨initE 0 l, [], []⟩) : Sp Tryz.prog gl 102 l r :=
  @fun_sp Tryz.prog gl drD 102 Tryz.f102 a102 Tryz.func102 m102 (dok _) l r hl hi h
theorem h102 {d : Nat} {I : In} {O : Out} (hl : I.vs.length = 1) (h : wpA (SpH Tryz.prog gl) c102 (postH d [.ca 2 3, .t 3] O) (inSt I)) : SpH Tryz.prog gl 102 d I O :=
  @fun_spH Tryz.prog gl drD 102 Tryz.f102 a102 Tryz.func102 m102 (dok _) d I O hl h
/-- firebell/firebellref18.part -/
def c103 : AC :=
 (.sq (.rg [.mv 4 (.c (.str [])),
   .mv 5 (.c (.int .i64 0))])
  (.sq (.rg [.mv 7 (.s 1),
   .mv 6 (.s 7)])
  (.sq (.bl 0 (.lp (.sq (.sq (.rg [.mv 8 (.s 6),
   .mv 9 (.s 0),
   .lns 10 (.s 9),
   .bi 11 .lss (.s 8) (.s 10),
   .mv 12 (.s 11),
   .gd 12 true 13 (.mv 13 (.s 0)),
   .gd 12 true 14 (.mv 14 (.s 6)),
   .gd 12 true 15 (.ixs 15 (.s 13) (.s 14)),
   .gd 12 true 16 (.bi 16 .neq (.s 15) (.c (.int .u8 32))),
   .pk 17 (.s 12) (.s 16) (.c (.bool false)),
   .mv 18 (.s 17),
   .gd 18 true 19 (.mv 19 (.s 0)),
   .gd 18 true 20 (.mv 20 (.s 6)),
   .gd 18 true 21 (.ixs 21 (.s 19) (.s 20)),
   .gd 18 true 22 (.bi 22 .neq (.s 21) (.c (.int .u8 10))),
   .pk 23 (.s 18) (.s 22) (.c (.bool false))])
  (.cd (.s 23) .sk (.ex 0)))
  (.bl 1 (.rg [.mv 24 (.s 6),
   .bi 25 .add (.s 24) (.c (.int .i64 1)),
   .mv 6 (.s 25)])))))
  (.sq (.rg [.mv 26 (.s 0),
   .mv 27 (.s 1),
   .mv 28 (.s 6),
   .sls 29 (.s 26) (some (.s 27)) (some (.s 28)),
   .mv 30 (.s 6),
   .mv 4 (.s 29),
   .mv 5 (.s 30)])
  .rt))))
def a103 : AF := ⟨c103, [.t 4, .t 5], 2, 31⟩
theorem m103 : mF Tryz.prog gl drD Tryz.f103 a103 = true := by kernel_rfl
theorem s103 {l : List AV} {r : AV} (hl : l.length = 2) (hi : idsL l = []) (h : wpA (SpH Tryz.prog gl) c103 (postA [.t 4, .t 5] r) ⟨initE 0 l, [], []⟩) : Sp Tryz.prog gl 103 l r :=
  @fun_sp Tryz.prog gl drD 103 Tryz.f103 a103 Tryz.func103 m103 (dok _) l r hl hi h
theorem h103 {d : Nat} {I : In} {O : Out} (hl : I.vs.length = 2) (h : wpA (SpH Tryz.prog gl) c103 (postH d [.t 4, .t 5] O) (inSt I)) : SpH Tryz.prog gl 103 d I O :=
  @fun_spH Tryz.prog gl drD 103 Tryz.f103 a103 Tryz.func103 m103 (dok _) d I O hl h
/-- firebell/layout.Print -/
def c105 : AC :=
 (.sq (.rg [.mv 2 (.c (.str [])),
   .mv 3 (.c (.int .i64 0))])
  (.sq (.sq (.rg [.mv 5 (.s 0),
   .cl 6 167 [(.s 5)],
   .un 7 .not (.s 6)])
  (.cd (.s 7) (.sq (.rg [.mv 2 (.c (.str [])),
   .mv 3 (.c (.int .i64 6))])
  .rt) .sk))
  (.sq (.rg [.bd 8 [.nilp, .nils, (.int .i64 0)] [],
   .bxT 9 257 0 (.s 8),
   .mv 4 (.s 9)])
  (.sq (.rg [.mv 10 (.s 4),
   .mv 11 (.s 0),
   .ce 12 168 [(.s 10), (.s 11)]])
  (.sq (.rg [.mv 13 (.s 4),
   .nc 14 (.s 13),
   .fa 15 (.s 14) 0,
   .ce 16 80 [(.s 15)],
   .mv 2 (.s 16),
   .mv 3 (.c (.int .i64 0))])
  .rt)))))
def a105 : AF := ⟨c105, [.t 2, .t 3], 1, 17⟩
theorem m105 : mF Tryz.prog gl drD Tryz.f105 a105 = true := by kernel_rfl
theorem s105 {l : List AV} {r : AV} (hl : l.length = 1) (hi : idsL l = []) (h : wpA (SpH Tryz.prog gl) c105 (postA [.t 2, .t 3] r) ⟨initE 0 l, [], []⟩) : Sp Tryz.prog gl 105 l r :=
  @fun_sp Tryz.prog gl drD 105 Tryz.f105 a105 Tryz.func105 m105 (dok _) l r hl hi h
theorem h105 {d : Nat} {I : In} {O : Out} (hl : I.vs.length = 1) (h : wpA (SpH Tryz.prog gl) c105 (postH d [.t 2, .t 3] O) (inSt I)) : SpH Tryz.prog gl 105 d I O :=
  @fun_spH Tryz.prog gl drD 105 Tryz.f105 a105 Tryz.func105 m105 (dok _) d I O hl h
/-- firebell/text.Letter -/
def c106 : AC :=
 (.sq (.rg [.mv 2 (.c (.bool false))])
  (.sq (.bl 0 (.sq (.rg [.mv 4 (.s 0),
   .bi 5 .geq (.s 4) (.c (.int .i32 97)),
   .mv 6 (.s 5),
   .gd 6 true 7 (.mv 7 (.s 0)),
   .gd 6 true 8 (.bi 8 .leq (.s 7) (.c (.int .i32 122))),
   .pk 9 (.s 6) (.s 8) (.c (.bool false)),
   .mv 10 (.s 9),
   .gd 10 false 11 (.mv 11 (.s 0)),
   .gd 10 false 12 (.bi 12 .geq (.s 11) (.c (.int .i32 65))),
   .gd 10 false 13 (.mv 13 (.s 12)),
   .gd 13 true 14 (.mv 14 (.s 0)),
   .gd 13 true 15 (.bi 15 .leq (.s 14) (.c (.int .i32 90))),
   .gd 10 false 16 (.pk 16 (.s 13) (.s 15) (.c (.bool false))),
   .pk 17 (.s 10) (.c (.bool true)) (.s 16),
   .mv 3 (.s 17)])
  (.cd (.s 3) (.sq (.rg [.mv 2 (.c (.bool true))])
  .rt) (.sq (.rg [.mv 19 (.s 0),
   .bi 20 .eql (.s 19) (.c (.int .i32 215)),
   .mv 21 (.s 20),
   .gd 21 false 22 (.mv 22 (.s 0)),
   .gd 21 false 23 (.bi 23 .eql (.s 22) (.c (.int .i32 247))),
   .pk 24 (.s 21) (.c (.bool true)) (.s 23),
   .mv 18 (.s 24)])
  (.cd (.s 18) (.sq (.rg [.mv 2 (.c (.bool false))])
  .rt) (.sq (.rg [.mv 26 (.s 0),
   .bi 27 .geq (.s 26) (.c (.int .i32 192)),
   .mv 28 (.s 27),
   .gd 28 true 29 (.mv 29 (.s 0)),
   .gd 28 true 30 (.bi 30 .leq (.s 29) (.c (.int .i32 591))),
   .pk 31 (.s 28) (.s 30) (.c (.bool false)),
   .mv 25 (.s 31)])
  (.cd (.s 25) (.sq (.rg [.mv 2 (.c (.bool true))])
  .rt) .sk)))))))
  (.sq (.rg [.mv 32 (.s 0),
   .bi 33 .geq (.s 32) (.c (.int .i32 880)),
   .mv 34 (.s 33),
   .gd 34 true 35 (.mv 35 (.s 0)),
   .gd 34 true 36 (.bi 36 .leq (.s 35) (.c (.int .i32 1279))),
   .pk 37 (.s 34) (.s 36) (.c (.bool false)),
   .mv 2 (.s 37)])
  .rt)))
def a106 : AF := ⟨c106, [.t 2], 1, 38⟩
theorem m106 : mF Tryz.prog gl drD Tryz.f106 a106 = true := by kernel_rfl
theorem s106 {l : List AV} {r : AV} (hl : l.length = 1) (hi : idsL l = []) (h : wpA (SpH Tryz.prog gl) c106 (postA [.t 2] r) ⟨initE 0 l, [], []⟩) : Sp Tryz.prog gl 106 l r :=
  @fun_sp Tryz.prog gl drD 106 Tryz.f106 a106 Tryz.func106 m106 (dok _) l r hl hi h
theorem h106 {d : Nat} {I : In} {O : Out} (hl : I.vs.length = 1) (h : wpA (SpH Tryz.prog gl) c106 (postH d [.t 2] O) (inSt I)) : SpH Tryz.prog gl 106 d I O :=
  @fun_spH Tryz.prog gl drD 106 Tryz.f106 a106 Tryz.func106 m106 (dok _) d I O hl h
/-- firebell/text.digit -/
def c107 : AC :=
 (.sq (.rg [.mv 2 (.c (.bool false))])
  (.sq (.rg [.mv 3 (.s 0),
   .bi 4 .geq (.s 3) (.c (.int .i32 48)),
   .mv 5 (.s 4),
   .gd 5 true 6 (.mv 6 (.s 0)),
   .gd 5 true 7 (.bi 7 .leq (.s 6) (.c (.int .i32 57))),
   .pk 8 (.s 5) (.s 7) (.c (.bool false)),
   .mv 2 (.s 8)])
  .rt))
def a107 : AF := ⟨c107, [.t 2], 1, 9⟩
theorem m107 : mF Tryz.prog gl drD Tryz.f107 a107 = true := by kernel_rfl
theorem s107 {l : List AV} {r : AV} (hl : l.length = 1) (hi : idsL l = []) (h : wpA (SpH Tryz.prog gl) c107 (postA [.t 2] r) ⟨initE 0 l, [], []⟩) : Sp Tryz.prog gl 107 l r :=
  @fun_sp Tryz.prog gl drD 107 Tryz.f107 a107 Tryz.func107 m107 (dok _) l r hl hi h
theorem h107 {d : Nat} {I : In} {O : Out} (hl : I.vs.length = 1) (h : wpA (SpH Tryz.prog gl) c107 (postH d [.t 2] O) (inSt I)) : SpH Tryz.prog gl 107 d I O :=
  @fun_spH Tryz.prog gl drD 107 Tryz.f107 a107 Tryz.func107 m107 (dok _) d I O hl h
/-- firebell/text.Good -/
def c108 : AC :=
 (.sq (.rg [.mv 2 (.c (.bool false))])
  (.sq (.rg [.mv 3 (.s 0),
   .cl 4 169 [(.s 3)],
   .mv 2 (.s 4)])
  .rt))
def a108 : AF := ⟨c108, [.t 2], 1, 5⟩
theorem m108 : mF Tryz.prog gl drD Tryz.f108 a108 = true := by kernel_rfl
theorem s108 {l : List AV} {r : AV} (hl : l.length = 1) (hi : idsL l = []) (h : wpA (SpH Tryz.prog gl) c108 (postA [.t 2] r) ⟨initE 0 l, [], []⟩) : Sp Tryz.prog gl 108 l r :=
  @fun_sp Tryz.prog gl drD 108 Tryz.f108 a108 Tryz.func108 m108 (dok _) l r hl hi h
theorem h108 {d : Nat} {I : In} {O : Out} (hl : I.vs.length = 1) (h : wpA (SpH Tryz.prog gl) c108 (postH d [.t 2] O) (inSt I)) : SpH Tryz.prog gl 108 d I O :=
  @fun_spH Tryz.prog gl drD 108 Tryz.f108 a108 Tryz.func108 m108 (dok _) d I O hl h
/-- firebell/text.Count -/
def c109 : AC :=
 (.sq (.rg [.mv 2 (.c (.int .i64 0))])
  (.sq (.rg [.mv 3 (.c (.int .i64 0))])
  (.sq (.sq (.rg [.mv 4 (.s 0),
   .rs 5 (.s 4)])
  (.bl 0 (.lp (.sq (.rg [.nx 6 (.s 5),
   .exq 7 (.s 6) 0])
  (.sq (.cd (.s 7) .sk (.ex 0))
  (.bl 1 (.rg [.mv 8 (.s 3),
   .bi 9 .add (.s 8) (.c (.int .i64 1)),
   .mv 3 (.s 9)])))))))
  (.sq (.rg [.mv 10 (.s 3),
   .mv 2 (.s 10)])
  .rt))))
def a109 : AF := ⟨c109, [.t 2], 1, 11⟩
theorem m109 : mF Tryz.prog gl drD Tryz.f109 a109 = true := by kernel_rfl
theorem s109 {l : List AV} {r : AV} (hl : l.length = 1) (hi : idsL l = []) (h : wpA (SpH Tryz.prog gl) c109 (postA [.t 2] r) ⟨initE 0 l, [], []⟩) : Sp Tryz.prog gl 109 l r :=
  @fun_sp Tryz.prog gl drD 109 Tryz.f109 a109 Tryz.func109 m109 (dok _) l r hl hi h
theorem h109 {d : Nat} {I : In} {O : Out} (hl : I.vs.length = 1) (h : wpA (SpH Tryz.prog gl) c109 (postH d [.t 2] O) (inSt I)) : SpH Tryz.prog gl 109 d I O :=
  @fun_spH Tryz.prog gl drD 109 Tryz.f109 a109 Tryz.func109 m109 (dok _) d I O hl h
/-- firebell/show.unlike[firebell/api.Label] -/
def c110 : AC :=
 (.sq (.rg [.mv 4 (.c (.bool false))])
  (.sq (.rg [.mkp 8,
   .mv 5 (.s 8)])
  (.sq (.sq (.rg [.mv 9 (.s 0),
   .ln 10 (.s 9),
   .mv 11 (.c (.int .i64 0))])
  (.bl 0 (.lp (.sq (.rg [.bi 12 .lss (.s 11) (.s 10)])
  (.sq (.cd (.s 12) .sk (.ex 0))
  (.sq (.bl 1 (.sq (.rg [.ia 13 2 (.s 9) (.s 11),
   .lda 14 2 (.s 13),
   .al 7 [(.str []), (.str [])],
   .st 2 (.s 7) (.s 14)])
  (.rg [.mv 15 (.s 5),
   .mv 16 (.s 1),
   .lda 17 2 (.s 7),
   .cd 18 (.s 16) [(.s 17)],
   .mlk 19 .s (.i .i64 0) (.s 15) (.s 18) false,
   .bi 20 .add (.s 19) (.c (.int .i64 1)),
   .mup .s (.s 15) (.s 18) (.s 20)])))
  (.rg [.bi 21 .add (.s 11) (.c (.int .i64 1)),
   .mv 11 (.s 21)])))))))
  (.sq (.rg [.mv 22 (.s 5),
   .mpl 23 (.s 22),
   .mv 24 (.s 0),
   .ln 25 (.s 24),
   .bi 26 .eql (.s 23) (.s 25),
   .mv 4 (.s 26)])
  .rt))))
def a110 : AF := ⟨c110, [.t 4], 2, 27⟩
theorem m110 : mF Tryz.prog gl drD Tryz.f110 a110 = true := by kernel_rfl
theorem s110 {l : List AV} {r : AV} (hl : l.length = 2) (hi : idsL l = []) (h : wpA (SpH Tryz.prog gl) c110 (postA [.t 4] r) ⟨initE 0 l, [], []⟩) : Sp Tryz.prog gl 110 l r :=
  @fun_sp Tryz.prog gl drD 110 Tryz.f110 a110 Tryz.func110 m110 (dok _) l r hl hi h
theorem h110 {d : Nat} {I : In} {O : Out} (hl : I.vs.length = 2) (h : wpA (SpH Tryz.prog gl) c110 (postH d [.t 4] O) (inSt I)) : SpH Tryz.prog gl 110 d I O :=
  @fun_spH Tryz.prog gl drD 110 Tryz.f110 a110 Tryz.func110 m110 (dok _) d I O hl h
/-- firebell/show.labels$1 -/
def c111 : AC :=
 (.sq (.rg [.bx 1 (.s 0),
   .mv 2 (.c (.str []))])
  (.sq (.rg [.fa 3 (.s 1) 0,
   .lds 4 (.s 3),
   .mv 2 (.s 4)])
  .rt))
def a111 : AF := ⟨c111, [.t 2], 1, 5⟩
theorem m111 : mF Tryz.prog gl drD Tryz.f111 a111 = true := by kernel_rfl
theorem s111 {l : List AV} {r : AV} (hl : l.length = 1) (hi : idsL l = []) (h : wpA (SpH Tryz.prog gl) c111 (postA [.t 2] r) ⟨initE 0 l, [], []⟩) : Sp Tryz.prog gl 111 l r :=
  @fun_sp Tryz.prog gl drD 111 Tryz.f111 a111 Tryz.func111 m111 (dok _) l r hl hi h
theorem h111 {d : Nat} {I : In} {O : Out} (hl : I.vs.length = 1) (h : wpA (SpH Tryz.prog gl) c111 (postH d [.t 2] O) (inSt I)) : SpH Tryz.prog gl 111 d I O :=
  @fun_spH Tryz.prog gl drD 111 Tryz.f111 a111 Tryz.func111 m111 (dok _) d I O hl h
/-- firebell/show.unlike[firebell/api.Rule] -/
def c112 : AC :=
 (.sq (.rg [.mv 4 (.c (.bool false))])
  (.sq (.rg [.mkp 8,
   .mv 5 (.s 8)])
  (.sq (.sq (.rg [.mv 9 (.s 0),
   .ln 10 (.s 9),
   .mv 11 (.c (.int .i64 0))])
  (.bl 0 (.lp (.sq (.rg [.bi 12 .lss (.s 11) (.s 10)])
  (.sq (.cd (.s 12) .sk (.ex 0))
  (.sq (.bl 1 (.sq (.rg [.ia 13 7 (.s 9) (.s 11),
   .lda 14 7 (.s 13),
   .al 7 [(.str []), (.bool false), (.int .i64 0), (.int .i64 0), (.int .u64 0), (.int .i64 0), (.int .i64 0)],
   .st 7 (.s 7) (.s 14)])
  (.rg [.mv 15 (.s 5),
   .mv 16 (.s 1),
   .lda 17 7 (.s 7),
   .cd 18 (.s 16) [(.s 17)],
   .mlk 19 .s (.i .i64 0) (.s 15) (.s 18) false,
   .bi 20 .add (.s 19) (.c (.int .i64 1)),
   .mup .s (.s 15) (.s 18) (.s 20)])))
  (.rg [.bi 21 .add (.s 11) (.c (.int .i64 1)),
   .mv 11 (.s 21)])))))))
  (.sq (.rg [.mv 22 (.s 5),
   .mpl 23 (.s 22),
   .mv 24 (.s 0),
   .ln 25 (.s 24),
   .bi 26 .eql (.s 23) (.s 25),
   .mv 4 (.s 26)])
  .rt))))
def a112 : AF := ⟨c112, [.t 4], 2, 27⟩
theorem m112 : mF Tryz.prog gl drD Tryz.f112 a112 = true := by kernel_rfl
theorem s112 {l : List AV} {r : AV} (hl : l.length = 2) (hi : idsL l = []) (h : wpA (SpH Tryz.prog gl) c112 (postA [.t 4] r) ⟨initE 0 l, [], []⟩) : Sp Tryz.prog gl 112 l r :=
  @fun_sp Tryz.prog gl drD 112 Tryz.f112 a112 Tryz.func112 m112 (dok _) l r hl hi h
theorem h112 {d : Nat} {I : In} {O : Out} (hl : I.vs.length = 2) (h : wpA (SpH Tryz.prog gl) c112 (postH d [.t 4] O) (inSt I)) : SpH Tryz.prog gl 112 d I O :=
  @fun_spH Tryz.prog gl drD 112 Tryz.f112 a112 Tryz.func112 m112 (dok _) d I O hl h
/-- firebell/show.rules$1 -/
def c113 : AC :=
 (.sq (.rg [.bx 1 (.s 0),
   .mv 2 (.c (.str []))])
  (.sq (.rg [.fa 3 (.s 1) 0,
   .lds 4 (.s 3),
   .mv 2 (.s 4)])
  .rt))
def a113 : AF := ⟨c113, [.t 2], 1, 5⟩
theorem m113 : mF Tryz.prog gl drD Tryz.f113 a113 = true := by kernel_rfl
theorem s113 {l : List AV} {r : AV} (hl : l.length = 1) (hi : idsL l = []) (h : wpA (SpH Tryz.prog gl) c113 (postA [.t 2] r) ⟨initE 0 l, [], []⟩) : Sp Tryz.prog gl 113 l r :=
  @fun_sp Tryz.prog gl drD 113 Tryz.f113 a113 Tryz.func113 m113 (dok _) l r hl hi h
theorem h113 {d : Nat} {I : In} {O : Out} (hl : I.vs.length = 1) (h : wpA (SpH Tryz.prog gl) c113 (postH d [.t 2] O) (inSt I)) : SpH Tryz.prog gl 113 d I O :=
  @fun_spH Tryz.prog gl drD 113 Tryz.f113 a113 Tryz.func113 m113 (dok _) d I O hl h
/-- firebell/firebellref06.Letter -/
def c114 : AC :=
 (.sq (.rg [.mv 2 (.c (.bool false))])
  (.sq (.sq (.rg [.mv 3 (.s 0),
   .bi 4 .geq (.s 3) (.c (.int .i32 97)),
   .mv 5 (.s 4),
   .gd 5 true 6 (.mv 6 (.s 0)),
   .gd 5 true 7 (.bi 7 .leq (.s 6) (.c (.int .i32 122))),
   .pk 8 (.s 5) (.s 7) (.c (.bool false)),
   .mv 9 (.s 8),
   .gd 9 false 10 (.mv 10 (.s 0)),
   .gd 9 false 11 (.bi 11 .geq (.s 10) (.c (.int .i32 65))),
   .gd 9 false 12 (.mv 12 (.s 11)),
   .gd 12 true 13 (.mv 13 (.s 0)),
   .gd 12 true 14 (.bi 14 .leq (.s 13) (.c (.int .i32 90))),
   .gd 9 false 15 (.pk 15 (.s 12) (.s 14) (.c (.bool false))),
   .pk 16 (.s 9) (.c (.bool true)) (.s 15)])
  (.cd (.s 16) (.sq (.rg [.mv 2 (.c (.bool true))])
  .rt) .sk))
  (.sq (.sq (.rg [.mv 17 (.s 0),
   .bi 18 .geq (.s 17) (.c (.int .i32 192)),
   .mv 19 (.s 18),
   .gd 19 true 20 (.mv 20 (.s 0)),
   .gd 19 true 21 (.bi 21 .leq (.s 20) (.c (.int .i32 591))),
   .pk 22 (.s 19) (.s 21) (.c (.bool false))])
  (.cd (.s 22) (.sq (.rg [.mv 23 (.s 0),
   .bi 24 .neq (.s 23) (.c (.int .i32 215)),
   .mv 25 (.s 24),
   .gd 25 true 26 (.mv 26 (.s 0)),
   .gd 25 true 27 (.bi 27 .neq (.s 26) (.c (.int .i32 247))),
   .pk 28 (.s 25) (.s 27) (.c (.bool false)),
   .mv 2 (.s 28)])
  .rt) .sk))
  (.sq (.rg [.mv 29 (.s 0),
   .bi 30 .geq (.s 29) (.c (.int .i32 880)),
   .mv 31 (.s 30),
   .gd 31 true 32 (.mv 32 (.s 0)),
   .gd 31 true 33 (.bi 33 .leq (.s 32) (.c (.int .i32 1279))),
   .pk 34 (.s 31) (.s 33) (.c (.bool false)),
   .mv 2 (.s 34)])
  .rt))))
def a114 : AF := ⟨c114, [.t 2], 1, 35⟩
theorem m114 : mF Tryz.prog gl drD Tryz.f114 a114 = true := by kernel_rfl
theorem s114 {l : List AV} {r : AV} (hl : l.length = 1) (hi : idsL l = []) (h : wpA (SpH Tryz.prog gl) c114 (postA [.t 2] r) ⟨initE 0 l, [], []⟩) : Sp Tryz.prog gl 114 l r :=
  @fun_sp Tryz.prog gl drD 114 Tryz.f114 a114 Tryz.func114 m114 (dok _) l r hl hi h
theorem h114 {d : Nat} {I : In} {O : Out} (hl : I.vs.length = 1) (h : wpA (SpH Tryz.prog gl) c114 (postH d [.t 2] O) (inSt I)) : SpH Tryz.prog gl 114 d I O :=
  @fun_spH Tryz.prog gl drD 114 Tryz.f114 a114 Tryz.func114 m114 (dok _) d I O hl h
/-- firebell/show.unlike[firebell/api.Goal] -/
def c116 : AC :=
 (.sq (.rg [.mv 4 (.c (.bool false))])
  (.sq (.rg [.mkp 8,
   .mv 5 (.s 8)])
  (.sq (.sq (.rg [.mv 9 (.s 0),
   .ln 10 (.s 9),
   .mv 11 (.c (.int .i64 0))])
  (.bl 0 (.lp (.sq (.rg [.bi 12 .lss (.s 11) (.s 10)])
  (.sq (.cd (.s 12) .sk (.ex 0))
  (.sq (.bl 1 (.sq (.rg [.ia 13 8 (.s 9) (.s 11),
   .lda 14 8 (.s 13),
   .al 7 [(.str []), (.int .u32 0), (.int .i64 0), (.int .i64 0), (.int .i64 0), (.int .i64 0), .nils, .nils],
   .st 8 (.s 7) (.s 14)])
  (.rg [.mv 15 (.s 5),
   .mv 16 (.s 1),
   .lda 17 8 (.s 7),
   .cd 18 (.s 16) [(.s 17)],
   .mlk 19 .s (.i .i64 0) (.s 15) (.s 18) false,
   .bi 20 .add (.s 19) (.c (.int .i64 1)),
   .mup .s (.s 15) (.s 18) (.s 20)])))
  (.rg [.bi 21 .add (.s 11) (.c (.int .i64 1)),
   .mv 11 (.s 21)])))))))
  (.sq (.rg [.mv 22 (.s 5),
   .mpl 23 (.s 22),
   .mv 24 (.s 0),
   .ln 25 (.s 24),
   .bi 26 .eql (.s 23) (.s 25),
   .mv 4 (.s 26)])
  .rt))))
def a116 : AF := ⟨c116, [.t 4], 2, 27⟩
theorem m116 : mF Tryz.prog gl drD Tryz.f116 a116 = true := by kernel_rfl
theorem s116 {l : List AV} {r : AV} (hl : l.length = 2) (hi : idsL l = []) (h : wpA (SpH Tryz.prog gl) c116 (postA [.t 4] r) ⟨initE 0 l, [], []⟩) : Sp Tryz.prog gl 116 l r :=
  @fun_sp Tryz.prog gl drD 116 Tryz.f116 a116 Tryz.func116 m116 (dok _) l r hl hi h
theorem h116 {d : Nat} {I : In} {O : Out} (hl : I.vs.length = 2) (h : wpA (SpH Tryz.prog gl) c116 (postH d [.t 4] O) (inSt I)) : SpH Tryz.prog gl 116 d I O :=
  @fun_spH Tryz.prog gl drD 116 Tryz.f116 a116 Tryz.func116 m116 (dok _) d I O hl h
/-- firebell/show.Right$1 -/
def c117 : AC :=
 (.sq (.rg [.bx 1 (.s 0),
   .mv 2 (.c (.str []))])
  (.sq (.rg [.fa 3 (.s 1) 0,
   .lds 4 (.s 3),
   .mv 2 (.s 4)])
  .rt))
def a117 : AF := ⟨c117, [.t 2], 1, 5⟩
theorem m117 : mF Tryz.prog gl drD Tryz.f117 a117 = true := by kernel_rfl
theorem s117 {l : List AV} {r : AV} (hl : l.length = 1) (hi : idsL l = []) (h : wpA (SpH Tryz.prog gl) c117 (postA [.t 2] r) ⟨initE 0 l, [], []⟩) : Sp Tryz.prog gl 117 l r :=
  @fun_sp Tryz.prog gl drD 117 Tryz.f117 a117 Tryz.func117 m117 (dok _) l r hl hi h
theorem h117 {d : Nat} {I : In} {O : Out} (hl : I.vs.length = 1) (h : wpA (SpH Tryz.prog gl) c117 (postH d [.t 2] O) (inSt I)) : SpH Tryz.prog gl 117 d I O :=
  @fun_spH Tryz.prog gl drD 117 Tryz.f117 a117 Tryz.func117 m117 (dok _) d I O hl h
/-- (*firebell/audit.look).periodOf -/
def c119 : AC :=
 (.sq (.rg [.bx 3 (.s 1),
   .mv 4 (.c (.bool false))])
  (.sq (.rg [.mv 5 (.c (.int .i64 0)),
   .mv 6 (.c (.int .i64 0))])
  (.sq (.sq (.rg [.fa 7 (.s 3) 0,
   .fa 8 (.s 7) 5,
   .lds 9 (.s 8)])
  (.bl 0 (.sq (.rg [.bi 11 .eql (.s 9) (.c (.int .i64 1)),
   .mv 10 (.s 11)])
  (.cd (.s 10) (.rg [.mv 13 (.s 0),
   .nc 14 (.s 13),
   .fa 15 (.s 14) 0,
   .fa 16 (.s 15) 0,
   .lds 17 (.s 16),
   .cl 18 173 [(.s 17)],
   .mv 12 (.s 18),
   .exq 19 (.s 12) 0,
   .exq 20 (.s 12) 1,
   .exq 21 (.s 12) 2,
   .mv 5 (.s 19),
   .mv 6 (.s 20)]) (.sq (.rg [.bi 23 .eql (.s 9) (.c (.int .i64 2)),
   .mv 22 (.s 23)])
  (.cd (.s 22) (.rg [.mv 25 (.s 0),
   .nc 26 (.s 25),
   .fa 27 (.s 26) 0,
   .fa 28 (.s 27) 0,
   .lds 29 (.s 28),
   .cl 30 174 [(.s 29)],
   .mv 24 (.s 30),
   .exq 31 (.s 24) 0,
   .exq 32 (.s 24) 1,
   .exq 33 (.s 24) 2,
   .mv 5 (.s 31),
   .mv 6 (.s 32)]) (.sq (.rg [.bi 35 .eql (.s 9) (.c (.int .i64 0)),
   .mv 34 (.s 35)])
  (.cd (.s 34) (.sq (.rg [.fa 36 (.s 3) 10,
   .lds 37 (.s 36),
   .bi 38 .eql (.s 37) (.c (.int .i64 0)),
   .mv 39 (.s 38),
   .gd 39 true 40 (.fa 40 (.s 3) 11),
   .gd 39 true 41 (.lds 41 (.s 40)),
   .gd 39 true 42 (.bi 42 .eql (.s 41) (.c (.int .i64 0))),
   .pk 43 (.s 39) (.s 42) (.c (.bool false)),
   .mv 44 (.s 43),
   .gd 44 true 45 (.fa 45 (.s 3) 12),
   .gd 44 true 46 (.lda 46 2 (.s 45)),
   .gd 44 true 47 (.bd 47 [(.int .u64 0), (.int .u64 0)] []),
   .gd 44 true 48 (.ea 48 false [.i, .i] (.s 46) (.s 47)),
   .pk 49 (.s 44) (.s 48) (.c (.bool false)),
   .mv 4 (.s 49)])
  .rt) .sk))))))))
  (.sq (.rg [.fa 50 (.s 3) 10,
   .lds 51 (.s 50),
   .mv 52 (.s 5),
   .bi 53 .eql (.s 51) (.s 52),
   .mv 54 (.s 53),
   .gd 54 true 55 (.fa 55 (.s 3) 11),
   .gd 54 true 56 (.lds 56 (.s 55)),
   .gd 54 true 57 (.mv 57 (.s 6)),
   .gd 54 true 58 (.bi 58 .eql (.s 56) (.s 57)),
   .pk 59 (.s 54) (.s 58) (.c (.bool false)),
   .mv 60 (.s 59),
   .gd 60 true 61 (.fa 61 (.s 3) 12),
   .gd 60 true 62 (.lda 62 2 (.s 61)),
   .gd 60 true 63 (.cl 63 170 [(.s 62)]),
   .pk 64 (.s 60) (.s 63) (.c (.bool false)),
   .mv 4 (.s 64)])
  .rt))))
def a119 : AF := ⟨c119, [.t 4], 2, 65⟩
theorem m119 : mF Tryz.prog gl drD Tryz.f119 a119 = true := by kernel_rfl
theorem s119 {l : List AV} {r : AV} (hl : l.length = 2) (hi : idsL l = []) (h : wpA (SpH Tryz.prog gl) c119 (postA [.t 4] r) ⟨initE 0 l, [], []⟩) : Sp Tryz.prog gl 119 l r :=
  @fun_sp Tryz.prog gl drD 119 Tryz.f119 a119 Tryz.func119 m119 (dok _) l r hl hi h
theorem h119 {d : Nat} {I : In} {O : Out} (hl : I.vs.length = 2) (h : wpA (SpH Tryz.prog gl) c119 (postH d [.t 4] O) (inSt I)) : SpH Tryz.prog gl 119 d I O :=
  @fun_spH Tryz.prog gl drD 119 Tryz.f119 a119 Tryz.func119 m119 (dok _) d I O hl h
/-- firebell/firebellref18.Windows -/
def c127 : AC :=
 (.sq (.rg [.bx 1 (.s 0),
   .mv 2 (.c .nils)])
  (.sq (.rg [.bs 8 1 [],
   .mo 3 8])
  (.sq (.sq (.rg [.mv 4 (.c (.int .i64 0))])
  (.bl 0 (.lp (.sq (.sq (.rg [.mv 9 (.s 4),
   .fa 10 (.s 1) 7,
   .lds 11 (.s 10),
   .ln 12 (.s 11),
   .bi 13 .lss (.s 9) (.s 12)])
  (.cd (.s 13) .sk (.ex 0)))
  (.sq (.bl 1 (.sq (.rg [.mo 16 3,
   .fa 17 (.s 1) 7,
   .lds 18 (.s 17),
   .mv 19 (.s 4),
   .ia 20 7 (.s 18) (.s 19),
   .fa 21 (.s 20) 2,
   .lds 22 (.s 21),
   .bs 23 1 [(.s 22)],
   .ap 24 1 8 (.s 16) (.s 23),
   .mo 3 24])
  (.rg [.mo 25 3,
   .fa 26 (.s 1) 7,
   .lds 27 (.s 26),
   .mv 28 (.s 4),
   .ia 29 7 (.s 27) (.s 28),
   .fa 30 (.s 29) 3,
   .lds 31 (.s 30),
   .bs 32 1 [(.s 31)],
   .ap 33 1 8 (.s 25) (.s 32),
   .mo 3 33])))
  (.rg [.mv 14 (.s 4),
   .bi 15 .add (.s 14) (.c (.int .i64 1)),
   .mv 4 (.s 15)]))))))
  (.sq (.sq (.rg [.fa 34 (.s 1) 4,
   .lds 35 (.s 34),
   .bi 36 .neq (.s 35) (.c (.int .i64 0))])
  (.cd (.s 36) (.rg [.mo 37 3,
   .fa 38 (.s 1) 4,
   .lds 39 (.s 38),
   .bs 40 1 [(.s 39)],
   .ap 41 1 8 (.s 37) (.s 40),
   .mo 3 41]) .sk))
  (.sq (.rg [.bs 42 1 [],
   .mo 5 42])
  (.bl 2 (.lp (.bl 3 (.sq (.rg [.mv 6 (.c (.int .i64 (-1)))])
  (.sq (.sq (.rg [.mv 7 (.c (.int .i64 0))])
  (.bl 4 (.lp (.sq (.sq (.rg [.mv 43 (.s 7),
   .mv 44 (.s 3),
   .ln 45 (.s 44),
   .bi 46 .lss (.s 43) (.s 45)])
  (.cd (.s 46) .sk (.ex 4)))
  (.sq (.bl 5 (.sq (.rd [[], [], [], [], [], [], [], [], [], [], [], [], [], [], [], [], [], [], [], [], [], [], [], [], [], [], [], [], [], [], []] [.mv 49 (.s 5),
   .ln 50 (.s 49),
   .bi 51 .eql (.s 50) (.c (.int .i64 0)),
   .mv 52 (.s 51),
   .gd 52 false 53 (.mv 53 (.s 3)),
   .gd 52 false 54 (.mv 54 (.s 7)),
   .gd 52 false 55 (.ia 55 1 (.s 53) (.s 54)),
   .gd 52 false 56 (.lds 56 (.s 55)),
   .gd 52 false 57 (.mv 57 (.s 5)),
   .gd 52 false 58 (.mv 58 (.s 5)),
   .gd 52 false 59 (.ln 59 (.s 58)),
   .gd 52 false 60 (.bi 60 .sub (.s 59) (.c (.int .i64 1))),
   .gd 52 false 61 (.ia 61 1 (.s 57) (.s 60)),
   .gd 52 false 62 (.lds 62 (.s 61)),
   .gd 52 false 63 (.bi 63 .gtr (.s 56) (.s 62)),
   .pk 64 (.s 52) (.c (.bool true)) (.s 63),
   .mv 65 (.s 64),
   .gd 65 true 66 (.mv 66 (.s 6)),
   .gd 65 true 67 (.bi 67 .lss (.s 66) (.c (.int .i64 0))),
   .gd 65 true 68 (.mv 68 (.s 67)),
   .gd 68 false 69 (.mv 69 (.s 3)),
   .gd 68 false 70 (.mv 70 (.s 7)),
   .gd 68 false 71 (.ia 71 1 (.s 69) (.s 70)),
   .gd 68 false 72 (.lds 72 (.s 71)),
   .gd 68 false 73 (.mv 73 (.s 3)),
   .gd 68 false 74 (.mv 74 (.s 6)),
   .gd 68 false 75 (.ia 75 1 (.s 73) (.s 74)),
   .gd 68 false 76 (.lds 76 (.s 75)),
   .gd 68 false 77 (.bi 77 .lss (.s 72) (.s 76)),
   .gd 65 true 78 (.pk 78 (.s 68) (.c (.bool true)) (.s 77)),
   .pk 79 (.s 65) (.s 78) (.c (.bool false))])
  (.cd (.s 79) (.rg [.mv 80 (.s 7),
   .mv 6 (.s 80)]) .sk)))
  (.rg [.mv 47 (.s 7),
   .bi 48 .add (.s 47) (.c (.int .i64 1)),
   .mv 7 (.s 48)]))))))
  (.sq (.sq (.rg [.mv 81 (.s 6),
   .bi 82 .lss (.s 81) (.c (.int .i64 0))])
  (.cd (.s 82) (.sq (.rg [.mv 83 (.s 5),
   .mv 2 (.s 83)])
  .rt) .sk))
  (.rg [.mo 84 5,
   .mv 85 (.s 3),
   .mv 86 (.s 6),
   .ia 87 1 (.s 85) (.s 86),
   .lds 88 (.s 87),
   .bs 89 1 [(.s 88)],
   .ap 90 1 8 (.s 84) (.s 89),
   .mo 5 90]))))))))))))
def a127 : AF := ⟨c127, [.t 2], 1, 91⟩
theorem m127 : mF Tryz.prog gl drD Tryz.f127 a127 = true := by kernel_rfl
theorem s127 {l : List AV} {r : AV} (hl : l.length = 1) (hi : idsL l = []) (h : wpA (SpH Tryz.prog gl) c127 (postA [.t 2] r) ⟨initE 0 l, [], []⟩) : Sp Tryz.prog gl 127 l r :=
  @fun_sp Tryz.prog gl drD 127 Tryz.f127 a127 Tryz.func127 m127 (dok _) l r hl hi h
theorem h127 {d : Nat} {I : In} {O : Out} (hl : I.vs.length = 1) (h : wpA (SpH Tryz.prog gl) c127 (postH d [.t 2] O) (inSt I)) : SpH Tryz.prog gl 127 d I O :=
  @fun_spH Tryz.prog gl drD 127 Tryz.f127 a127 Tryz.func127 m127 (dok _) d I O hl h
/-- firebell/signed.right -/
def c138 : AC :=
 (.sq (.rg [.bx 1 (.s 0),
   .al 2 [(.bool false), (.int .u64 0), (.int .u64 0)]])
  (.sq (.sq (.rg [.lda 3 3 (.s 1),
   .cl 4 141 [(.s 3)]])
  (.cd (.s 4) (.sq (.rg [.lda 5 3 (.s 1),
   .st 3 (.s 2) (.s 5)])
  .rt) .sk))
  (.sq (.rg [.bd 6 [(.bool false), (.int .u64 0), (.int .u64 0)] [],
   .st 3 (.s 2) (.s 6)])
  .rt)))
def a138 : AF := ⟨c138, [.ca 2 3], 1, 7⟩
theorem m138 : mF Tryz.prog gl drD Tryz.f138 a138 = true := by kernel_rfl
theorem s138 {l : List AV} {r : AV} (hl : l.length = 1) (hi : idsL l = []) (h : wpA (SpH Tryz.prog gl) c138 (postA [.ca 2 3] r) ⟨initE 0 l, [], []⟩) : Sp Tryz.prog gl 138 l r :=
  @fun_sp Tryz.prog gl drD 138 Tryz.f138 a138 Tryz.func138 m138 (dok _) l r hl hi h
theorem h138 {d : Nat} {I : In} {O : Out} (hl : I.vs.length = 1) (h : wpA (SpH Tryz.prog gl) c138 (postH d [.ca 2 3] O) (inSt I)) : SpH Tryz.prog gl 138 d I O :=
  @fun_spH Tryz.prog gl drD 138 Tryz.f138 a138 Tryz.func138 m138 (dok _) d I O hl h
/-- firebell/exact.Print -/
def c139 : AC :=
 (.sq (.rg [.bx 1 (.s 0),
   .mv 2 (.c (.str []))])
  (.sq (.rg [.al 3 [(.int .u8 0), (.int .u8 0), (.int .u8 0), (.int .u8 0), (.int .u8 0), (.int .u8 0), (.int .u8 0), (.int .u8 0), (.int .u8 0), (.int .u8 0), (.int .u8 0), (.int .u8 0), (.int .u8 0), (.int .u8 0), (.int .u8 0), (.int .u8 0), (.int .u8 0), (.int .u8 0), (.int .u8 0), (.int .u8 0), (.int .u8 0), (.int .u8 0), (.int .u8 0), (.int .u8 0), (.int .u8 0), (.int .u8 0), (.int .u8 0), (.int .u8 0), (.int .u8 0), (.int .u8 0), (.int .u8 0), (.int .u8 0), (.int .u8 0), (.int .u8 0), (.int .u8 0), (.int .u8 0), (.int .u8 0), (.int .u8 0), (.int .u8 0)]])
  (.sq (.rg [.mv 4 (.c (.int .i64 39))])
  (.bl 0 (.lp (.bl 1 (.sq (.rg [.lda 9 2 (.s 1),
   .cl 10 193 [(.s 9), (.c (.int .u64 10))],
   .mv 8 (.s 10),
   .exq 11 (.s 8) 0,
   .exq 12 (.s 8) 1,
   .exq 13 (.s 8) 2,
   .al 5 [(.int .u64 0), (.int .u64 0)],
   .st 2 (.s 5) (.s 11),
   .mv 6 (.s 12),
   .mv 7 (.s 13)])
  (.sq (.rg [.mv 14 (.s 4),
   .bi 15 .sub (.s 14) (.c (.int .i64 1)),
   .mv 4 (.s 15)])
  (.sq (.rg [.mv 16 (.s 4),
   .mv 17 (.s 6),
   .cv 18 .u8 (.s 17),
   .bi 19 .add (.c (.int .u8 48)) (.s 18),
   .iaa 20 1 39 (.s 3) (.s 16),
   .st 1 (.s 20) (.s 19)])
  (.sq (.rg [.lda 21 2 (.s 5),
   .st 2 (.s 1) (.s 21)])
  (.sq (.rg [.lda 22 2 (.s 1),
   .bd 23 [(.int .u64 0), (.int .u64 0)] [],
   .ea 24 false [.i, .i] (.s 22) (.s 23)])
  (.cd (.s 24) (.sq (.rg [.mv 25 (.s 4),
   .sla 26 39 (.s 3) (some (.s 25)) none,
   .b2s 27 (.s 26),
   .mv 2 (.s 27)])
  .rt) .sk))))))))))))
def a139 : AF := ⟨c139, [.t 2], 1, 28⟩
theorem m139 : mF Tryz.prog gl drD Tryz.f139 a139 = true := by kernel_rfl
theorem s139 {l : List AV} {r : AV} (hl : l.length = 1) (hi : idsL l = []) (h : wpA (SpH Tryz.prog gl) c139 (postA [.t 2] r) ⟨initE 0 l, [], []⟩) : Sp Tryz.prog gl 139 l r :=
  @fun_sp Tryz.prog gl drD 139 Tryz.f139 a139 Tryz.func139 m139 (dok _) l r hl hi h
theorem h139 {d : Nat} {I : In} {O : Out} (hl : I.vs.length = 1) (h : wpA (SpH Tryz.prog gl) c139 (postH d [.t 2] O) (inSt I)) : SpH Tryz.prog gl 139 d I O :=
  @fun_spH Tryz.prog gl drD 139 Tryz.f139 a139 Tryz.func139 m139 (dok _) d I O hl h
/-- firebell/signed.Right -/
def c141 : AC :=
 (.sq (.rg [.bx 1 (.s 0),
   .mv 2 (.c (.bool false))])
  (.sq (.rg [.fa 3 (.s 1) 0,
   .lds 4 (.s 3),
   .un 5 .not (.s 4),
   .mv 6 (.s 5),
   .gd 6 false 7 (.fa 7 (.s 1) 1),
   .gd 6 false 8 (.lda 8 2 (.s 7)),
   .gd 6 false 9 (.bd 9 [(.int .u64 0), (.int .u64 0)] []),
   .gd 6 false 10 (.ea 10 true [.i, .i] (.s 8) (.s 9)),
   .pk 11 (.s 6) (.c (.bool true)) (.s 10),
   .mv 2 (.s 11)])
  .rt))
def a141 : AF := ⟨c141, [.t 2], 1, 12⟩
theorem m141 : mF Tryz.prog gl drD Tryz.f141 a141 = true := by kernel_rfl
theorem s141 {l : List AV} {r : AV} (hl : l.length = 1) (hi : idsL l = []) (h : wpA (SpH Tryz.prog gl) c141 (postA [.t 2] r) ⟨initE 0 l, [], []⟩) : Sp Tryz.prog gl 141 l r :=
  @fun_sp Tryz.prog gl drD 141 Tryz.f141 a141 Tryz.func141 m141 (dok _) l r hl hi h
theorem h141 {d : Nat} {I : In} {O : Out} (hl : I.vs.length = 1) (h : wpA (SpH Tryz.prog gl) c141 (postH d [.t 2] O) (inSt I)) : SpH Tryz.prog gl 141 d I O :=
  @fun_spH Tryz.prog gl drD 141 Tryz.f141 a141 Tryz.func141 m141 (dok _) d I O hl h
/-- firebell/outlook.Read -/
def c146 : AC :=
 (.sq (.rg [.al 2 [(.int .i64 0), (.int .u64 0), (.int .u64 0)],
   .mv 3 (.c (.int .i64 0))])
  (.sq (.sq (.rg [.mv 7 (.s 0)])
  (.bl 0 (.sq (.rg [.bi 9 .eql (.s 7) (.c (.str [103, 111, 110, 101])),
   .mv 8 (.s 9)])
  (.cd (.s 8) (.sq (.rg [.bd 10 [(.int .i64 0), (.int .u64 0), (.int .u64 0)] [(0, 1, (.c (.int .i64 0)))],
   .st 3 (.s 2) (.s 10),
   .mv 3 (.c (.int .i64 0))])
  .rt) (.sq (.rg [.bi 12 .eql (.s 7) (.c (.str [110, 101, 118, 101, 114])),
   .mv 11 (.s 12)])
  (.cd (.s 11) (.sq (.rg [.bd 13 [(.int .i64 0), (.int .u64 0), (.int .u64 0)] [(0, 1, (.c (.int .i64 1)))],
   .st 3 (.s 2) (.s 13),
   .mv 3 (.c (.int .i64 0))])
  .rt) .sk))))))
  (.sq (.rg [.mv 15 (.s 0),
   .cl 16 197 [(.s 15)],
   .mv 14 (.s 16),
   .exq 17 (.s 14) 0,
   .exq 18 (.s 14) 1,
   .al 4 [(.int .u64 0), (.int .u64 0)],
   .st 2 (.s 4) (.s 17),
   .mv 5 (.s 18)])
  (.sq (.rg [.lda 19 2 (.s 4),
   .bd 20 [(.int .i64 0), (.int .u64 0), (.int .u64 0)] [(0, 1, (.c (.int .i64 2))), (1, 2, (.s 19))],
   .al 6 [(.int .i64 0), (.int .u64 0), (.int .u64 0)],
   .st 3 (.s 6) (.s 20)])
  (.sq (.bl 1 (.sq (.rg [.mv 22 (.s 5),
   .bi 23 .neq (.s 22) (.c (.int .i64 0)),
   .mv 21 (.s 23)])
  (.cd (.s 21) (.sq (.rg [.bd 24 [(.int .i64 0), (.int .u64 0), (.int .u64 0)] [],
   .mv 25 (.s 5),
   .st 3 (.s 2) (.s 24),
   .mv 3 (.s 25)])
  .rt) (.sq (.rg [.lda 27 3 (.s 6),
   .cl 28 140 [(.s 27)],
   .un 29 .not (.s 28),
   .mv 26 (.s 29)])
  (.cd (.s 26) (.sq (.rg [.bd 30 [(.int .i64 0), (.int .u64 0), (.int .u64 0)] [],
   .st 3 (.s 2) (.s 30),
   .mv 3 (.c (.int .i64 5))])
  .rt) .sk)))))
  (.sq (.rg [.lda 31 3 (.s 6),
   .st 3 (.s 2) (.s 31),
   .mv 3 (.c (.int .i64 0))])
  .rt))))))
def a146 : AF := ⟨c146, [.ca 2 3, .t 3], 1, 32⟩
theorem m146 : mF Tryz.prog gl drD Tryz.f146 a146 = true := by kernel_rfl
theorem s146 {l : List AV} {r : AV} (hl : l.length = 1) (hi : idsL l = []) (h : wpA (SpH Tryz.prog gl) c146 (postA [.ca 2 3, .t 3] r) ⟨initE 0 l, [], []⟩) : Sp Tryz.prog gl 146 l r :=
  @fun_sp Tryz.prog gl drD 146 Tryz.f146 a146 Tryz.func146 m146 (dok _) l r hl hi h
theorem h146 {d : Nat} {I : In} {O : Out} (hl : I.vs.length = 1) (h : wpA (SpH Tryz.prog gl) c146 (postH d [.ca 2 3, .t 3] O) (inSt I)) : SpH Tryz.prog gl 146 d I O :=
  @fun_spH Tryz.prog gl drD 146 Tryz.f146 a146 Tryz.func146 m146 (dok _) d I O hl h
/-- firebell/firebellref24.Read -/
def c152 : AC :=
 (.sq (.rg [.al 2 [(.int .i64 0), (.int .u64 0), (.int .u64 0)],
   .mv 3 (.c (.int .i64 0))])
  (.sq (.sq (.rg [.mv 6 (.s 0),
   .bi 7 .eql (.s 6) (.c (.str [103, 111, 110, 101]))])
  (.cd (.s 7) (.sq (.rg [.bd 8 [(.int .i64 0), (.int .u64 0), (.int .u64 0)] [],
   .st 3 (.s 2) (.s 8),
   .mv 3 (.c (.int .i64 0))])
  .rt) .sk))
  (.sq (.sq (.rg [.mv 9 (.s 0),
   .bi 10 .eql (.s 9) (.c (.str [110, 101, 118, 101, 114]))])
  (.cd (.s 10) (.sq (.rg [.bd 11 [(.int .i64 0), (.int .u64 0), (.int .u64 0)] [(0, 1, (.c (.int .i64 1)))],
   .st 3 (.s 2) (.s 11),
   .mv 3 (.c (.int .i64 0))])
  .rt) .sk))
  (.sq (.rg [.mv 13 (.s 0),
   .cl 14 150 [(.s 13)],
   .mv 12 (.s 14),
   .exq 15 (.s 12) 0,
   .exq 16 (.s 12) 1,
   .al 4 [(.int .u64 0), (.int .u64 0)],
   .st 2 (.s 4) (.s 15),
   .mv 5 (.s 16)])
  (.sq (.sq (.rg [.mv 17 (.s 5),
   .bi 18 .neq (.s 17) (.c (.int .i64 0))])
  (.cd (.s 18) (.sq (.rg [.bd 19 [(.int .i64 0), (.int .u64 0), (.int .u64 0)] [],
   .mv 20 (.s 5),
   .st 3 (.s 2) (.s 19),
   .mv 3 (.s 20)])
  .rt) .sk))
  (.sq (.sq (.rg [.mv 21 (.s 0),
   .bi 22 .eql (.s 21) (.c (.str [48]))])
  (.cd (.s 22) (.sq (.rg [.bd 23 [(.int .i64 0), (.int .u64 0), (.int .u64 0)] [],
   .st 3 (.s 2) (.s 23),
   .mv 3 (.c (.int .i64 5))])
  .rt) .sk))
  (.sq (.rg [.lda 24 2 (.s 4),
   .bd 25 [(.int .i64 0), (.int .u64 0), (.int .u64 0)] [(0, 1, (.c (.int .i64 2))), (1, 2, (.s 24))],
   .st 3 (.s 2) (.s 25),
   .mv 3 (.c (.int .i64 0))])
  .rt)))))))
def a152 : AF := ⟨c152, [.ca 2 3, .t 3], 1, 26⟩
theorem m152 : mF Tryz.prog gl drD Tryz.f152 a152 = true := by kernel_rfl
theorem s152 {l : List AV} {r : AV} (hl : l.length = 1) (hi : idsL l = []) (h : wpA (SpH Tryz.prog gl) c152 (postA [.ca 2 3, .t 3] r) ⟨initE 0 l, [], []⟩) : Sp Tryz.prog gl 152 l r :=
  @fun_sp Tryz.prog gl drD 152 Tryz.f152 a152 Tryz.func152 m152 (dok _) l r hl hi h
theorem h152 {d : Nat} {I : In} {O : Out} (hl : I.vs.length = 1) (h : wpA (SpH Tryz.prog gl) c152 (postH d [.ca 2 3, .t 3] O) (inSt I)) : SpH Tryz.prog gl 152 d I O :=
  @fun_spH Tryz.prog gl drD 152 Tryz.f152 a152 Tryz.func152 m152 (dok _) d I O hl h
/-- firebell/change.goalOf -/
def c153 : AC :=
 (.sq (.rg [.bx 2 (.s 0),
   .bx 3 (.s 1),
   .al 4 [(.str []), (.int .u32 0), (.int .i64 0), (.int .i64 0), (.int .i64 0), (.int .i64 0), .nils, .nils],
   .mv 5 (.c (.bool false))])
  (.sq (.rg [.fa 7 (.s 2) 0,
   .lds 8 (.s 7),
   .mf 9 205 [(.s 3)],
   .ce 10 204 [(.s 8), (.s 9)],
   .mv 6 (.s 10)])
  (.sq (.sq (.rg [.mv 11 (.s 6),
   .bi 12 .lss (.s 11) (.c (.int .i64 0))])
  (.cd (.s 12) (.sq (.rg [.bd 13 [(.str []), (.int .u32 0), (.int .i64 0), (.int .i64 0), (.int .i64 0), (.int .i64 0), .nils, .nils] [],
   .st 8 (.s 4) (.s 13),
   .mv 5 (.c (.bool false))])
  .rt) .sk))
  (.sq (.rg [.fa 14 (.s 2) 0,
   .lds 15 (.s 14),
   .mv 16 (.s 6),
   .ia 17 8 (.s 15) (.s 16),
   .lda 18 8 (.s 17),
   .st 8 (.s 4) (.s 18),
   .mv 5 (.c (.bool true))])
  .rt))))
def a153 : AF := ⟨c153, [.ca 4 8, .t 5], 2, 19⟩
theorem m153 : mF Tryz.prog gl drD Tryz.f153 a153 = true := by kernel_rfl
theorem s153 {l : List AV} {r : AV} (hl : l.length = 2) (hi : idsL l = []) (h : wpA (SpH Tryz.prog gl) c153 (postA [.ca 4 8, .t 5] r) ⟨initE 0 l, [], []⟩) : Sp Tryz.prog gl 153 l r :=
  @fun_sp Tryz.prog gl drD 153 Tryz.f153 a153 Tryz.func153 m153 (dok _) l r hl hi h
theorem h153 {d : Nat} {I : In} {O : Out} (hl : I.vs.length = 2) (h : wpA (SpH Tryz.prog gl) c153 (postH d [.ca 4 8, .t 5] O) (inSt I)) : SpH Tryz.prog gl 153 d I O :=
  @fun_spH Tryz.prog gl drD 153 Tryz.f153 a153 Tryz.func153 m153 (dok _) d I O hl h
/-- (*firebell/change.plan).goal -/
def c154 : AC :=
 (.sq (.rg [.bx 5 (.s 1),
   .bx 6 (.s 2)])
  (.sq (.rg [.mv 13 (.s 3),
   .mv 14 (.s 13),
   .gd 14 true 15 (.lda 15 8 (.s 6)),
   .gd 14 true 16 (.lda 16 8 (.s 5)),
   .gd 14 true 17 (.cl 17 206 [(.s 15), (.s 16)]),
   .pk 18 (.s 14) (.s 17) (.c (.bool false)),
   .mv 8 (.s 18)])
  (.sq (.rd [[], [], [], [], [], [], []] [.mv 19 (.s 0),
   .fa 20 (.s 5) 0,
   .lds 21 (.s 20),
   .mv 22 (.s 3),
   .mv 23 (.s 8),
   .cl 24 207 [(.s 22), (.s 23)],
   .ce 25 155 [(.s 19), (.s 21), (.c (.str [])), (.s 24)]])
  (.sq (.sq (.rg [.fa 26 (.s 5) 7,
   .lds 27 (.s 26),
   .ln 28 (.s 27),
   .mv 29 (.c (.int .i64 0))])
  (.bl 0 (.lp (.sq (.rg [.bi 30 .lss (.s 29) (.s 28)])
  (.sq (.cd (.s 30) .sk (.ex 0))
  (.sq (.bl 1 (.sq (.rg [.ia 31 7 (.s 27) (.s 29),
   .lda 32 7 (.s 31),
   .al 10 [(.str []), (.bool false), (.int .i64 0), (.int .i64 0), (.int .u64 0), (.int .i64 0), (.int .i64 0)],
   .st 7 (.s 10) (.s 32)])
  (.sq (.rg [.lda 34 8 (.s 6),
   .fa 35 (.s 10) 0,
   .lds 36 (.s 35),
   .cl 37 208 [(.s 34), (.s 36)],
   .mv 33 (.s 37),
   .exq 38 (.s 33) 0,
   .exq 39 (.s 33) 1,
   .al 11 [(.str []), (.bool false), (.int .i64 0), (.int .i64 0), (.int .u64 0), (.int .i64 0), (.int .i64 0)],
   .st 7 (.s 11) (.s 38),
   .mv 12 (.s 39)])
  (.rd [[], [], [], [], [], [], [], [], [], [], [], [], [], []] [.mv 40 (.s 0),
   .fa 41 (.s 5) 0,
   .lds 42 (.s 41),
   .fa 43 (.s 10) 0,
   .lds 44 (.s 43),
   .mv 45 (.s 12),
   .mv 46 (.s 8),
   .mv 47 (.s 46),
   .gd 47 true 48 (.lda 48 7 (.s 11)),
   .gd 47 true 49 (.lda 49 7 (.s 10)),
   .gd 47 true 50 (.ea 50 false [.s, .b, .i, .i, .i, .i, .i] (.s 48) (.s 49)),
   .pk 51 (.s 47) (.s 50) (.c (.bool false)),
   .cl 52 207 [(.s 45), (.s 51)],
   .ce 53 155 [(.s 40), (.s 42), (.s 44), (.s 52)]]))))
  (.rg [.bi 54 .add (.s 29) (.c (.int .i64 1)),
   .mv 29 (.s 54)])))))))
  (.rg [.mv 55 (.s 0),
   .lda 56 8 (.s 6),
   .lda 57 8 (.s 5),
   .ce 58 156 [(.s 55), (.s 56), (.s 57)]])))))
def a154 : AF := ⟨c154, [], 4, 59⟩
theorem m154 : mF Tryz.prog gl drD Tryz.f154 a154 = true := by kernel_rfl
theorem s154 {l : List AV} {r : AV} (hl : l.length = 4) (hi : idsL l = []) (h : wpA (SpH Tryz.prog gl) c154 (postA [] r) ⟨initE 0 l, [], []⟩) : Sp Tryz.prog gl 154 l r :=
  @fun_sp Tryz.prog gl drD 154 Tryz.f154 a154 Tryz.func154 m154 (dok _) l r hl hi h
theorem h154 {d : Nat} {I : In} {O : Out} (hl : I.vs.length = 4) (h : wpA (SpH Tryz.prog gl) c154 (postH d [] O) (inSt I)) : SpH Tryz.prog gl 154 d I O :=
  @fun_spH Tryz.prog gl drD 154 Tryz.f154 a154 Tryz.func154 m154 (dok _) d I O hl h
/-- (*firebell/change.plan).add -/
def c155 : AC :=
 (.rg [.mv 8 (.s 0),
   .mv 9 (.s 0),
   .nc 10 (.s 9),
   .fa 11 (.s 10) 0,
   .lo 12 (.s 11),
   .mv 13 (.s 1),
   .mv 14 (.s 2),
   .mv 15 (.s 3),
   .bd 16 [(.str []), (.str []), (.int .i64 0)] [(0, 1, (.s 13)), (1, 1, (.s 14)), (2, 1, (.s 15))],
   .bs 17 3 [(.s 16)],
   .ap 18 3 40 (.s 12) (.s 17),
   .nc 19 (.s 8),
   .fa 20 (.s 19) 0,
   .so (.s 20) 18])
def a155 : AF := ⟨c155, [], 4, 21⟩
theorem m155 : mF Tryz.prog gl drD Tryz.f155 a155 = true := by kernel_rfl
theorem s155 {l : List AV} {r : AV} (hl : l.length = 4) (hi : idsL l = []) (h : wpA (SpH Tryz.prog gl) c155 (postA [] r) ⟨initE 0 l, [], []⟩) : Sp Tryz.prog gl 155 l r :=
  @fun_sp Tryz.prog gl drD 155 Tryz.f155 a155 Tryz.func155 m155 (dok _) l r hl hi h
theorem h155 {d : Nat} {I : In} {O : Out} (hl : I.vs.length = 4) (h : wpA (SpH Tryz.prog gl) c155 (postH d [] O) (inSt I)) : SpH Tryz.prog gl 155 d I O :=
  @fun_spH Tryz.prog gl drD 155 Tryz.f155 a155 Tryz.func155 m155 (dok _) d I O hl h
/-- (*firebell/change.plan).gone -/
def c156 : AC :=
 (.sq (.rg [.bx 4 (.s 1),
   .bx 5 (.s 2)])
  (.sq (.rg [.fa 10 (.s 4) 7,
   .lds 11 (.s 10),
   .ln 12 (.s 11),
   .mv 13 (.c (.int .i64 0))])
  (.bl 0 (.lp (.sq (.rg [.bi 14 .lss (.s 13) (.s 12)])
  (.sq (.cd (.s 14) .sk (.ex 0))
  (.sq (.bl 1 (.sq (.rg [.ia 15 7 (.s 11) (.s 13),
   .lda 16 7 (.s 15),
   .al 7 [(.str []), (.bool false), (.int .i64 0), (.int .i64 0), (.int .u64 0), (.int .i64 0), (.int .i64 0)],
   .st 7 (.s 7) (.s 16)])
  (.sq (.rg [.lda 18 8 (.s 5),
   .fa 19 (.s 7) 0,
   .lds 20 (.s 19),
   .cl 21 208 [(.s 18), (.s 20)],
   .mv 17 (.s 21),
   .exq 22 (.s 17) 0,
   .exq 23 (.s 17) 1,
   .al 8 [(.str []), (.bool false), (.int .i64 0), (.int .i64 0), (.int .u64 0), (.int .i64 0), (.int .i64 0)],
   .st 7 (.s 8) (.s 22),
   .mv 9 (.s 23)])
  (.sq (.rg [.mv 24 (.s 9),
   .un 25 .not (.s 24)])
  (.cd (.s 25) (.rg [.mv 26 (.s 0),
   .fa 27 (.s 4) 0,
   .lds 28 (.s 27),
   .fa 29 (.s 7) 0,
   .lds 30 (.s 29),
   .ce 31 155 [(.s 26), (.s 28), (.s 30), (.c (.int .i64 4))]]) .sk)))))
  (.rg [.bi 32 .add (.s 13) (.c (.int .i64 1)),
   .mv 13 (.s 32)]))))))))
def a156 : AF := ⟨c156, [], 3, 33⟩
theorem m156 : mF Tryz.prog gl drD Tryz.f156 a156 = true := by kernel_rfl
theorem s156 {l : List AV} {r : AV} (hl : l.length = 3) (hi : idsL l = []) (h : wpA (SpH Tryz.prog gl) c156 (postA [] r) ⟨initE 0 l, [], []⟩) : Sp Tryz.prog gl 156 l r :=
  @fun_sp Tryz.prog gl drD 156 Tryz.f156 a156 Tryz.func156 m156 (dok _) l r hl hi h
theorem h156 {d : Nat} {I : In} {O : Out} (hl : I.vs.length = 3) (h : wpA (SpH Tryz.prog gl) c156 (postH d [] O) (inSt I)) : SpH Tryz.prog gl 156 d I O :=
  @fun_spH Tryz.prog gl drD 156 Tryz.f156 a156 Tryz.func156 m156 (dok _) d I O hl h
/-- internal/stringslite.Cut -/
def c159 : AC :=
 (.sq (.rg [.mv 4 (.c (.str [])),
   .mv 5 (.c (.str [])),
   .mv 6 (.c (.bool false))])
  (.sq (.sq (.rg [.mv 8 (.s 0),
   .mv 9 (.s 1),
   .cl 10 212 [(.s 8), (.s 9)],
   .mv 7 (.s 10)])
  (.sq (.rg [.mv 11 (.s 7),
   .bi 12 .geq (.s 11) (.c (.int .i64 0))])
  (.cd (.s 12) (.sq (.rd [[], [], [], [], [], [], [], [], [], [], [], []] [.mv 13 (.s 0),
   .mv 14 (.s 7),
   .sls 15 (.s 13) none (some (.s 14)),
   .mv 16 (.s 0),
   .mv 17 (.s 7),
   .mv 18 (.s 1),
   .lns 19 (.s 18),
   .bi 20 .add (.s 17) (.s 19),
   .sls 21 (.s 16) (some (.s 20)) none,
   .mv 4 (.s 15),
   .mv 5 (.s 21),
   .mv 6 (.c (.bool true))])
  .rt) .sk)))
  (.sq (.rg [.mv 22 (.s 0),
   .mv 4 (.s 22),
   .mv 5 (.c (.str [])),
   .mv 6 (.c (.bool false))])
  .rt)))
def a159 : AF := ⟨c159, [.t 4, .t 5, .t 6], 2, 23⟩
theorem m159 : mF Tryz.prog gl drD Tryz.f159 a159 = true := by kernel_rfl
theorem s159 {l : List AV} {r : AV} (hl : l.length = 2) (hi : idsL l = []) (h : wpA (SpH Tryz.prog gl) c159 (postA [.t 4, .t 5, .t 6] r) ⟨initE 0 l, [], []⟩) : Sp Tryz.prog gl 159 l r :=
  @fun_sp Tryz.prog gl drD 159 Tryz.f159 a159 Tryz.func159 m159 (dok _) l r hl hi h
theorem h159 {d : Nat} {I : In} {O : Out} (hl : I.vs.length = 2) (h : wpA (SpH Tryz.prog gl) c159 (postH d [.t 4, .t 5, .t 6] O) (inSt I)) : SpH Tryz.prog gl 159 d I O :=
  @fun_spH Tryz.prog gl drD 159 Tryz.f159 a159 Tryz.func159 m159 (dok _) d I O hl h
/-- firebell/change.kindOf -/
def c161 : AC :=
 (.sq (.rg [.mv 2 (.c (.int .i64 0))])
  (.sq (.rg [.cl 3 158 [(.c (.str [99, 111, 109, 101, 115, 32, 115, 116, 97, 121, 115, 32, 116, 117, 114, 110, 115, 32, 103, 111, 101, 115]))],
   .mv 4 (.s 0),
   .cl 5 214 [(.s 3), (.s 4)],
   .bi 6 .add (.c (.int .i64 1)) (.s 5),
   .mv 2 (.s 6)])
  .rt))
def a161 : AF := ⟨c161, [.t 2], 1, 7⟩
theorem m161 : mF Tryz.prog gl drD Tryz.f161 a161 = true := by kernel_rfl
theorem s161 {l : List AV} {r : AV} (hl : l.length = 1) (hi : idsL l = []) (h : wpA (SpH Tryz.prog gl) c161 (postA [.t 2] r) ⟨initE 0 l, [], []⟩) : Sp Tryz.prog gl 161 l r :=
  @fun_sp Tryz.prog gl drD 161 Tryz.f161 a161 Tryz.func161 m161 (dok _) l r hl hi h
theorem h161 {d : Nat} {I : In} {O : Out} (hl : I.vs.length = 1) (h : wpA (SpH Tryz.prog gl) c161 (postH d [.t 2] O) (inSt I)) : SpH Tryz.prog gl 161 d I O :=
  @fun_spH Tryz.prog gl drD 161 Tryz.f161 a161 Tryz.func161 m161 (dok _) d I O hl h
/-- slices.Equal[[]int64,int64] -/
def c171 : AC :=
 (.sq (.rg [.mv 4 (.c (.bool false))])
  (.sq (.sq (.rg [.mv 6 (.s 0),
   .ln 7 (.s 6),
   .mv 8 (.s 1),
   .ln 9 (.s 8),
   .bi 10 .neq (.s 7) (.s 9)])
  (.cd (.s 10) (.sq (.rg [.mv 4 (.c (.bool false))])
  .rt) .sk))
  (.sq (.sq (.rg [.mv 11 (.s 0),
   .ln 12 (.s 11),
   .mv 13 (.c (.int .i64 0))])
  (.bl 0 (.lp (.sq (.rg [.bi 14 .lss (.s 13) (.s 12)])
  (.sq (.cd (.s 14) .sk (.ex 0))
  (.sq (.bl 1 (.sq (.rg [.mv 15 (.s 13),
   .mv 5 (.s 15)])
  (.sq (.rd [[], [], [], [], [], [], [], [], []] [.mv 16 (.s 0),
   .mv 17 (.s 5),
   .ia 18 1 (.s 16) (.s 17),
   .lds 19 (.s 18),
   .mv 20 (.s 1),
   .mv 21 (.s 5),
   .ia 22 1 (.s 20) (.s 21),
   .lds 23 (.s 22),
   .bi 24 .neq (.s 19) (.s 23)])
  (.cd (.s 24) (.sq (.rg [.mv 4 (.c (.bool false))])
  .rt) .sk))))
  (.rg [.bi 25 .add (.s 13) (.c (.int .i64 1)),
   .mv 13 (.s 25)])))))))
  (.sq (.rg [.mv 4 (.c (.bool true))])
  .rt))))
def a171 : AF := ⟨c171, [.t 4], 2, 26⟩
theorem m171 : mF Tryz.prog gl drD Tryz.f171 a171 = true := by kernel_rfl
theorem s171 {l : List AV} {r : AV} (hl : l.length = 2) (hi : idsL l = []) (h : wpA (SpH Tryz.prog gl) c171 (postA [.t 4] r) ⟨initE 0 l, [], []⟩) : Sp Tryz.prog gl 171 l r :=
  @fun_sp Tryz.prog gl drD 171 Tryz.f171 a171 Tryz.func171 m171 (dok _) l r hl hi h
theorem h171 {d : Nat} {I : In} {O : Out} (hl : I.vs.length = 2) (h : wpA (SpH Tryz.prog gl) c171 (postH d [.t 4] O) (inSt I)) : SpH Tryz.prog gl 171 d I O :=
  @fun_spH Tryz.prog gl drD 171 Tryz.f171 a171 Tryz.func171 m171 (dok _) d I O hl h
/-- firebell/change.Windows -/
def c172 : AC :=
 (.sq (.rg [.bx 1 (.s 0),
   .mv 2 (.c .nils)])
  (.sq (.rg [.mv 3 (.c .nils)])
  (.sq (.sq (.rg [.fa 6 (.s 1) 7,
   .lds 7 (.s 6),
   .ln 8 (.s 7),
   .mv 9 (.c (.int .i64 0))])
  (.bl 0 (.lp (.sq (.rg [.bi 10 .lss (.s 9) (.s 8)])
  (.sq (.cd (.s 10) .sk (.ex 0))
  (.sq (.bl 1 (.sq (.rg [.ia 11 7 (.s 7) (.s 9),
   .lda 12 7 (.s 11),
   .al 5 [(.str []), (.bool false), (.int .i64 0), (.int .i64 0), (.int .u64 0), (.int .i64 0), (.int .i64 0)],
   .st 7 (.s 5) (.s 12)])
  (.rg [.mo 13 3,
   .fa 14 (.s 5) 2,
   .lds 15 (.s 14),
   .fa 16 (.s 5) 3,
   .lds 17 (.s 16),
   .bsn 18 1 [(.s 15), (.s 17)],
   .apm 19 1 8 (.s 13) (.s 18),
   .mo 3 19])))
  (.rg [.bi 20 .add (.s 9) (.c (.int .i64 1)),
   .mv 9 (.s 20)])))))))
  (.sq (.sq (.rg [.fa 21 (.s 1) 4,
   .lds 22 (.s 21),
   .bi 23 .neq (.s 22) (.c (.int .i64 0))])
  (.cd (.s 23) (.rg [.mo 24 3,
   .fa 25 (.s 1) 4,
   .lds 26 (.s 25),
   .bsn 27 1 [(.s 26)],
   .apm 28 1 8 (.s 24) (.s 27),
   .mo 3 28]) .sk))
  (.sq (.rg [.mv 29 (.s 3),
   .ce 30 225 [(.s 29)]])
  (.sq (.rg [.mv 31 (.s 3),
   .ce 32 226 [(.s 31)],
   .mv 2 (.s 32)])
  .rt))))))
def a172 : AF := ⟨c172, [.t 2], 1, 33⟩
theorem m172 : mF Tryz.prog gl drD Tryz.f172 a172 = true := by kernel_rfl
theorem s172 {l : List AV} {r : AV} (hl : l.length = 1) (hi : idsL l = []) (h : wpA (SpH Tryz.prog gl) c172 (postF [.t 2] r) ⟨initE 0 l, [], []⟩) : Sp Tryz.prog gl 172 l r :=
  @fun_spF Tryz.prog gl drD 172 Tryz.f172 a172 Tryz.func172 m172 (dok _) l r hl hi h
theorem h172 {d : Nat} {I : In} {O : Out} (hl : I.vs.length = 1) (h : wpA (SpH Tryz.prog gl) c172 (postH d [.t 2] O) (inSt I)) : SpH Tryz.prog gl 172 d I O :=
  @fun_spH Tryz.prog gl drD 172 Tryz.f172 a172 Tryz.func172 m172 (dok _) d I O hl h
/-- firebell/exact.Floor -/
def c193 : AC :=
 (.sq (.rg [.bx 2 (.s 0),
   .al 4 [(.int .u64 0), (.int .u64 0)],
   .mv 5 (.c (.int .u64 0)),
   .mv 6 (.c (.int .i64 0))])
  (.sq (.sq (.rg [.mv 10 (.s 1),
   .bi 11 .eql (.s 10) (.c (.int .u64 0))])
  (.cd (.s 11) (.sq (.rg [.bd 12 [(.int .u64 0), (.int .u64 0)] [],
   .st 2 (.s 4) (.s 12),
   .mv 5 (.c (.int .u64 0)),
   .mv 6 (.c (.int .i64 4))])
  .rt) .sk))
  (.sq (.rg [.fa 14 (.s 2) 0,
   .lds 15 (.s 14),
   .mv 16 (.s 1),
   .cl 17 245 [(.c (.int .u64 0)), (.s 15), (.s 16)],
   .mv 13 (.s 17),
   .exq 18 (.s 13) 0,
   .exq 19 (.s 13) 1,
   .mv 7 (.s 18),
   .mv 8 (.s 19)])
  (.sq (.rg [.mv 21 (.s 8),
   .fa 22 (.s 2) 1,
   .lds 23 (.s 22),
   .mv 24 (.s 1),
   .cl 25 245 [(.s 21), (.s 23), (.s 24)],
   .mv 20 (.s 25),
   .exq 26 (.s 20) 0,
   .exq 27 (.s 20) 1,
   .mv 9 (.s 26),
   .mv 8 (.s 27)])
  (.sq (.rg [.mv 28 (.s 7),
   .mv 29 (.s 9),
   .bd 30 [(.int .u64 0), (.int .u64 0)] [(0, 1, (.s 28)), (1, 1, (.s 29))],
   .mv 31 (.s 8),
   .st 2 (.s 4) (.s 30),
   .mv 5 (.s 31),
   .mv 6 (.c (.int .i64 0))])
  .rt)))))
def a193 : AF := ⟨c193, [.ca 4 2, .t 5, .t 6], 2, 32⟩
theorem m193 : mF Tryz.prog gl drD Tryz.f193 a193 = true := by kernel_rfl
theorem s193 {l : List AV} {r : AV} (hl : l.length = 2) (hi : idsL l = []) (h : wpA (SpH Tryz.prog gl) c193 (postA [.ca 4 2, .t 5, .t 6] r) ⟨initE 0 l, [], []⟩) : Sp Tryz.prog gl 193 l r :=
  @fun_sp Tryz.prog gl drD 193 Tryz.f193 a193 Tryz.func193 m193 (dok _) l r hl hi h
theorem h193 {d : Nat} {I : In} {O : Out} (hl : I.vs.length = 2) (h : wpA (SpH Tryz.prog gl) c193 (postH d [.ca 4 2, .t 5, .t 6] O) (inSt I)) : SpH Tryz.prog gl 193 d I O :=
  @fun_spH Tryz.prog gl drD 193 Tryz.f193 a193 Tryz.func193 m193 (dok _) d I O hl h
/-- strings.splitSeq$1 -/
def c194 : AC :=
 (.sq (.sq (.rg [.lds 9 (.s 1),
   .lns 10 (.s 9),
   .bi 11 .eql (.s 10) (.c (.int .i64 0))])
  (.cd (.s 11) (.sq (.bl 0 (.lp (.sq (.sq (.rg [.lds 12 (.s 2),
   .lns 13 (.s 12),
   .bi 14 .gtr (.s 13) (.c (.int .i64 0))])
  (.cd (.s 14) .sk (.ex 0)))
  (.bl 1 (.sq (.rg [.lds 16 (.s 2),
   .cl 17 195 [(.s 16)],
   .mv 15 (.s 17),
   .exq 18 (.s 15) 0,
   .exq 19 (.s 15) 1,
   .mv 5 (.s 18),
   .mv 6 (.s 19)])
  (.sq (.sq (.rg [.mv 20 (.s 0),
   .lds 21 (.s 2),
   .mv 22 (.s 6),
   .sls 23 (.s 21) none (some (.s 22)),
   .cd 24 (.s 20) [(.s 23)],
   .un 25 .not (.s 24)])
  (.cd (.s 25) .rt .sk))
  (.rg [.lds 26 (.s 2),
   .mv 27 (.s 6),
   .sls 28 (.s 26) (some (.s 27)) none,
   .st 1 (.s 2) (.s 28)])))))))
  .rt) .sk))
  (.sq (.bl 2 (.lp (.bl 3 (.sq (.rg [.lds 29 (.s 2),
   .lds 30 (.s 1),
   .cl 31 196 [(.s 29), (.s 30)],
   .mv 7 (.s 31)])
  (.sq (.sq (.rg [.mv 32 (.s 7),
   .bi 33 .lss (.s 32) (.c (.int .i64 0))])
  (.cd (.s 33) (.ex 2) .sk))
  (.sq (.rg [.lds 34 (.s 2),
   .mv 35 (.s 7),
   .lds 36 (.s 3),
   .bi 37 .add (.s 35) (.s 36),
   .sls 38 (.s 34) none (some (.s 37)),
   .mv 8 (.s 38)])
  (.sq (.sq (.rg [.mv 39 (.s 0),
   .mv 40 (.s 8),
   .cd 41 (.s 39) [(.s 40)],
   .un 42 .not (.s 41)])
  (.cd (.s 42) .rt .sk))
  (.rg [.lds 43 (.s 2),
   .mv 44 (.s 7),
   .lds 45 (.s 1),
   .lns 46 (.s 45),
   .bi 47 .add (.s 44) (.s 46),
   .sls 48 (.s 43) (some (.s 47)) none,
   .st 1 (.s 2) (.s 48)]))))))))
  (.rg [.mv 49 (.s 0),
   .lds 50 (.s 2),
   .cd 51 (.s 49) [(.s 50)]])))
def a194 : AF := ⟨c194, [], 4, 52⟩
theorem m194 : mF Tryz.prog gl drD Tryz.f194 a194 = true := by kernel_rfl
theorem s194 {l : List AV} {r : AV} (hl : l.length = 4) (hi : idsL l = []) (h : wpA (SpH Tryz.prog gl) c194 (postA [] r) ⟨initE 0 l, [], []⟩) : Sp Tryz.prog gl 194 l r :=
  @fun_sp Tryz.prog gl drD 194 Tryz.f194 a194 Tryz.func194 m194 (dok _) l r hl hi h
theorem h194 {d : Nat} {I : In} {O : Out} (hl : I.vs.length = 4) (h : wpA (SpH Tryz.prog gl) c194 (postH d [] O) (inSt I)) : SpH Tryz.prog gl 194 d I O :=
  @fun_spH Tryz.prog gl drD 194 Tryz.f194 a194 Tryz.func194 m194 (dok _) d I O hl h
/-- strings.Index -/
def c196 : AC :=
 (.sq (.rg [.mv 4 (.c (.int .i64 0))])
  (.sq (.rg [.mv 5 (.s 0),
   .mv 6 (.s 1),
   .cl 7 212 [(.s 5), (.s 6)],
   .mv 4 (.s 7)])
  .rt))
def a196 : AF := ⟨c196, [.t 4], 2, 8⟩
theorem m196 : mF Tryz.prog gl drD Tryz.f196 a196 = true := by kernel_rfl
theorem s196 {l : List AV} {r : AV} (hl : l.length = 2) (hi : idsL l = []) (h : wpA (SpH Tryz.prog gl) c196 (postA [.t 4] r) ⟨initE 0 l, [], []⟩) : Sp Tryz.prog gl 196 l r :=
  @fun_sp Tryz.prog gl drD 196 Tryz.f196 a196 Tryz.func196 m196 (dok _) l r hl hi h
theorem h196 {d : Nat} {I : In} {O : Out} (hl : I.vs.length = 2) (h : wpA (SpH Tryz.prog gl) c196 (postH d [.t 4] O) (inSt I)) : SpH Tryz.prog gl 196 d I O :=
  @fun_spH Tryz.prog gl drD 196 Tryz.f196 a196 Tryz.func196 m196 (dok _) d I O hl h
/-- strings.CutPrefix -/
def c198 : AC :=
 (.sq (.rg [.mv 4 (.c (.str [])),
   .mv 5 (.c (.bool false))])
  (.sq (.rg [.mv 6 (.s 0),
   .mv 7 (.s 1),
   .cl 8 249 [(.s 6), (.s 7)],
   .exq 9 (.s 8) 0,
   .exq 10 (.s 8) 1,
   .mv 4 (.s 9),
   .mv 5 (.s 10)])
  .rt))
def a198 : AF := ⟨c198, [.t 4, .t 5], 2, 11⟩
theorem m198 : mF Tryz.prog gl drD Tryz.f198 a198 = true := by kernel_rfl
theorem s198 {l : List AV} {r : AV} (hl : l.length = 2) (hi : idsL l = []) (h : wpA (SpH Tryz.prog gl) c198 (postA [.t 4, .t 5] r) ⟨initE 0 l, [], []⟩) : Sp Tryz.prog gl 198 l r :=
  @fun_sp Tryz.prog gl drD 198 Tryz.f198 a198 Tryz.func198 m198 (dok _) l r hl hi h
theorem h198 {d : Nat} {I : In} {O : Out} (hl : I.vs.length = 2) (h : wpA (SpH Tryz.prog gl) c198 (postH d [.t 4, .t 5] O) (inSt I)) : SpH Tryz.prog gl 198 d I O :=
  @fun_spH Tryz.prog gl drD 198 Tryz.f198 a198 Tryz.func198 m198 (dok _) d I O hl h
/-- firebell/firebellref01.Compare -/
def c201 : AC :=
 (.sq (.rg [.mv 4 (.c (.int .i64 0))])
  (.sq (.rg [.mv 7 (.s 0),
   .ln 8 (.s 7),
   .mv 5 (.s 8)])
  (.sq (.sq (.rg [.mv 9 (.s 1),
   .ln 10 (.s 9),
   .mv 11 (.s 5),
   .bi 12 .gtr (.s 10) (.s 11)])
  (.cd (.s 12) (.rg [.mv 13 (.s 1),
   .ln 14 (.s 13),
   .mv 5 (.s 14)]) .sk))
  (.sq (.sq (.rg [.mv 15 (.s 5),
   .bi 16 .sub (.s 15) (.c (.int .i64 1)),
   .mv 6 (.s 16)])
  (.bl 0 (.lp (.sq (.sq (.rg [.mv 17 (.s 6),
   .bi 18 .geq (.s 17) (.c (.int .i64 0))])
  (.cd (.s 18) .sk (.ex 0)))
  (.sq (.bl 1 (.sq (.rg [.mv 21 (.s 0),
   .mv 22 (.s 6),
   .cl 23 251 [(.s 21), (.s 22)],
   .mv 24 (.s 1),
   .mv 25 (.s 6),
   .cl 26 251 [(.s 24), (.s 25)],
   .bi 27 .neq (.s 23) (.s 26)])
  (.cd (.s 27) (.sq (.rg [.mv 28 (.s 0),
   .mv 29 (.s 6),
   .cl 30 251 [(.s 28), (.s 29)],
   .mv 31 (.s 1),
   .mv 32 (.s 6),
   .cl 33 251 [(.s 31), (.s 32)],
   .bi 34 .sub (.s 30) (.s 33),
   .mv 4 (.s 34)])
  .rt) .sk)))
  (.rg [.mv 19 (.s 6),
   .bi 20 .sub (.s 19) (.c (.int .i64 1)),
   .mv 6 (.s 20)]))))))
  (.sq (.rg [.mv 4 (.c (.int .i64 0))])
  .rt)))))
def a201 : AF := ⟨c201, [.t 4], 2, 35⟩
theorem m201 : mF Tryz.prog gl drD Tryz.f201 a201 = true := by kernel_rfl
theorem s201 {l : List AV} {r : AV} (hl : l.length = 2) (hi : idsL l = []) (h : wpA (SpH Tryz.prog gl) c201 (postA [.t 4] r) ⟨initE 0 l, [], []⟩) : Sp Tryz.prog gl 201 l r :=
  @fun_sp Tryz.prog gl drD 201 Tryz.f201 a201 Tryz.func201 m201 (dok _) l r hl hi h
theorem h201 {d : Nat} {I : In} {O : Out} (hl : I.vs.length = 2) (h : wpA (SpH Tryz.prog gl) c201 (postH d [.t 4] O) (inSt I)) : SpH Tryz.prog gl 201 d I O :=
  @fun_spH Tryz.prog gl drD 201 Tryz.f201 a201 Tryz.func201 m201 (dok _) d I O hl h
/-- firebell/change.find[firebell/api.Goal] -/
def c204 : AC :=
 (.sq (.rg [.mv 4 (.c (.int .i64 0))])
  (.sq (.rg [.mv 5 (.s 0),
   .mv 6 (.s 1),
   .ce 7 252 [(.s 5), (.s 6)],
   .mv 4 (.s 7)])
  .rt))
def a204 : AF := ⟨c204, [.t 4], 2, 8⟩
theorem m204 : mF Tryz.prog gl drD Tryz.f204 a204 = true := by kernel_rfl
theorem s204 {l : List AV} {r : AV} (hl : l.length = 2) (hi : idsL l = []) (h : wpA (SpH Tryz.prog gl) c204 (postA [.t 4] r) ⟨initE 0 l, [], []⟩) : Sp Tryz.prog gl 204 l r :=
  @fun_sp Tryz.prog gl drD 204 Tryz.f204 a204 Tryz.func204 m204 (dok _) l r hl hi h
theorem h204 {d : Nat} {I : In} {O : Out} (hl : I.vs.length = 2) (h : wpA (SpH Tryz.prog gl) c204 (postH d [.t 4] O) (inSt I)) : SpH Tryz.prog gl 204 d I O :=
  @fun_spH Tryz.prog gl drD 204 Tryz.f204 a204 Tryz.func204 m204 (dok _) d I O hl h
/-- firebell/change.goalOf$1 -/
def c205 : AC :=
 (.sq (.rg [.bx 2 (.s 0),
   .mv 3 (.c (.bool false))])
  (.sq (.rg [.fa 4 (.s 2) 0,
   .lds 5 (.s 4),
   .lds 6 (.s 1),
   .bi 7 .eql (.s 5) (.s 6),
   .mv 3 (.s 7)])
  .rt))
def a205 : AF := ⟨c205, [.t 3], 2, 8⟩
theorem m205 : mF Tryz.prog gl drD Tryz.f205 a205 = true := by kernel_rfl
theorem s205 {l : List AV} {r : AV} (hl : l.length = 2) (hi : idsL l = []) (h : wpA (SpH Tryz.prog gl) c205 (postA [.t 3] r) ⟨initE 0 l, [], []⟩) : Sp Tryz.prog gl 205 l r :=
  @fun_sp Tryz.prog gl drD 205 Tryz.f205 a205 Tryz.func205 m205 (dok _) l r hl hi h
theorem h205 {d : Nat} {I : In} {O : Out} (hl : I.vs.length = 2) (h : wpA (SpH Tryz.prog gl) c205 (postH d [.t 3] O) (inSt I)) : SpH Tryz.prog gl 205 d I O :=
  @fun_spH Tryz.prog gl drD 205 Tryz.f205 a205 Tryz.func205 m205 (dok _) d I O hl h
/-- firebell/change.stays -/
def c206 : AC :=
 (.sq (.rg [.bx 2 (.s 0),
   .bx 3 (.s 1),
   .mv 4 (.c (.bool false))])
  (.sq (.rd [[], [], [], [], [], [], [], [], [], [], [], [], [], [], [], [], [], [], [], []] [.fa 5 (.s 2) 2,
   .lds 6 (.s 5),
   .fa 7 (.s 3) 2,
   .lds 8 (.s 7),
   .bi 9 .eql (.s 6) (.s 8),
   .mv 10 (.s 9),
   .gd 10 true 11 (.fa 11 (.s 2) 5),
   .gd 10 true 12 (.lds 12 (.s 11)),
   .gd 10 true 13 (.fa 13 (.s 3) 5),
   .gd 10 true 14 (.lds 14 (.s 13)),
   .gd 10 true 15 (.bi 15 .eql (.s 12) (.s 14)),
   .pk 16 (.s 10) (.s 15) (.c (.bool false)),
   .mv 17 (.s 16),
   .gd 17 true 18 (.lda 18 8 (.s 2)),
   .gd 17 true 19 (.cl 19 172 [(.s 18)]),
   .gd 17 true 20 (.lda 20 8 (.s 3)),
   .gd 17 true 21 (.cl 21 172 [(.s 20)]),
   .gd 17 true 22 (.cl 22 171 [(.s 19), (.s 21)]),
   .pk 23 (.s 17) (.s 22) (.c (.bool false)),
   .mv 4 (.s 23)])
  .rt))
def a206 : AF := ⟨c206, [.t 4], 2, 24⟩
theorem m206 : mF Tryz.prog gl drD Tryz.f206 a206 = true := by kernel_rfl
theorem s206 {l : List AV} {r : AV} (hl : l.length = 2) (hi : idsL l = []) (h : wpA (SpH Tryz.prog gl) c206 (postA [.t 4] r) ⟨initE 0 l, [], []⟩) : Sp Tryz.prog gl 206 l r :=
  @fun_sp Tryz.prog gl drD 206 Tryz.f206 a206 Tryz.func206 m206 (dok _) l r hl hi h
theorem h206 {d : Nat} {I : In} {O : Out} (hl : I.vs.length = 2) (h : wpA (SpH Tryz.prog gl) c206 (postH d [.t 4] O) (inSt I)) : SpH Tryz.prog gl 206 d I O :=
  @fun_spH Tryz.prog gl drD 206 Tryz.f206 a206 Tryz.func206 m206 (dok _) d I O hl h
/-- firebell/change.kind -/
def c207 : AC :=
 (.sq (.rg [.mv 4 (.c (.int .i64 0))])
  (.sq (.bl 0 (.sq (.rg [.mv 6 (.s 0),
   .un 7 .not (.s 6),
   .mv 5 (.s 7)])
  (.cd (.s 5) (.sq (.rg [.mv 4 (.c (.int .i64 1))])
  .rt) (.sq (.rg [.mv 9 (.s 1),
   .mv 8 (.s 9)])
  (.cd (.s 8) (.sq (.rg [.mv 4 (.c (.int .i64 2))])
  .rt) .sk)))))
  (.sq (.rg [.mv 4 (.c (.int .i64 3))])
  .rt)))
def a207 : AF := ⟨c207, [.t 4], 2, 10⟩
theorem m207 : mF Tryz.prog gl drD Tryz.f207 a207 = true := by kernel_rfl
theorem s207 {l : List AV} {r : AV} (hl : l.length = 2) (hi : idsL l = []) (h : wpA (SpH Tryz.prog gl) c207 (postA [.t 4] r) ⟨initE 0 l, [], []⟩) : Sp Tryz.prog gl 207 l r :=
  @fun_sp Tryz.prog gl drD 207 Tryz.f207 a207 Tryz.func207 m207 (dok _) l r hl hi h
theorem h207 {d : Nat} {I : In} {O : Out} (hl : I.vs.length = 2) (h : wpA (SpH Tryz.prog gl) c207 (postH d [.t 4] O) (inSt I)) : SpH Tryz.prog gl 207 d I O :=
  @fun_spH Tryz.prog gl drD 207 Tryz.f207 a207 Tryz.func207 m207 (dok _) d I O hl h
/-- firebell/change.ruleOf -/
def c208 : AC :=
 (.sq (.rg [.bx 2 (.s 0),
   .bx 3 (.s 1),
   .al 4 [(.str []), (.bool false), (.int .i64 0), (.int .i64 0), (.int .u64 0), (.int .i64 0), (.int .i64 0)],
   .mv 5 (.c (.bool false))])
  (.sq (.rg [.fa 7 (.s 2) 7,
   .lds 8 (.s 7),
   .mf 9 254 [(.s 3)],
   .ce 10 253 [(.s 8), (.s 9)],
   .mv 6 (.s 10)])
  (.sq (.sq (.rg [.mv 11 (.s 6),
   .bi 12 .lss (.s 11) (.c (.int .i64 0))])
  (.cd (.s 12) (.sq (.rg [.bd 13 [(.str []), (.bool false), (.int .i64 0), (.int .i64 0), (.int .u64 0), (.int .i64 0), (.int .i64 0)] [],
   .st 7 (.s 4) (.s 13),
   .mv 5 (.c (.bool false))])
  .rt) .sk))
  (.sq (.rg [.fa 14 (.s 2) 7,
   .lds 15 (.s 14),
   .mv 16 (.s 6),
   .ia 17 7 (.s 15) (.s 16),
   .lda 18 7 (.s 17),
   .st 7 (.s 4) (.s 18),
   .mv 5 (.c (.bool true))])
  .rt))))
def a208 : AF := ⟨c208, [.ca 4 7, .t 5], 2, 19⟩
theorem m208 : mF Tryz.prog gl drD Tryz.f208 a208 = true := by kernel_rfl
theorem s208 {l : List AV} {r : AV} (hl : l.length = 2) (hi : idsL l = []) (h : wpA (SpH Tryz.prog gl) c208 (postA [.ca 4 7, .t 5] r) ⟨initE 0 l, [], []⟩) : Sp Tryz.prog gl 208 l r :=
  @fun_sp Tryz.prog gl drD 208 Tryz.f208 a208 Tryz.func208 m208 (dok _) l r hl hi h
theorem h208 {d : Nat} {I : In} {O : Out} (hl : I.vs.length = 2) (h : wpA (SpH Tryz.prog gl) c208 (postH d [.ca 4 7, .t 5] O) (inSt I)) : SpH Tryz.prog gl 208 d I O :=
  @fun_spH Tryz.prog gl drD 208 Tryz.f208 a208 Tryz.func208 m208 (dok _) d I O hl h
/-- slices.Index[[]string,string] -/
def c214 : AC :=
 (.sq (.rg [.mv 4 (.c (.int .i64 0))])
  (.sq (.sq (.rg [.mv 6 (.s 0),
   .ln 7 (.s 6),
   .mv 8 (.c (.int .i64 0))])
  (.bl 0 (.lp (.sq (.rg [.bi 9 .lss (.s 8) (.s 7)])
  (.sq (.cd (.s 9) .sk (.ex 0))
  (.sq (.bl 1 (.sq (.rg [.mv 10 (.s 8),
   .mv 5 (.s 10)])
  (.sq (.rg [.mv 11 (.s 1),
   .mv 12 (.s 0),
   .mv 13 (.s 5),
   .ia 14 1 (.s 12) (.s 13),
   .lds 15 (.s 14),
   .bi 16 .eql (.s 11) (.s 15)])
  (.cd (.s 16) (.sq (.rg [.mv 17 (.s 5),
   .mv 4 (.s 17)])
  .rt) .sk))))
  (.rg [.bi 18 .add (.s 8) (.c (.int .i64 1)),
   .mv 8 (.s 18)])))))))
  (.sq (.rg [.mv 4 (.c (.int .i64 (-1)))])
  .rt)))
def a214 : AF := ⟨c214, [.t 4], 2, 19⟩
theorem m214 : mF Tryz.prog gl drD Tryz.f214 a214 = true := by kernel_rfl
theorem s214 {l : List AV} {r : AV} (hl : l.length = 2) (hi : idsL l = []) (h : wpA (SpH Tryz.prog gl) c214 (postA [.t 4] r) ⟨initE 0 l, [], []⟩) : Sp Tryz.prog gl 214 l r :=
  @fun_sp Tryz.prog gl drD 214 Tryz.f214 a214 Tryz.func214 m214 (dok _) l r hl hi h
theorem h214 {d : Nat} {I : In} {O : Out} (hl : I.vs.length = 2) (h : wpA (SpH Tryz.prog gl) c214 (postH d [.t 4] O) (inSt I)) : SpH Tryz.prog gl 214 d I O :=
  @fun_spH Tryz.prog gl drD 214 Tryz.f214 a214 Tryz.func214 m214 (dok _) d I O hl h
/-- slices.Compact[[]int64,int64] -/
def c226 : AC :=
 (.sq (.rg [.mv 2 (.c .nils)])
  (.sq (.sq (.rg [.mv 6 (.s 0),
   .ln 7 (.s 6),
   .bi 8 .lss (.s 7) (.c (.int .i64 2))])
  (.cd (.s 8) (.sq (.rg [.mv 9 (.s 0),
   .mv 2 (.s 9)])
  .rt) .sk))
  (.sq (.sq (.rg [.mv 3 (.c (.int .i64 1))])
  (.bl 0 (.lp (.sq (.sq (.rg [.mv 10 (.s 3),
   .mv 11 (.s 0),
   .ln 12 (.s 11),
   .bi 13 .lss (.s 10) (.s 12)])
  (.cd (.s 13) .sk (.ex 0)))
  (.sq (.bl 1 (.sq (.rd [[], [], [], [], [], [], [], [], [], []] [.mv 16 (.s 0),
   .mv 17 (.s 3),
   .ia 18 1 (.s 16) (.s 17),
   .lds 19 (.s 18),
   .mv 20 (.s 0),
   .mv 21 (.s 3),
   .bi 22 .sub (.s 21) (.c (.int .i64 1)),
   .ia 23 1 (.s 20) (.s 22),
   .lds 24 (.s 23),
   .bi 25 .eql (.s 19) (.s 24)])
  (.cd (.s 25) (.sq (.rg [.mv 26 (.s 0),
   .mv 27 (.s 3),
   .slc 28 1 (.s 26) (some (.s 27)) none,
   .mv 4 (.s 28)])
  (.sq (.sq (.rg [.mv 5 (.c (.int .i64 1))])
  (.bl 2 (.lp (.sq (.sq (.rg [.mv 29 (.s 5),
   .mv 30 (.s 4),
   .ln 31 (.s 30),
   .bi 32 .lss (.s 29) (.s 31)])
  (.cd (.s 32) .sk (.ex 2)))
  (.sq (.bl 3 (.sq (.rd [[], [], [], [], [], [], [], [], [], []] [.mv 35 (.s 4),
   .mv 36 (.s 5),
   .ia 37 1 (.s 35) (.s 36),
   .lds 38 (.s 37),
   .mv 39 (.s 4),
   .mv 40 (.s 5),
   .bi 41 .sub (.s 40) (.c (.int .i64 1)),
   .ia 42 1 (.s 39) (.s 41),
   .lds 43 (.s 42),
   .bi 44 .neq (.s 38) (.s 43)])
  (.cd (.s 44) (.sq (.rg [.mv 45 (.s 0),
   .mv 46 (.s 3),
   .mv 47 (.s 4),
   .mv 48 (.s 5),
   .ia 49 1 (.s 47) (.s 48),
   .lds 50 (.s 49),
   .ia 51 1 (.s 45) (.s 46),
   .st 1 (.s 51) (.s 50)])
  (.rg [.mv 52 (.s 3),
   .bi 53 .add (.s 52) (.c (.int .i64 1)),
   .mv 3 (.s 53)])) .sk)))
  (.rg [.mv 33 (.s 5),
   .bi 34 .add (.s 33) (.c (.int .i64 1)),
   .mv 5 (.s 34)]))))))
  (.sq (.rg [.mv 54 (.s 0),
   .mv 55 (.s 3),
   .slc 56 1 (.s 54) (some (.s 55)) none,
   .clr 1 [(.int .i64 0)] (.s 56)])
  (.sq (.rg [.mv 57 (.s 0),
   .mv 58 (.s 3),
   .slc 59 1 (.s 57) none (some (.s 58)),
   .mv 2 (.s 59)])
  .rt)))) .sk)))
  (.rg [.mv 14 (.s 3),
   .bi 15 .add (.s 14) (.c (.int .i64 1)),
   .mv 3 (.s 15)]))))))
  (.sq (.rg [.mv 60 (.s 0),
   .mv 2 (.s 60)])
  .rt))))
def a226 : AF := ⟨c226, [.t 2], 1, 61⟩
theorem m226 : mF Tryz.prog gl drD Tryz.f226 a226 = true := by kernel_rfl
theorem s226 {l : List AV} {r : AV} (hl : l.length = 1) (hi : idsL l = []) (h : wpA (SpH Tryz.prog gl) c226 (postF [.t 2] r) ⟨initE 0 l, [], []⟩) : Sp Tryz.prog gl 226 l r :=
  @fun_spF Tryz.prog gl drD 226 Tryz.f226 a226 Tryz.func226 m226 (dok _) l r hl hi h
theorem h226 {d : Nat} {I : In} {O : Out} (hl : I.vs.length = 1) (h : wpA (SpH Tryz.prog gl) c226 (postH d [.t 2] O) (inSt I)) : SpH Tryz.prog gl 226 d I O :=
  @fun_spH Tryz.prog gl drD 226 Tryz.f226 a226 Tryz.func226 m226 (dok _) d I O hl h
/-- firebell/civil.period -/
def c227 : AC :=
 (.sq (.rg [.mv 4 (.c (.int .i64 0)),
   .mv 5 (.c (.int .i64 0)),
   .mv 6 (.c (.int .i64 0))])
  (.sq (.rg [.mv 11 (.s 0),
   .cl 12 273 [(.s 11)],
   .mv 10 (.s 12),
   .exq 13 (.s 10) 0,
   .exq 14 (.s 10) 1,
   .al 7 [(.int .i64 0), (.int .i64 0), (.int .i64 0)],
   .st 3 (.s 7) (.s 13),
   .mv 8 (.s 14)])
  (.sq (.sq (.rg [.mv 15 (.s 8),
   .bi 16 .neq (.s 15) (.c (.int .i64 0))])
  (.cd (.s 16) (.sq (.rg [.mv 17 (.s 8),
   .mv 4 (.c (.int .i64 0)),
   .mv 5 (.c (.int .i64 0)),
   .mv 6 (.s 17)])
  .rt) .sk))
  (.sq (.rd [[], [], [], [], [], [], [], [], []] [.fa 18 (.s 7) 1,
   .lds 19 (.s 18),
   .fa 20 (.s 7) 1,
   .lds 21 (.s 20),
   .bi 22 .sub (.s 21) (.c (.int .i64 1)),
   .mv 23 (.s 1),
   .bi 24 .rem (.s 22) (.s 23),
   .bi 25 .sub (.s 19) (.s 24),
   .mv 9 (.s 25)])
  (.sq (.rd [[], [], [], [], [], [], [], [], [], [], [], [], []] [.fa 26 (.s 7) 0,
   .lds 27 (.s 26),
   .mv 28 (.s 9),
   .cl 29 274 [(.s 27), (.s 28)],
   .fa 30 (.s 7) 0,
   .lds 31 (.s 30),
   .mv 32 (.s 9),
   .mv 33 (.s 1),
   .bi 34 .add (.s 32) (.s 33),
   .cl 35 274 [(.s 31), (.s 34)],
   .mv 4 (.s 29),
   .mv 5 (.s 35),
   .mv 6 (.c (.int .i64 0))])
  .rt)))))
def a227 : AF := ⟨c227, [.t 4, .t 5, .t 6], 2, 36⟩
theorem m227 : mF Tryz.prog gl drD Tryz.f227 a227 = true := by kernel_rfl
theorem s227 {l : List AV} {r : AV} (hl : l.length = 2) (hi : idsL l = []) (h : wpA (SpH Tryz.prog gl) c227 (postA [.t 4, .t 5, .t 6] r) ⟨initE 0 l, [], []⟩) : Sp Tryz.prog gl 227 l r :=
  @fun_sp Tryz.prog gl drD 227 Tryz.f227 a227 Tryz.func227 m227 (dok _) l r hl hi h
theorem h227 {d : Nat} {I : In} {O : Out} (hl : I.vs.length = 2) (h : wpA (SpH Tryz.prog gl) c227 (postH d [.t 4, .t 5, .t 6] O) (inSt I)) : SpH Tryz.prog gl 227 d I O :=
  @fun_spH Tryz.prog gl drD 227 Tryz.f227 a227 Tryz.func227 m227 (dok _) d I O hl h
/-- slices.IndexFunc[[]firebell/api.Goal,firebell/api.Goal] -/
def c252 : AC :=
 (.sq (.rg [.mv 4 (.c (.int .i64 0))])
  (.sq (.sq (.rg [.mv 6 (.s 0),
   .ln 7 (.s 6),
   .mv 8 (.c (.int .i64 0))])
  (.bl 0 (.lp (.sq (.rg [.bi 9 .lss (.s 8) (.s 7)])
  (.sq (.cd (.s 9) .sk (.ex 0))
  (.sq (.bl 1 (.sq (.rg [.mv 10 (.s 8),
   .mv 5 (.s 10)])
  (.sq (.rg [.mv 11 (.s 1),
   .mv 12 (.s 0),
   .mv 13 (.s 5),
   .ia 14 8 (.s 12) (.s 13),
   .lda 15 8 (.s 14),
   .cd 16 (.s 11) [(.s 15)]])
  (.cd (.s 16) (.sq (.rg [.mv 17 (.s 5),
   .mv 4 (.s 17)])
  .rt) .sk))))
  (.rg [.bi 18 .add (.s 8) (.c (.int .i64 1)),
   .mv 8 (.s 18)])))))))
  (.sq (.rg [.mv 4 (.c (.int .i64 (-1)))])
  .rt)))
def a252 : AF := ⟨c252, [.t 4], 2, 19⟩
theorem m252 : mF Tryz.prog gl drD Tryz.f252 a252 = true := by kernel_rfl
theorem s252 {l : List AV} {r : AV} (hl : l.length = 2) (hi : idsL l = []) (h : wpA (SpH Tryz.prog gl) c252 (postA [.t 4] r) ⟨initE 0 l, [], []⟩) : Sp Tryz.prog gl 252 l r :=
  @fun_sp Tryz.prog gl drD 252 Tryz.f252 a252 Tryz.func252 m252 (dok _) l r hl hi h
theorem h252 {d : Nat} {I : In} {O : Out} (hl : I.vs.length = 2) (h : wpA (SpH Tryz.prog gl) c252 (postH d [.t 4] O) (inSt I)) : SpH Tryz.prog gl 252 d I O :=
  @fun_spH Tryz.prog gl drD 252 Tryz.f252 a252 Tryz.func252 m252 (dok _) d I O hl h
/-- firebell/change.find[firebell/api.Rule] -/
def c253 : AC :=
 (.sq (.rg [.mv 4 (.c (.int .i64 0))])
  (.sq (.rg [.mv 5 (.s 0),
   .mv 6 (.s 1),
   .ce 7 292 [(.s 5), (.s 6)],
   .mv 4 (.s 7)])
  .rt))
def a253 : AF := ⟨c253, [.t 4], 2, 8⟩
theorem m253 : mF Tryz.prog gl drD Tryz.f253 a253 = true := by kernel_rfl
theorem s253 {l : List AV} {r : AV} (hl : l.length = 2) (hi : idsL l = []) (h : wpA (SpH Tryz.prog gl) c253 (postA [.t 4] r) ⟨initE 0 l, [], []⟩) : Sp Tryz.prog gl 253 l r :=
  @fun_sp Tryz.prog gl drD 253 Tryz.f253 a253 Tryz.func253 m253 (dok _) l r hl hi h
theorem h253 {d : Nat} {I : In} {O : Out} (hl : I.vs.length = 2) (h : wpA (SpH Tryz.prog gl) c253 (postH d [.t 4] O) (inSt I)) : SpH Tryz.prog gl 253 d I O :=
  @fun_spH Tryz.prog gl drD 253 Tryz.f253 a253 Tryz.func253 m253 (dok _) d I O hl h
/-- firebell/change.ruleOf$1 -/
def c254 : AC :=
 (.sq (.rg [.bx 2 (.s 0),
   .mv 3 (.c (.bool false))])
  (.sq (.rg [.fa 4 (.s 2) 0,
   .lds 5 (.s 4),
   .lds 6 (.s 1),
   .bi 7 .eql (.s 5) (.s 6),
   .mv 3 (.s 7)])
  .rt))
def a254 : AF := ⟨c254, [.t 3], 2, 8⟩
theorem m254 : mF Tryz.prog gl drD Tryz.f254 a254 = true := by kernel_rfl
theorem s254 {l : List AV} {r : AV} (hl : l.length = 2) (hi : idsL l = []) (h : wpA (SpH Tryz.prog gl) c254 (postA [.t 3] r) ⟨initE 0 l, [], []⟩) : Sp Tryz.prog gl 254 l r :=
  @fun_sp Tryz.prog gl drD 254 Tryz.f254 a254 Tryz.func254 m254 (dok _) l r hl hi h
theorem h254 {d : Nat} {I : In} {O : Out} (hl : I.vs.length = 2) (h : wpA (SpH Tryz.prog gl) c254 (postH d [.t 3] O) (inSt I)) : SpH Tryz.prog gl 254 d I O :=
  @fun_spH Tryz.prog gl drD 254 Tryz.f254 a254 Tryz.func254 m254 (dok _) d I O hl h
/-- slices.IndexFunc[[]firebell/api.Rule,firebell/api.Rule] -/
def c292 : AC :=
 (.sq (.rg [.mv 4 (.c (.int .i64 0))])
  (.sq (.sq (.rg [.mv 6 (.s 0),
   .ln 7 (.s 6),
   .mv 8 (.c (.int .i64 0))])
  (.bl 0 (.lp (.sq (.rg [.bi 9 .lss (.s 8) (.s 7)])
  (.sq (.cd (.s 9) .sk (.ex 0))
  (.sq (.bl 1 (.sq (.rg [.mv 10 (.s 8),
   .mv 5 (.s 10)])
  (.sq (.rg [.mv 11 (.s 1),
   .mv 12 (.s 0),
   .mv 13 (.s 5),
   .ia 14 7 (.s 12) (.s 13),
   .lda 15 7 (.s 14),
   .cd 16 (.s 11) [(.s 15)]])
  (.cd (.s 16) (.sq (.rg [.mv 17 (.s 5),
   .mv 4 (.s 17)])
  .rt) .sk))))
  (.rg [.bi 18 .add (.s 8) (.c (.int .i64 1)),
   .mv 8 (.s 18)])))))))
  (.sq (.rg [.mv 4 (.c (.int .i64 (-1)))])
  .rt)))
def a292 : AF := ⟨c292, [.t 4], 2, 19⟩
theorem m292 : mF Tryz.prog gl drD Tryz.f292 a292 = true := by kernel_rfl
theorem s292 {l : List AV} {r : AV} (hl : l.length = 2) (hi : idsL l = []) (h : wpA (SpH Tryz.prog gl) c292 (postA [.t 4] r) ⟨initE 0 l, [], []⟩) : Sp Tryz.prog gl 292 l r :=
  @fun_sp Tryz.prog gl drD 292 Tryz.f292 a292 Tryz.func292 m292 (dok _) l r hl hi h
theorem h292 {d : Nat} {I : In} {O : Out} (hl : I.vs.length = 2) (h : wpA (SpH Tryz.prog gl) c292 (postH d [.t 4] O) (inSt I)) : SpH Tryz.prog gl 292 d I O :=
  @fun_spH Tryz.prog gl drD 292 Tryz.f292 a292 Tryz.func292 m292 (dok _) d I O hl h
end Go.Ai
