/- YtcdomokjdfmnlaaDoorCode: part of the abstract interpreter library (values, rules, soundness against the model) or of what a function of the seat computes. Conditions: as each theorem says. -/
import Derived.Test.YtcdomokjdfmnlaaDoorAiUse
import Derived.Test.YtcdomokjdfmnlaaDoorAiExt
import Derived.Test.YtcdomokjdfmnlaaDoorAiFunH
import Derived.Test.YtcdomokjdfmnlaaDoorProg
namespace Go.Ai
open Go.Proofs
theorem mix : Tryd.prog.follows .mixedOrders = true := by kernel_rfl
def gl : List (Nat × List Value) := [(0, [Value.int .u64 1, Value.int .u64 10, Value.int .u64 100, Value.int .u64 1000, Value.int .u64 10000, Value.int .u64 100000, Value.int .u64 1000000, Value.int .u64 10000000, Value.int .u64 100000000, Value.int .u64 1000000000, Value.int .u64 10000000000, Value.int .u64 100000000000, Value.int .u64 1000000000000, Value.int .u64 10000000000000, Value.int .u64 100000000000000, Value.int .u64 1000000000000000, Value.int .u64 10000000000000000, Value.int .u64 100000000000000000, Value.int .u64 1000000000000000000, Value.int .u64 10000000000000000000]), (2, [Value.int .u8 240, Value.int .u8 240, Value.int .u8 240, Value.int .u8 240, Value.int .u8 240, Value.int .u8 240, Value.int .u8 240, Value.int .u8 240, Value.int .u8 240, Value.int .u8 240, Value.int .u8 240, Value.int .u8 240, Value.int .u8 240, Value.int .u8 240, Value.int .u8 240, Value.int .u8 240, Value.int .u8 240, Value.int .u8 240, Value.int .u8 240, Value.int .u8 240, Value.int .u8 240, Value.int .u8 240, Value.int .u8 240, Value.int .u8 240, Value.int .u8 240, Value.int .u8 240, Value.int .u8 240, Value.int .u8 240, Value.int .u8 240, Value.int .u8 240, Value.int .u8 240, Value.int .u8 240, Value.int .u8 240, Value.int .u8 240, Value.int .u8 240, Value.int .u8 240, Value.int .u8 240, Value.int .u8 240, Value.int .u8 240, Value.int .u8 240, Value.int .u8 240, Value.int .u8 240, Value.int .u8 240, Value.int .u8 240, Value.int .u8 240, Value.int .u8 240, Value.int .u8 240, Value.int .u8 240, Value.int .u8 240, Value.int .u8 240, Value.int .u8 240, Value.int .u8 240, Value.int .u8 240, Value.int .u8 240, Value.int .u8 240, Value.int .u8 240, Value.int .u8 240, Value.int .u8 240, Value.int .u8 240, Value.int .u8 240, Value.int .u8 240, Value.int .u8 240, Value.int .u8 240, Value.int .u8 240, Value.int .u8 240, Value.int .u8 240, Value.int .u8 240, Value.int .u8 240, Value.int .u8 240, Value.int .u8 240, Value.int .u8 240, Value.int .u8 240, Value.int .u8 240, Value.int .u8 240, Value.int .u8 240, Value.int .u8 240, Value.int .u8 240, Value.int .u8 240, Value.int .u8 240, Value.int .u8 240, Value.int .u8 240, Value.int .u8 240, Value.int .u8 240, Value.int .u8 240, Value.int .u8 240, Value.int .u8 240, Value.int .u8 240, Value.int .u8 240, Value.int .u8 240, Value.int .u8 240, Value.int .u8 240, Value.int .u8 240, Value.int .u8 240, Value.int .u8 240, Value.int .u8 240, Value.int .u8 240, Value.int .u8 240, Value.int .u8 240, Value.int .u8 240, Value.int .u8 240, Value.int .u8 240, Value.int .u8 240, Value.int .u8 240, Value.int .u8 240, Value.int .u8 240, Value.int .u8 240, Value.int .u8 240, Value.int .u8 240, Value.int .u8 240, Value.int .u8 240, Value.int .u8 240, Value.int .u8 240, Value.int .u8 240, Value.int .u8 240, Value.int .u8 240, Value.int .u8 240, Value.int .u8 240, Value.int .u8 240, Value.int .u8 240, Value.int .u8 240, Value.int .u8 240, Value.int .u8 240, Value.int .u8 240, Value.int .u8 240, Value.int .u8 240, Value.int .u8 240, Value.int .u8 240, Value.int .u8 240, Value.int .u8 241, Value.int .u8 241, Value.int .u8 241, Value.int .u8 241, Value.int .u8 241, Value.int .u8 241, Value.int .u8 241, Value.int .u8 241, Value.int .u8 241, Value.int .u8 241, Value.int .u8 241, Value.int .u8 241, Value.int .u8 241, Value.int .u8 241, Value.int .u8 241, Value.int .u8 241, Value.int .u8 241, Value.int .u8 241, Value.int .u8 241, Value.int .u8 241, Value.int .u8 241, Value.int .u8 241, Value.int .u8 241, Value.int .u8 241, Value.int .u8 241, Value.int .u8 241, Value.int .u8 241, Value.int .u8 241, Value.int .u8 241, Value.int .u8 241, Value.int .u8 241, Value.int .u8 241, Value.int .u8 241, Value.int .u8 241, Value.int .u8 241, Value.int .u8 241, Value.int .u8 241, Value.int .u8 241, Value.int .u8 241, Value.int .u8 241, Value.int .u8 241, Value.int .u8 241, Value.int .u8 241, Value.int .u8 241, Value.int .u8 241, Value.int .u8 241, Value.int .u8 241, Value.int .u8 241, Value.int .u8 241, Value.int .u8 241, Value.int .u8 241, Value.int .u8 241, Value.int .u8 241, Value.int .u8 241, Value.int .u8 241, Value.int .u8 241, Value.int .u8 241, Value.int .u8 241, Value.int .u8 241, Value.int .u8 241, Value.int .u8 241, Value.int .u8 241, Value.int .u8 241, Value.int .u8 241, Value.int .u8 241, Value.int .u8 241, Value.int .u8 2, Value.int .u8 2, Value.int .u8 2, Value.int .u8 2, Value.int .u8 2, Value.int .u8 2, Value.int .u8 2, Value.int .u8 2, Value.int .u8 2, Value.int .u8 2, Value.int .u8 2, Value.int .u8 2, Value.int .u8 2, Value.int .u8 2, Value.int .u8 2, Value.int .u8 2, Value.int .u8 2, Value.int .u8 2, Value.int .u8 2, Value.int .u8 2, Value.int .u8 2, Value.int .u8 2, Value.int .u8 2, Value.int .u8 2, Value.int .u8 2, Value.int .u8 2, Value.int .u8 2, Value.int .u8 2, Value.int .u8 2, Value.int .u8 2, Value.int .u8 19, Value.int .u8 3, Value.int .u8 3, Value.int .u8 3, Value.int .u8 3, Value.int .u8 3, Value.int .u8 3, Value.int .u8 3, Value.int .u8 3, Value.int .u8 3, Value.int .u8 3, Value.int .u8 3, Value.int .u8 3, Value.int .u8 35, Value.int .u8 3, Value.int .u8 3, Value.int .u8 52, Value.int .u8 4, Value.int .u8 4, Value.int .u8 4, Value.int .u8 68, Value.int .u8 241, Value.int .u8 241, Value.int .u8 241, Value.int .u8 241, Value.int .u8 241, Value.int .u8 241, Value.int .u8 241, Value.int .u8 241, Value.int .u8 241, Value.int .u8 241, Value.int .u8 241]), (3, [Value.int .u8 128, Value.int .u8 191, Value.int .u8 160, Value.int .u8 191, Value.int .u8 128, Value.int .u8 159, Value.int .u8 144, Value.int .u8 191, Value.int .u8 128, Value.int .u8 143, Value.int .u8 0, Value.int .u8 0, Value.int .u8 0, Value.int .u8 0, Value.int .u8 0, Value.int .u8 0, Value.int .u8 0, Value.int .u8 0, Value.int .u8 0, Value.int .u8 0, Value.int .u8 0, Value.int .u8 0, Value.int .u8 0, Value.int .u8 0, Value.int .u8 0, Value.int .u8 0, Value.int .u8 0, Value.int .u8 0, Value.int .u8 0, Value.int .u8 0, Value.int .u8 0, Value.int .u8 0])]
theorem dok (N : Nat) : DrawsOk Tryd.prog gl N drD := draws_ok mix
/-- firebell/firebelllaw25.KeyBytes -/
def c3 : AC :=
 (.sq (.rg [.bx 2 (.s 0),
   .mv 4 (.c (.bool false))])
  (.sq (.sq (.rg [.cl 13 8 [],
   .un 14 .not (.s 13)])
  (.cd (.s 14) (.sq (.rg [.mv 4 (.c (.bool false))])
  .rt) .sk))
  (.sq (.sq (.rg [.lda 15 5 (.s 2),
   .cl 16 9 [(.s 15)],
   .mv 17 (.s 16),
   .gd 17 false 18 (.mv 18 (.s 1)),
   .gd 17 false 19 (.ln 19 (.s 18)),
   .gd 17 false 20 (.bi 20 .gtr (.s 19) (.c (.int .i64 500))),
   .pk 21 (.s 17) (.c (.bool true)) (.s 20)])
  (.cd (.s 21) (.sq (.rg [.mv 4 (.c (.bool true))])
  .rt) .sk))
  (.sq (.rg [.bs 22 1 [(.c (.int .u8 9))],
   .lda 23 5 (.s 2),
   .ca 24 10 (some (.s 22)) [(.s 23)],
   .mv 5 (.s 24)])
  (.sq (.rg [.mv 25 (.s 5),
   .slc 26 1 (.s 25) (some (.c (.int .i64 1))) none,
   .ce 27 11 [(.s 26)],
   .mv 6 (.s 27)])
  (.sq (.rg [.mv 28 (.s 6),
   .ce 29 12 [(.s 28)],
   .al 7 [(.str []), (.str []), (.bool false), (.int .u64 0), (.bool false)],
   .st 5 (.s 7) (.s 29)])
  (.sq (.sq (.rd [[], [], [], [], [], [], [], [], [], [], [], [], []] [.mv 30 (.s 5),
   .ia 31 1 (.s 30) (.c (.int .i64 0)),
   .lds 32 (.s 31),
   .bi 33 .neq (.s 32) (.c (.int .u8 9)),
   .mv 34 (.s 33),
   .gd 34 false 35 (.mv 35 (.s 5)),
   .gd 34 false 36 (.slc 36 1 (.s 35) (some (.c (.int .i64 1))) none),
   .gd 34 false 37 (.bq 37 (.s 36)),
   .gd 34 false 38 (.lda 38 5 (.s 2)),
   .gd 34 false 39 (.cl 39 13 [(.s 38)]),
   .gd 34 false 40 (.bq 40 (.s 39)),
   .gd 34 false 41 (.bi 41 .neq (.s 37) (.s 40)),
   .pk 42 (.s 34) (.c (.bool true)) (.s 41)])
  (.cd (.s 42) (.sq (.rg [.mv 4 (.c (.bool false))])
  .rt) .sk))
  (.sq (.sq (.rg [.lda 43 5 (.s 2),
   .cl 44 14 [(.s 43)],
   .mv 45 (.s 44),
   .gd 45 true 46 (.lda 46 5 (.s 7)),
   .gd 45 true 47 (.lda 47 5 (.s 2)),
   .gd 45 true 48 (.ea 48 true [.s, .s, .b, .i, .b] (.s 46) (.s 47)),
   .gd 45 true 49 (.mv 49 (.s 48)),
   .gd 49 false 50 (.mv 50 (.s 6)),
   .gd 49 false 51 (.ce 51 15 [(.s 50)]),
   .gd 49 false 52 (.bi 52 .neq (.s 51) (.c (.int .i64 0))),
   .gd 45 true 53 (.pk 53 (.s 49) (.c (.bool true)) (.s 52)),
   .pk 54 (.s 45) (.s 53) (.c (.bool false)),
   .mv 55 (.s 54),
   .gd 55 false 56 (.lda 56 5 (.s 2)),
   .gd 55 false 57 (.cl 57 14 [(.s 56)]),
   .gd 55 false 58 (.un 58 .not (.s 57)),
   .gd 55 false 59 (.mv 59 (.s 58)),
   .gd 59 true 60 (.lda 60 5 (.s 7)),
   .gd 59 true 61 (.bd 61 [(.str []), (.str []), (.bool false), (.int .u64 0), (.bool false)] []),
   .gd 59 true 62 (.ea 62 true [.s, .s, .b, .i, .b] (.s 60) (.s 61)),
   .gd 59 true 63 (.mv 63 (.s 62)),
   .gd 63 false 64 (.mv 64 (.s 6)),
   .gd 63 false 65 (.ce 65 16 [(.s 64)]),
   .gd 63 false 66 (.un 66 .not (.s 65)),
   .gd 59 true 67 (.pk 67 (.s 63) (.c (.bool true)) (.s 66)),
   .gd 55 false 68 (.pk 68 (.s 59) (.s 67) (.c (.bool false))),
   .pk 69 (.s 55) (.c (.bool true)) (.s 68)])
  (.cd (.s 69) (.sq (.rg [.mv 4 (.c (.bool false))])
  .rt) .sk))
  (.sq (.rg [.mv 70 (.s 1),
   .ce 71 11 [(.s 70)],
   .mv 8 (.s 71)])
  (.sq (.rg [.mv 72 (.s 8),
   .ce 73 12 [(.s 72)],
   .al 9 [(.str []), (.str []), (.bool false), (.int .u64 0), (.bool false)],
   .st 5 (.s 9) (.s 73)])
  (.sq (.rg [.mv 75 (.s 1),
   .cl 76 17 [(.s 75), (.c (.int .i64 0))],
   .mv 74 (.s 76),
   .exq 77 (.s 74) 0,
   .exq 78 (.s 74) 1,
   .exq 79 (.s 74) 2,
   .al 10 [(.str []), (.str []), (.bool false), (.int .u64 0), (.bool false)],
   .st 5 (.s 10) (.s 77),
   .mv 11 (.s 78),
   .mv 12 (.s 79)])
  (.sq (.sq (.rg [.mv 80 (.s 12),
   .un 81 .not (.s 80)])
  (.cd (.s 81) (.sq (.rg [.lda 82 5 (.s 9),
   .bd 83 [(.str []), (.str []), (.bool false), (.int .u64 0), (.bool false)] [],
   .ea 84 false [.s, .s, .b, .i, .b] (.s 82) (.s 83),
   .mv 85 (.s 84),
   .gd 85 true 86 (.mv 86 (.s 8)),
   .gd 85 true 87 (.ce 87 16 [(.s 86)]),
   .pk 88 (.s 85) (.s 87) (.c (.bool false)),
   .mv 4 (.s 88)])
  .rt) .sk))
  (.sq (.rg [.lda 89 5 (.s 9),
   .lda 90 5 (.s 10),
   .ea 91 false [.s, .s, .b, .i, .b] (.s 89) (.s 90),
   .mv 92 (.s 91),
   .gd 92 true 93 (.mv 93 (.s 8)),
   .gd 92 true 94 (.ce 94 16 [(.s 93)]),
   .gd 92 true 95 (.un 95 .not (.s 94)),
   .pk 96 (.s 92) (.s 95) (.c (.bool false)),
   .mv 97 (.s 96),
   .gd 97 true 98 (.mv 98 (.s 8)),
   .gd 97 true 99 (.ce 99 18 [(.s 98)]),
   .gd 97 true 100 (.mv 100 (.s 1)),
   .gd 97 true 101 (.ln 101 (.s 100)),
   .gd 97 true 102 (.mv 102 (.s 11)),
   .gd 97 true 103 (.bi 103 .sub (.s 101) (.s 102)),
   .gd 97 true 104 (.bi 104 .eql (.s 99) (.s 103)),
   .pk 105 (.s 97) (.s 104) (.c (.bool false)),
   .mv 4 (.s 105)])
  .rt)))))))))))))
def a3 : AF := ⟨c3, [.t 4], 2, 106⟩
theorem m3 : mF Tryd.prog gl drD Tryd.f3 a3 = true := by kernel_rfl
theorem s3 {l : List AV} {r : AV} (hl : l.length = 2) (hi : idsL l = []) (h : wpA (SpH Tryd.prog gl) c3 (postA [.t 4] r) ⟨initE 0 l, [], []⟩) : Sp Tryd.prog gl 3 l r :=
  @fun_sp Tryd.prog gl drD 3 Tryd.f3 a3 Tryd.func3 m3 (dok _) l r hl hi h
theorem h3 {d : Nat} {I : In} {O : Out} (hl : I.vs.length = 2) (h : wpA (SpH Tryd.prog gl) c3 (postH d [.t 4] O) (inSt I)) : SpH Tryd.prog gl 3 d I O :=
  @fun_spH Tryd.prog gl drD 3 Tryd.f3 a3 Tryd.func3 m3 (dok _) d I O hl h
/-- firebell/firebelllaw18.ChangeBack -/
def c4 : AC :=
 (.sq (.rg [.bx 2 (.s 0),
   .bx 3 (.s 1),
   .mv 4 (.c (.bool false))])
  (.sq (.sq (.rg [.cl 16 19 [],
   .un 17 .not (.s 16)])
  (.cd (.s 17) (.sq (.rg [.mv 4 (.c (.bool false))])
  .rt) .sk))
  (.sq (.sq (.rg [.lda 18 6 (.s 2),
   .cl 19 20 [(.s 18)],
   .mv 20 (.s 19),
   .gd 20 false 21 (.lda 21 6 (.s 3)),
   .gd 20 false 22 (.cl 22 20 [(.s 21)]),
   .pk 23 (.s 20) (.c (.bool true)) (.s 22),
   .mv 24 (.s 23),
   .gd 24 false 25 (.lda 25 6 (.s 2)),
   .gd 24 false 26 (.cl 26 21 [(.s 25)]),
   .gd 24 false 27 (.un 27 .not (.s 26)),
   .pk 28 (.s 24) (.c (.bool true)) (.s 27),
   .mv 29 (.s 28),
   .gd 29 false 30 (.lda 30 6 (.s 3)),
   .gd 29 false 31 (.cl 31 21 [(.s 30)]),
   .gd 29 false 32 (.un 32 .not (.s 31)),
   .pk 33 (.s 29) (.c (.bool true)) (.s 32)])
  (.cd (.s 33) (.sq (.rg [.mv 4 (.c (.bool true))])
  .rt) .sk))
  (.sq (.rg [.lda 35 6 (.s 2),
   .lda 36 6 (.s 3),
   .cl 37 22 [(.s 35), (.s 36)],
   .mv 34 (.s 37),
   .exq 38 (.s 34) 0,
   .exq 39 (.s 34) 1,
   .mv 5 (.s 38),
   .mv 6 (.s 39)])
  (.sq (.rg [.lda 41 6 (.s 3),
   .lda 42 6 (.s 2),
   .cl 43 22 [(.s 41), (.s 42)],
   .mv 40 (.s 43),
   .exq 44 (.s 40) 0,
   .exq 45 (.s 40) 1,
   .mv 7 (.s 44),
   .mv 8 (.s 45)])
  (.sq (.rg [.lda 47 6 (.s 2),
   .lda 48 6 (.s 2),
   .cl 49 22 [(.s 47), (.s 48)],
   .mv 46 (.s 49),
   .exq 50 (.s 46) 0,
   .exq 51 (.s 46) 1,
   .mv 9 (.s 50),
   .mv 10 (.s 51)])
  (.sq (.sq (.rg [.mv 52 (.s 6),
   .bi 53 .neq (.s 52) (.c (.int .i64 0)),
   .mv 54 (.s 53),
   .gd 54 false 55 (.mv 55 (.s 8)),
   .gd 54 false 56 (.bi 56 .neq (.s 55) (.c (.int .i64 0))),
   .pk 57 (.s 54) (.c (.bool true)) (.s 56),
   .mv 58 (.s 57),
   .gd 58 false 59 (.mv 59 (.s 10)),
   .gd 58 false 60 (.bi 60 .neq (.s 59) (.c (.int .i64 0))),
   .pk 61 (.s 58) (.c (.bool true)) (.s 60),
   .mv 62 (.s 61),
   .gd 62 false 63 (.mv 63 (.s 5)),
   .gd 62 false 64 (.ln 64 (.s 63)),
   .gd 62 false 65 (.mv 65 (.s 7)),
   .gd 62 false 66 (.ln 66 (.s 65)),
   .gd 62 false 67 (.bi 67 .neq (.s 64) (.s 66)),
   .pk 68 (.s 62) (.c (.bool true)) (.s 67)])
  (.cd (.s 68) (.sq (.rg [.mv 4 (.c (.bool false))])
  .rt) .sk))
  (.sq (.rg [.bs 69 1 [(.c (.int .i64 0)), (.c (.int .i64 4)), (.c (.int .i64 2)), (.c (.int .i64 3)), (.c (.int .i64 1))],
   .mv 11 (.s 69)])
  (.sq (.sq (.rg [.mv 12 (.c (.int .i64 0))])
  (.bl 0 (.lp (.sq (.sq (.rg [.mv 70 (.s 12),
   .mv 71 (.s 5),
   .ln 72 (.s 71),
   .bi 73 .lss (.s 70) (.s 72)])
  (.cd (.s 73) .sk (.ex 0)))
  (.sq (.bl 1 (.sq (.rd [[], [], [], [], [], [], [], [], [], [], [], [], [], [], [], [], [], [], [], [], [], [], [], [], [], [], [], [], [], [], [], [], [], [], [], [], []] [.mv 76 (.s 5),
   .mv 77 (.s 12),
   .ia 78 3 (.s 76) (.s 77),
   .fa 79 (.s 78) 2,
   .lds 80 (.s 79),
   .bi 81 .lss (.s 80) (.c (.int .i64 1)),
   .mv 82 (.s 81),
   .gd 82 false 83 (.mv 83 (.s 5)),
   .gd 82 false 84 (.mv 84 (.s 12)),
   .gd 82 false 85 (.ia 85 3 (.s 83) (.s 84)),
   .gd 82 false 86 (.fa 86 (.s 85) 2),
   .gd 82 false 87 (.lds 87 (.s 86)),
   .gd 82 false 88 (.bi 88 .gtr (.s 87) (.c (.int .i64 4))),
   .pk 89 (.s 82) (.c (.bool true)) (.s 88),
   .mv 90 (.s 89),
   .gd 90 false 91 (.mv 91 (.s 7)),
   .gd 90 false 92 (.mv 92 (.s 5)),
   .gd 90 false 93 (.mv 93 (.s 12)),
   .gd 90 false 94 (.ia 94 3 (.s 92) (.s 93)),
   .gd 90 false 95 (.fa 95 (.s 94) 0),
   .gd 90 false 96 (.lds 96 (.s 95)),
   .gd 90 false 97 (.mv 97 (.s 5)),
   .gd 90 false 98 (.mv 98 (.s 12)),
   .gd 90 false 99 (.ia 99 3 (.s 97) (.s 98)),
   .gd 90 false 100 (.fa 100 (.s 99) 1),
   .gd 90 false 101 (.lds 101 (.s 100)),
   .gd 90 false 102 (.cl 102 23 [(.s 91), (.s 96), (.s 101)]),
   .gd 90 false 103 (.mv 103 (.s 11)),
   .gd 90 false 104 (.mv 104 (.s 5)),
   .gd 90 false 105 (.mv 105 (.s 12)),
   .gd 90 false 106 (.ia 106 3 (.s 104) (.s 105)),
   .gd 90 false 107 (.fa 107 (.s 106) 2),
   .gd 90 false 108 (.lds 108 (.s 107)),
   .gd 90 false 109 (.ia 109 1 (.s 103) (.s 108)),
   .gd 90 false 110 (.lds 110 (.s 109)),
   .gd 90 false 111 (.bi 111 .neq (.s 102) (.s 110)),
   .pk 112 (.s 90) (.c (.bool true)) (.s 111)])
  (.cd (.s 112) (.sq (.rg [.mv 4 (.c (.bool false))])
  .rt) .sk)))
  (.rg [.mv 74 (.s 12),
   .bi 75 .add (.s 74) (.c (.int .i64 1)),
   .mv 12 (.s 75)]))))))
  (.sq (.rg [.fa 113 (.s 2) 0,
   .lds 114 (.s 113),
   .ln 115 (.s 114),
   .mv 13 (.s 115)])
  (.sq (.sq (.rg [.mv 14 (.c (.int .i64 0))])
  (.bl 2 (.lp (.sq (.sq (.rg [.mv 116 (.s 14),
   .fa 117 (.s 2) 0,
   .lds 118 (.s 117),
   .ln 119 (.s 118),
   .bi 120 .lss (.s 116) (.s 119)])
  (.cd (.s 120) .sk (.ex 2)))
  (.sq (.bl 3 (.rg [.mv 123 (.s 13),
   .fa 124 (.s 2) 0,
   .lds 125 (.s 124),
   .mv 126 (.s 14),
   .ia 127 8 (.s 125) (.s 126),
   .fa 128 (.s 127) 7,
   .lds 129 (.s 128),
   .ln 130 (.s 129),
   .bi 131 .add (.s 123) (.s 130),
   .mv 13 (.s 131)]))
  (.rg [.mv 121 (.s 14),
   .bi 122 .add (.s 121) (.c (.int .i64 1)),
   .mv 14 (.s 122)]))))))
  (.sq (.sq (.rg [.mv 15 (.c (.int .i64 0))])
  (.bl 4 (.lp (.sq (.sq (.rg [.mv 132 (.s 15),
   .mv 133 (.s 9),
   .ln 134 (.s 133),
   .bi 135 .lss (.s 132) (.s 134)])
  (.cd (.s 135) .sk (.ex 4)))
  (.sq (.bl 5 (.sq (.rg [.mv 138 (.s 9),
   .mv 139 (.s 15),
   .ia 140 3 (.s 138) (.s 139),
   .fa 141 (.s 140) 2,
   .lds 142 (.s 141),
   .bi 143 .neq (.s 142) (.c (.int .i64 2))])
  (.cd (.s 143) (.sq (.rg [.mv 4 (.c (.bool false))])
  .rt) .sk)))
  (.rg [.mv 136 (.s 15),
   .bi 137 .add (.s 136) (.c (.int .i64 1)),
   .mv 15 (.s 137)]))))))
  (.sq (.rg [.mv 144 (.s 9),
   .ln 145 (.s 144),
   .mv 146 (.s 13),
   .bi 147 .eql (.s 145) (.s 146),
   .mv 4 (.s 147)])
  .rt)))))))))))))
def a4 : AF := ⟨c4, [.t 4], 2, 148⟩
theorem m4 : mF Tryd.prog gl drD Tryd.f4 a4 = true := by kernel_rfl
theorem s4 {l : List AV} {r : AV} (hl : l.length = 2) (hi : idsL l = []) (h : wpA (SpH Tryd.prog gl) c4 (postA [.t 4] r) ⟨initE 0 l, [], []⟩) : Sp Tryd.prog gl 4 l r :=
  @fun_sp Tryd.prog gl drD 4 Tryd.f4 a4 Tryd.func4 m4 (dok _) l r hl hi h
theorem h4 {d : Nat} {I : In} {O : Out} (hl : I.vs.length = 2) (h : wpA (SpH Tryd.prog gl) c4 (postH d [.t 4] O) (inSt I)) : SpH Tryd.prog gl 4 d I O :=
  @fun_spH Tryd.prog gl drD 4 Tryd.f4 a4 Tryd.func4 m4 (dok _) d I O hl h
/-- firebell/firebelllaw18.ChangeWindows -/
def c5 : AC :=
 (.sq (.rg [.bx 1 (.s 0),
   .mv 2 (.c (.bool false))])
  (.sq (.sq (.rg [.cl 5 19 [],
   .un 6 .not (.s 5)])
  (.cd (.s 6) (.sq (.rg [.mv 2 (.c (.bool false))])
  .rt) .sk))
  (.sq (.sq (.rg [.lda 7 8 (.s 1),
   .cl 8 24 [(.s 7)]])
  (.cd (.s 8) (.sq (.rg [.mv 2 (.c (.bool true))])
  .rt) .sk))
  (.sq (.rg [.lda 9 8 (.s 1),
   .cl 10 25 [(.s 9)],
   .mv 3 (.s 10)])
  (.sq (.sq (.rg [.mv 11 (.s 3),
   .lda 12 8 (.s 1),
   .cl 13 27 [(.s 12)],
   .cl 14 26 [(.s 11), (.s 13)],
   .un 15 .not (.s 14)])
  (.cd (.s 15) (.sq (.rg [.mv 2 (.c (.bool false))])
  .rt) .sk))
  (.sq (.sq (.rg [.mv 4 (.c (.int .i64 1))])
  (.bl 0 (.lp (.sq (.sq (.rg [.mv 16 (.s 4),
   .mv 17 (.s 3),
   .ln 18 (.s 17),
   .bi 19 .lss (.s 16) (.s 18)])
  (.cd (.s 19) .sk (.ex 0)))
  (.sq (.bl 1 (.sq (.rd [[], [], [], [], [], [], [], [], [], []] [.mv 22 (.s 3),
   .mv 23 (.s 4),
   .bi 24 .sub (.s 23) (.c (.int .i64 1)),
   .ia 25 1 (.s 22) (.s 24),
   .lds 26 (.s 25),
   .mv 27 (.s 3),
   .mv 28 (.s 4),
   .ia 29 1 (.s 27) (.s 28),
   .lds 30 (.s 29),
   .bi 31 .geq (.s 26) (.s 30)])
  (.cd (.s 31) (.sq (.rg [.mv 2 (.c (.bool false))])
  .rt) .sk)))
  (.rg [.mv 20 (.s 4),
   .bi 21 .add (.s 20) (.c (.int .i64 1)),
   .mv 4 (.s 21)]))))))
  (.sq (.rg [.mv 2 (.c (.bool true))])
  .rt)))))))
def a5 : AF := ⟨c5, [.t 2], 1, 32⟩
theorem m5 : mF Tryd.prog gl drD Tryd.f5 a5 = true := by kernel_rfl
theorem s5 {l : List AV} {r : AV} (hl : l.length = 1) (hi : idsL l = []) (h : wpA (SpH Tryd.prog gl) c5 (postA [.t 2] r) ⟨initE 0 l, [], []⟩) : Sp Tryd.prog gl 5 l r :=
  @fun_sp Tryd.prog gl drD 5 Tryd.f5 a5 Tryd.func5 m5 (dok _) l r hl hi h
theorem h5 {d : Nat} {I : In} {O : Out} (hl : I.vs.length = 1) (h : wpA (SpH Tryd.prog gl) c5 (postH d [.t 2] O) (inSt I)) : SpH Tryd.prog gl 5 d I O :=
  @fun_spH Tryd.prog gl drD 5 Tryd.f5 a5 Tryd.func5 m5 (dok _) d I O hl h
/-- firebell/firebelllaw18.ChangePlans -/
def c6 : AC :=
 (.sq (.rg [.bx 4 (.s 0),
   .bx 5 (.s 1),
   .mv 8 (.c (.bool false))])
  (.sq (.sq (.rg [.cl 13 19 [],
   .un 14 .not (.s 13)])
  (.cd (.s 14) (.sq (.rg [.mv 8 (.c (.bool false))])
  .rt) .sk))
  (.sq (.sq (.rg [.lda 15 6 (.s 4),
   .cl 16 20 [(.s 15)],
   .mv 17 (.s 16),
   .gd 17 false 18 (.lda 18 6 (.s 5)),
   .gd 17 false 19 (.cl 19 20 [(.s 18)]),
   .pk 20 (.s 17) (.c (.bool true)) (.s 19),
   .mv 21 (.s 20),
   .gd 21 false 22 (.mv 22 (.s 2)),
   .gd 21 false 23 (.lns 23 (.s 22)),
   .gd 21 false 24 (.bi 24 .gtr (.s 23) (.c (.int .i64 2000))),
   .pk 25 (.s 21) (.c (.bool true)) (.s 24),
   .mv 26 (.s 25),
   .gd 26 false 27 (.mv 27 (.s 3)),
   .gd 26 false 28 (.lns 28 (.s 27)),
   .gd 26 false 29 (.bi 29 .gtr (.s 28) (.c (.int .i64 2000))),
   .pk 30 (.s 26) (.c (.bool true)) (.s 29)])
  (.cd (.s 30) (.sq (.rg [.mv 8 (.c (.bool true))])
  .rt) .sk))
  (.sq (.rg [.lda 32 6 (.s 4),
   .lda 33 6 (.s 5),
   .cl 34 22 [(.s 32), (.s 33)],
   .mv 31 (.s 34),
   .exq 35 (.s 31) 0,
   .exq 36 (.s 31) 1,
   .mv 9 (.s 35),
   .mv 10 (.s 36)])
  (.sq (.sq (.rg [.lda 37 6 (.s 4),
   .cl 38 21 [(.s 37)],
   .un 39 .not (.s 38),
   .mv 40 (.s 39),
   .gd 40 false 41 (.lda 41 6 (.s 5)),
   .gd 40 false 42 (.cl 42 21 [(.s 41)]),
   .gd 40 false 43 (.un 43 .not (.s 42)),
   .pk 44 (.s 40) (.c (.bool true)) (.s 43)])
  (.cd (.s 44) (.sq (.rg [.mv 45 (.s 9),
   .ln 46 (.s 45),
   .bi 47 .eql (.s 46) (.c (.int .i64 0)),
   .mv 48 (.s 47),
   .gd 48 true 49 (.mv 49 (.s 10)),
   .gd 48 true 50 (.bi 50 .eql (.s 49) (.c (.int .i64 2))),
   .pk 51 (.s 48) (.s 50) (.c (.bool false)),
   .mv 8 (.s 51)])
  .rt) .sk))
  (.sq (.rg [.lda 52 6 (.s 4),
   .lda 53 6 (.s 5),
   .cl 54 28 [(.s 52), (.s 53)],
   .mv 11 (.s 54)])
  (.sq (.sq (.rg [.mv 55 (.s 10),
   .bi 56 .neq (.s 55) (.c (.int .i64 0)),
   .mv 57 (.s 56),
   .gd 57 false 58 (.mv 58 (.s 9)),
   .gd 57 false 59 (.mv 59 (.s 11)),
   .gd 57 false 60 (.cl 60 29 [(.s 58), (.s 59)]),
   .gd 57 false 61 (.un 61 .not (.s 60)),
   .pk 62 (.s 57) (.c (.bool true)) (.s 61),
   .mv 63 (.s 62),
   .gd 63 false 64 (.mv 64 (.s 9)),
   .gd 63 false 65 (.mv 65 (.s 2)),
   .gd 63 false 66 (.mv 66 (.s 3)),
   .gd 63 false 67 (.cl 67 30 [(.s 64), (.s 65), (.s 66)]),
   .gd 63 false 68 (.mv 68 (.s 11)),
   .gd 63 false 69 (.mv 69 (.s 2)),
   .gd 63 false 70 (.mv 70 (.s 3)),
   .gd 63 false 71 (.cl 71 23 [(.s 68), (.s 69), (.s 70)]),
   .gd 63 false 72 (.bi 72 .neq (.s 67) (.s 71)),
   .pk 73 (.s 63) (.c (.bool true)) (.s 72)])
  (.cd (.s 73) (.sq (.rg [.mv 8 (.c (.bool false))])
  .rt) .sk))
  (.sq (.sq (.rg [.mv 12 (.c (.int .i64 0))])
  (.bl 0 (.lp (.sq (.sq (.rg [.mv 74 (.s 12),
   .mv 75 (.s 11),
   .ln 76 (.s 75),
   .bi 77 .lss (.s 74) (.s 76)])
  (.cd (.s 77) .sk (.ex 0)))
  (.sq (.bl 1 (.sq (.rd [[], [], [], [], [], [], [], [], [], [], [], [], [], [], [], [], [], []] [.mv 80 (.s 9),
   .mv 81 (.s 11),
   .mv 82 (.s 12),
   .ia 83 3 (.s 81) (.s 82),
   .fa 84 (.s 83) 0,
   .lds 85 (.s 84),
   .mv 86 (.s 11),
   .mv 87 (.s 12),
   .ia 88 3 (.s 86) (.s 87),
   .fa 89 (.s 88) 1,
   .lds 90 (.s 89),
   .cl 91 30 [(.s 80), (.s 85), (.s 90)],
   .mv 92 (.s 11),
   .mv 93 (.s 12),
   .ia 94 3 (.s 92) (.s 93),
   .fa 95 (.s 94) 2,
   .lds 96 (.s 95),
   .bi 97 .neq (.s 91) (.s 96)])
  (.cd (.s 97) (.sq (.rg [.mv 8 (.c (.bool false))])
  .rt) .sk)))
  (.rg [.mv 78 (.s 12),
   .bi 79 .add (.s 78) (.c (.int .i64 1)),
   .mv 12 (.s 79)]))))))
  (.sq (.rg [.mv 8 (.c (.bool true))])
  .rt)))))))))
def a6 : AF := ⟨c6, [.t 8], 4, 98⟩
theorem m6 : mF Tryd.prog gl drD Tryd.f6 a6 = true := by kernel_rfl
theorem s6 {l : List AV} {r : AV} (hl : l.length = 4) (hi : idsL l = []) (h : wpA (SpH Tryd.prog gl) c6 (postA [.t 8] r) ⟨initE 0 l, [], []⟩) : Sp Tryd.prog gl 6 l r :=
  @fun_sp Tryd.prog gl drD 6 Tryd.f6 a6 Tryd.func6 m6 (dok _) l r hl hi h
theorem h6 {d : Nat} {I : In} {O : Out} (hl : I.vs.length = 4) (h : wpA (SpH Tryd.prog gl) c6 (postH d [.t 8] O) (inSt I)) : SpH Tryd.prog gl 6 d I O :=
  @fun_spH Tryd.prog gl drD 6 Tryd.f6 a6 Tryd.func6 m6 (dok _) d I O hl h
/-- firebell/firebelllaw30.BundlePrints -/
def c7 : AC :=
 (.sq (.rg [.bx 2 (.s 0),
   .mv 4 (.c (.bool false))])
  (.sq (.sq (.rg [.cl 13 31 [],
   .un 14 .not (.s 13)])
  (.cd (.s 14) (.sq (.rg [.mv 4 (.c (.bool false))])
  .rt) .sk))
  (.sq (.sq (.rg [.fa 15 (.s 2) 2,
   .lds 16 (.s 15),
   .cl 17 32 [(.s 16)],
   .mv 18 (.s 17),
   .gd 18 false 19 (.fa 19 (.s 2) 0),
   .gd 18 false 20 (.lds 20 (.s 19)),
   .gd 18 false 21 (.lns 21 (.s 20)),
   .gd 18 false 22 (.bi 22 .gtr (.s 21) (.c (.int .i64 500))),
   .pk 23 (.s 18) (.c (.bool true)) (.s 22),
   .mv 24 (.s 23),
   .gd 24 false 25 (.mv 25 (.s 1)),
   .gd 24 false 26 (.lns 26 (.s 25)),
   .gd 24 false 27 (.bi 27 .gtr (.s 26) (.c (.int .i64 3000))),
   .pk 28 (.s 24) (.c (.bool true)) (.s 27)])
  (.cd (.s 28) (.sq (.rg [.mv 4 (.c (.bool true))])
  .rt) .sk))
  (.sq (.rg [.lda 30 3 (.s 2),
   .cl 31 33 [(.s 30)],
   .mv 29 (.s 31),
   .exq 32 (.s 29) 0,
   .exq 33 (.s 29) 1,
   .mv 5 (.s 32),
   .mv 6 (.s 33)])
  (.sq (.rg [.mv 35 (.s 1),
   .cl 36 34 [(.s 35)],
   .mv 34 (.s 36),
   .exq 37 (.s 34) 0,
   .exq 38 (.s 34) 1,
   .al 7 [(.str []), (.bool false), .nils],
   .st 3 (.s 7) (.s 37),
   .mv 8 (.s 38)])
  (.sq (.rg [.mv 40 (.s 1),
   .cl 41 35 [(.s 40)],
   .mv 39 (.s 41),
   .exq 42 (.s 39) 0,
   .exq 43 (.s 39) 1,
   .al 9 [(.str []), (.bool false), .nils],
   .st 3 (.s 9) (.s 42),
   .mv 10 (.s 43)])
  (.sq (.sq (.rd [[], [], [], [], [], [], [], [], [], [], [], [], [], [], [], [], [], [], [], [], [], [], [], [], []] [.lda 44 3 (.s 2),
   .cl 45 36 [(.s 44)],
   .lda 46 3 (.s 2),
   .cl 47 37 [(.s 46)],
   .bb 48 true (.s 45) (.s 47),
   .mv 49 (.s 48),
   .gd 49 false 50 (.lda 50 3 (.s 7)),
   .gd 49 false 51 (.lda 51 3 (.s 9)),
   .gd 49 false 52 (.cl 52 38 [(.s 50), (.s 51)]),
   .gd 49 false 53 (.un 53 .not (.s 52)),
   .pk 54 (.s 49) (.c (.bool true)) (.s 53),
   .mv 55 (.s 54),
   .gd 55 false 56 (.mv 56 (.s 10)),
   .gd 55 false 57 (.mv 57 (.s 8)),
   .gd 55 false 58 (.bi 58 .eql (.s 57) (.c (.int .i64 0))),
   .gd 55 false 59 (.bb 59 true (.s 56) (.s 58)),
   .pk 60 (.s 55) (.c (.bool true)) (.s 59),
   .mv 61 (.s 60),
   .gd 61 false 62 (.mv 62 (.s 10)),
   .gd 61 false 63 (.un 63 .not (.s 62)),
   .gd 61 false 64 (.mv 64 (.s 63)),
   .gd 64 true 65 (.mv 65 (.s 8)),
   .gd 64 true 66 (.bi 66 .neq (.s 65) (.c (.int .i64 5))),
   .gd 61 false 67 (.pk 67 (.s 64) (.s 66) (.c (.bool false))),
   .pk 68 (.s 61) (.c (.bool true)) (.s 67)])
  (.cd (.s 68) (.sq (.rg [.mv 4 (.c (.bool false))])
  .rt) .sk))
  (.sq (.sq (.rg [.lda 69 3 (.s 2),
   .cl 70 37 [(.s 69)],
   .un 71 .not (.s 70)])
  (.cd (.s 71) (.sq (.rg [.mv 72 (.s 5),
   .bi 73 .eql (.s 72) (.c (.str [])),
   .mv 74 (.s 73),
   .gd 74 true 75 (.mv 75 (.s 6)),
   .gd 74 true 76 (.bi 76 .eql (.s 75) (.c (.int .i64 6))),
   .pk 77 (.s 74) (.s 76) (.c (.bool false)),
   .mv 4 (.s 77)])
  .rt) .sk))
  (.sq (.rg [.mv 79 (.s 5),
   .cl 80 34 [(.s 79)],
   .mv 78 (.s 80),
   .exq 81 (.s 78) 0,
   .exq 82 (.s 78) 1,
   .al 11 [(.str []), (.bool false), .nils],
   .st 3 (.s 11) (.s 81),
   .mv 12 (.s 82)])
  (.sq (.rg [.mv 83 (.s 5),
   .lda 84 3 (.s 2),
   .cl 85 39 [(.s 84)],
   .bi 86 .eql (.s 83) (.s 85),
   .mv 87 (.s 86),
   .gd 87 true 88 (.mv 88 (.s 6)),
   .gd 87 true 89 (.bi 89 .eql (.s 88) (.c (.int .i64 0))),
   .pk 90 (.s 87) (.s 89) (.c (.bool false)),
   .mv 91 (.s 90),
   .gd 91 true 92 (.mv 92 (.s 12)),
   .gd 91 true 93 (.bi 93 .eql (.s 92) (.c (.int .i64 0))),
   .pk 94 (.s 91) (.s 93) (.c (.bool false)),
   .mv 95 (.s 94),
   .gd 95 true 96 (.lda 96 3 (.s 11)),
   .gd 95 true 97 (.lda 97 3 (.s 2)),
   .gd 95 true 98 (.cl 98 38 [(.s 96), (.s 97)]),
   .pk 99 (.s 95) (.s 98) (.c (.bool false)),
   .mv 4 (.s 99)])
  .rt))))))))))
def a7 : AF := ⟨c7, [.t 4], 2, 100⟩
theorem m7 : mF Tryd.prog gl drD Tryd.f7 a7 = true := by kernel_rfl
theorem s7 {l : List AV} {r : AV} (hl : l.length = 2) (hi : idsL l = []) (h : wpA (SpH Tryd.prog gl) c7 (postA [.t 4] r) ⟨initE 0 l, [], []⟩) : Sp Tryd.prog gl 7 l r :=
  @fun_sp Tryd.prog gl drD 7 Tryd.f7 a7 Tryd.func7 m7 (dok _) l r hl hi h
theorem h7 {d : Nat} {I : In} {O : Out} (hl : I.vs.length = 2) (h : wpA (SpH Tryd.prog gl) c7 (postH d [.t 4] O) (inSt I)) : SpH Tryd.prog gl 7 d I O :=
  @fun_spH Tryd.prog gl drD 7 Tryd.f7 a7 Tryd.func7 m7 (dok _) d I O hl h
/-- firebell/firebelllaw25.awake -/
def c8 : AC :=
 (.sq (.rg [.mv 0 (.c (.bool false))])
  (.sq (.rg [.bd 1 [(.str []), (.str []), (.bool false), (.int .u64 0), (.bool false)] [(0, 1, (.c (.str [97, 112, 105]))), (1, 1, (.c (.str [102, 97, 115, 116]))), (2, 1, (.c (.bool true))), (3, 1, (.c (.int .u64 3)))],
   .cl 2 40 [(.s 1)],
   .bi 3 .eql (.s 2) (.c (.str [97, 112, 105, 47, 102, 97, 115, 116, 47, 112, 97, 103, 101, 47, 51, 47, 102, 105, 114, 101])),
   .mv 0 (.s 3)])
  .rt))
def a8 : AF := ⟨c8, [.t 0], 0, 4⟩
theorem m8 : mF Tryd.prog gl drD Tryd.f8 a8 = true := by kernel_rfl
theorem s8 {l : List AV} {r : AV} (hl : l.length = 0) (hi : idsL l = []) (h : wpA (SpH Tryd.prog gl) c8 (postA [.t 0] r) ⟨initE 0 l, [], []⟩) : Sp Tryd.prog gl 8 l r :=
  @fun_sp Tryd.prog gl drD 8 Tryd.f8 a8 Tryd.func8 m8 (dok _) l r hl hi h
theorem h8 {d : Nat} {I : In} {O : Out} (hl : I.vs.length = 0) (h : wpA (SpH Tryd.prog gl) c8 (postH d [.t 0] O) (inSt I)) : SpH Tryd.prog gl 8 d I O :=
  @fun_spH Tryd.prog gl drD 8 Tryd.f8 a8 Tryd.func8 m8 (dok _) d I O hl h
/-- firebell/firebellref25.Heavy -/
def c9 : AC :=
 (.sq (.rg [.bx 1 (.s 0),
   .mv 2 (.c (.bool false))])
  (.sq (.rg [.fa 3 (.s 1) 0,
   .lds 4 (.s 3),
   .lns 5 (.s 4),
   .bi 6 .gtr (.s 5) (.c (.int .i64 500)),
   .mv 7 (.s 6),
   .gd 7 false 8 (.fa 8 (.s 1) 1),
   .gd 7 false 9 (.lds 9 (.s 8)),
   .gd 7 false 10 (.lns 10 (.s 9)),
   .gd 7 false 11 (.bi 11 .gtr (.s 10) (.c (.int .i64 500))),
   .pk 12 (.s 7) (.c (.bool true)) (.s 11),
   .mv 2 (.s 12)])
  .rt))
def a9 : AF := ⟨c9, [.t 2], 1, 13⟩
theorem m9 : mF Tryd.prog gl drD Tryd.f9 a9 = true := by kernel_rfl
theorem s9 {l : List AV} {r : AV} (hl : l.length = 1) (hi : idsL l = []) (h : wpA (SpH Tryd.prog gl) c9 (postA [.t 2] r) ⟨initE 0 l, [], []⟩) : Sp Tryd.prog gl 9 l r :=
  @fun_sp Tryd.prog gl drD 9 Tryd.f9 a9 Tryd.func9 m9 (dok _) l r hl hi h
theorem h9 {d : Nat} {I : In} {O : Out} (hl : I.vs.length = 1) (h : wpA (SpH Tryd.prog gl) c9 (postH d [.t 2] O) (inSt I)) : SpH Tryd.prog gl 9 d I O :=
  @fun_spH Tryd.prog gl drD 9 Tryd.f9 a9 Tryd.func9 m9 (dok _) d I O hl h
/-- firebell/firebellref25.Right -/
def c14 : AC :=
 (.sq (.rg [.bx 1 (.s 0),
   .mv 2 (.c (.bool false))])
  (.sq (.rg [.fa 3 (.s 1) 0,
   .lds 4 (.s 3),
   .cl 5 52 [(.s 4)],
   .mv 6 (.s 5),
   .gd 6 true 7 (.fa 7 (.s 1) 1),
   .gd 6 true 8 (.lds 8 (.s 7)),
   .gd 6 true 9 (.cl 9 52 [(.s 8)]),
   .pk 10 (.s 6) (.s 9) (.c (.bool false)),
   .mv 11 (.s 10),
   .gd 11 true 12 (.fa 12 (.s 1) 3),
   .gd 11 true 13 (.lds 13 (.s 12)),
   .gd 11 true 14 (.bi 14 .gtr (.s 13) (.c (.int .u64 0))),
   .pk 15 (.s 11) (.s 14) (.c (.bool false)),
   .mv 16 (.s 15),
   .gd 16 true 17 (.fa 17 (.s 1) 3),
   .gd 16 true 18 (.lds 18 (.s 17)),
   .gd 16 true 19 (.bi 19 .leq (.s 18) (.c (.int .u64 4611686018427387904))),
   .pk 20 (.s 16) (.s 19) (.c (.bool false)),
   .mv 2 (.s 20)])
  .rt))
def a14 : AF := ⟨c14, [.t 2], 1, 21⟩
theorem m14 : mF Tryd.prog gl drD Tryd.f14 a14 = true := by kernel_rfl
theorem s14 {l : List AV} {r : AV} (hl : l.length = 1) (hi : idsL l = []) (h : wpA (SpH Tryd.prog gl) c14 (postA [.t 2] r) ⟨initE 0 l, [], []⟩) : Sp Tryd.prog gl 14 l r :=
  @fun_sp Tryd.prog gl drD 14 Tryd.f14 a14 Tryd.func14 m14 (dok _) l r hl hi h
theorem h14 {d : Nat} {I : In} {O : Out} (hl : I.vs.length = 1) (h : wpA (SpH Tryd.prog gl) c14 (postH d [.t 2] O) (inSt I)) : SpH Tryd.prog gl 14 d I O :=
  @fun_spH Tryd.prog gl drD 14 Tryd.f14 a14 Tryd.func14 m14 (dok _) d I O hl h
/-- firebell/firebellref25.Get -/
def c17 : AC :=
 (.sq (.rg [.al 4 [(.str []), (.str []), (.bool false), (.int .u64 0), (.bool false)],
   .mv 5 (.c (.int .i64 0)),
   .mv 6 (.c (.bool false))])
  (.sq (.rg [.bd 14 [(.int .i64 0), (.int .i64 0)] [(0, 1, (.c (.int .i64 2))), (1, 1, (.c (.int .i64 96)))],
   .bd 15 [(.int .i64 0), (.int .i64 0)] [(0, 1, (.c (.int .i64 2))), (1, 1, (.c (.int .i64 96)))],
   .bd 16 [(.int .i64 0), (.int .i64 0)] [(0, 1, (.c (.int .i64 3)))],
   .bd 17 [(.int .i64 0), (.int .i64 0)] [],
   .bd 18 [(.int .i64 0), (.int .i64 0)] [(0, 1, (.c (.int .i64 3)))],
   .bs 19 2 [(.s 14), (.s 15), (.s 16), (.s 17), (.s 18)],
   .mv 7 (.s 19)])
  (.sq (.rg [.bs 20 4 [],
   .mo 8 20])
  (.sq (.sq (.rg [.mv 9 (.c (.int .i64 0))])
  (.bl 0 (.lp (.sq (.sq (.rg [.mv 21 (.s 9),
   .bi 22 .lss (.s 21) (.c (.int .i64 5))])
  (.cd (.s 22) .sk (.ex 0)))
  (.sq (.bl 1 (.sq (.rg [.mv 26 (.s 0),
   .mv 27 (.s 1),
   .mv 28 (.s 7),
   .mv 29 (.s 9),
   .ia 30 2 (.s 28) (.s 29),
   .lda 31 2 (.s 30),
   .cl 32 53 [(.s 26), (.s 27), (.s 31)],
   .mv 25 (.s 32),
   .exq 33 (.s 25) 0,
   .exq 34 (.s 25) 1,
   .exq 35 (.s 25) 2,
   .al 10 [(.int .u64 0), (.int .i64 0), (.str []), (.bool false)],
   .st 4 (.s 10) (.s 33),
   .mv 11 (.s 34),
   .mv 12 (.s 35)])
  (.sq (.sq (.rg [.mv 36 (.s 12),
   .un 37 .not (.s 36)])
  (.cd (.s 37) (.sq (.rg [.bd 38 [(.str []), (.str []), (.bool false), (.int .u64 0), (.bool false)] [],
   .st 5 (.s 4) (.s 38),
   .mv 5 (.c (.int .i64 0)),
   .mv 6 (.c (.bool false))])
  .rt) .sk))
  (.sq (.rg [.mo 39 8,
   .lda 40 4 (.s 10),
   .bs 41 4 [(.s 40)],
   .ap 42 4 40 (.s 39) (.s 41),
   .mo 8 42])
  (.rg [.mv 43 (.s 11),
   .mv 1 (.s 43)])))))
  (.rg [.mv 23 (.s 9),
   .bi 24 .add (.s 23) (.c (.int .i64 1)),
   .mv 9 (.s 24)]))))))
  (.sq (.rd [[], [], [], [], [], [], [], [], [], [], [], [], [], [], [], [], [], [], [], [], [], [3, 7, 11, 15, 19], []] [.mv 44 (.s 8),
   .ia 45 4 (.s 44) (.c (.int .i64 0)),
   .fa 46 (.s 45) 2,
   .lds 47 (.s 46),
   .mv 48 (.s 8),
   .ia 49 4 (.s 48) (.c (.int .i64 1)),
   .fa 50 (.s 49) 2,
   .lds 51 (.s 50),
   .mv 52 (.s 8),
   .ia 53 4 (.s 52) (.c (.int .i64 2)),
   .fa 54 (.s 53) 3,
   .lds 55 (.s 54),
   .mv 56 (.s 8),
   .ia 57 4 (.s 56) (.c (.int .i64 3)),
   .fa 58 (.s 57) 0,
   .lds 59 (.s 58),
   .mv 60 (.s 8),
   .ia 61 4 (.s 60) (.c (.int .i64 4)),
   .fa 62 (.s 61) 3,
   .lds 63 (.s 62),
   .bd 64 [(.str []), (.str []), (.bool false), (.int .u64 0), (.bool false)] [(0, 1, (.s 47)), (1, 1, (.s 51)), (2, 1, (.s 55)), (3, 1, (.s 59)), (4, 1, (.s 63))],
   .al 13 [(.str []), (.str []), (.bool false), (.int .u64 0), (.bool false)],
   .st 5 (.s 13) (.s 64)])
  (.sq (.rd [[], [], [], [], [], [], []] [.lda 65 5 (.s 13),
   .mv 66 (.s 1),
   .lda 67 5 (.s 13),
   .cl 68 14 [(.s 67)],
   .st 5 (.s 4) (.s 65),
   .mv 5 (.s 66),
   .mv 6 (.s 68)])
  .rt))))))
def a17 : AF := ⟨c17, [.ca 4 5, .t 5, .t 6], 2, 69⟩
theorem m17 : mF Tryd.prog gl drD Tryd.f17 a17 = true := by kernel_rfl
theorem s17 {l : List AV} {r : AV} (hl : l.length = 2) (hi : idsL l = []) (h : wpA (SpH Tryd.prog gl) c17 (postA [.ca 4 5, .t 5, .t 6] r) ⟨initE 0 l, [], []⟩) : Sp Tryd.prog gl 17 l r :=
  @fun_sp Tryd.prog gl drD 17 Tryd.f17 a17 Tryd.func17 m17 (dok _) l r hl hi h
theorem h17 {d : Nat} {I : In} {O : Out} (hl : I.vs.length = 2) (h : wpA (SpH Tryd.prog gl) c17 (postH d [.ca 4 5, .t 5, .t 6] O) (inSt I)) : SpH Tryd.prog gl 17 d I O :=
  @fun_spH Tryd.prog gl drD 17 Tryd.f17 a17 Tryd.func17 m17 (dok _) d I O hl h
/-- firebell/firebellref17.Heavy -/
def c20 : AC :=
 (.sq (.rg [.bx 1 (.s 0),
   .mv 2 (.c (.bool false))])
  (.sq (.sq (.rg [.fa 4 (.s 1) 0,
   .lds 5 (.s 4),
   .ln 6 (.s 5),
   .bi 7 .gtr (.s 6) (.c (.int .i64 10))])
  (.cd (.s 7) (.sq (.rg [.mv 2 (.c (.bool true))])
  .rt) .sk))
  (.sq (.sq (.rg [.mv 3 (.c (.int .i64 0))])
  (.bl 0 (.lp (.sq (.sq (.rg [.mv 8 (.s 3),
   .fa 9 (.s 1) 0,
   .lds 10 (.s 9),
   .ln 11 (.s 10),
   .bi 12 .lss (.s 8) (.s 11)])
  (.cd (.s 12) .sk (.ex 0)))
  (.sq (.bl 1 (.sq (.rg [.fa 15 (.s 1) 0,
   .lds 16 (.s 15),
   .mv 17 (.s 3),
   .ia 18 8 (.s 16) (.s 17),
   .lda 19 8 (.s 18),
   .cl 20 24 [(.s 19)]])
  (.cd (.s 20) (.sq (.rg [.mv 2 (.c (.bool true))])
  .rt) .sk)))
  (.rg [.mv 13 (.s 3),
   .bi 14 .add (.s 13) (.c (.int .i64 1)),
   .mv 3 (.s 14)]))))))
  (.sq (.rg [.mv 2 (.c (.bool false))])
  .rt))))
def a20 : AF := ⟨c20, [.t 2], 1, 21⟩
theorem m20 : mF Tryd.prog gl drD Tryd.f20 a20 = true := by kernel_rfl
theorem s20 {l : List AV} {r : AV} (hl : l.length = 1) (hi : idsL l = []) (h : wpA (SpH Tryd.prog gl) c20 (postA [.t 2] r) ⟨initE 0 l, [], []⟩) : Sp Tryd.prog gl 20 l r :=
  @fun_sp Tryd.prog gl drD 20 Tryd.f20 a20 Tryd.func20 m20 (dok _) l r hl hi h
theorem h20 {d : Nat} {I : In} {O : Out} (hl : I.vs.length = 1) (h : wpA (SpH Tryd.prog gl) c20 (postH d [.t 2] O) (inSt I)) : SpH Tryd.prog gl 20 d I O :=
  @fun_spH Tryd.prog gl drD 20 Tryd.f20 a20 Tryd.func20 m20 (dok _) d I O hl h
/-- firebell/firebellref17.Right -/
def c21 : AC :=
 (.sq (.rg [.bx 1 (.s 0),
   .mv 2 (.c (.bool false))])
  (.sq (.sq (.rg [.fa 6 (.s 1) 0,
   .lds 7 (.s 6),
   .ln 8 (.s 7),
   .bi 9 .gtr (.s 8) (.c (.int .i64 6))])
  (.cd (.s 9) (.sq (.rg [.mv 2 (.c (.bool false))])
  .rt) .sk))
  (.sq (.sq (.rg [.mv 3 (.c (.int .i64 0))])
  (.bl 0 (.lp (.sq (.sq (.rg [.mv 10 (.s 3),
   .fa 11 (.s 1) 0,
   .lds 12 (.s 11),
   .ln 13 (.s 12),
   .bi 14 .lss (.s 10) (.s 13)])
  (.cd (.s 14) .sk (.ex 0)))
  (.sq (.bl 1 (.sq (.sq (.rg [.fa 17 (.s 1) 0,
   .lds 18 (.s 17),
   .mv 19 (.s 3),
   .ia 20 8 (.s 18) (.s 19),
   .lda 21 8 (.s 20),
   .cl 22 54 [(.s 21)],
   .un 23 .not (.s 22)])
  (.cd (.s 23) (.sq (.rg [.mv 2 (.c (.bool false))])
  .rt) .sk))
  (.sq (.rg [.mv 4 (.c (.int .i64 0))])
  (.bl 2 (.lp (.sq (.sq (.rg [.mv 24 (.s 4),
   .mv 25 (.s 3),
   .bi 26 .lss (.s 24) (.s 25)])
  (.cd (.s 26) .sk (.ex 2)))
  (.sq (.bl 3 (.sq (.rd [[], [], [], [], [], [], [], [], [], [], [], [], []] [.fa 29 (.s 1) 0,
   .lds 30 (.s 29),
   .mv 31 (.s 4),
   .ia 32 8 (.s 30) (.s 31),
   .fa 33 (.s 32) 0,
   .lds 34 (.s 33),
   .fa 35 (.s 1) 0,
   .lds 36 (.s 35),
   .mv 37 (.s 3),
   .ia 38 8 (.s 36) (.s 37),
   .fa 39 (.s 38) 0,
   .lds 40 (.s 39),
   .bi 41 .eql (.s 34) (.s 40)])
  (.cd (.s 41) (.sq (.rg [.mv 2 (.c (.bool false))])
  .rt) .sk)))
  (.rg [.mv 27 (.s 4),
   .bi 28 .add (.s 27) (.c (.int .i64 1)),
   .mv 4 (.s 28)]))))))))
  (.rg [.mv 15 (.s 3),
   .bi 16 .add (.s 15) (.c (.int .i64 1)),
   .mv 3 (.s 16)]))))))
  (.sq (.rg [.fa 42 (.s 1) 1,
   .lda 43 5 (.s 42),
   .al 5 [(.int .i64 0), (.int .i64 0), (.int .i64 0), (.int .i64 0), (.int .i64 0)],
   .st 5 (.s 5) (.s 43)])
  (.sq (.rg [.fa 44 (.s 5) 0,
   .lds 45 (.s 44),
   .bi 46 .geq (.s 45) (.c (.int .i64 1)),
   .mv 47 (.s 46),
   .gd 47 true 48 (.fa 48 (.s 5) 0),
   .gd 47 true 49 (.lds 49 (.s 48)),
   .gd 47 true 50 (.bi 50 .leq (.s 49) (.c (.int .i64 64))),
   .pk 51 (.s 47) (.s 50) (.c (.bool false)),
   .mv 52 (.s 51),
   .gd 52 true 53 (.fa 53 (.s 5) 1),
   .gd 52 true 54 (.lds 54 (.s 53)),
   .gd 52 true 55 (.bi 55 .geq (.s 54) (.c (.int .i64 0))),
   .pk 56 (.s 52) (.s 55) (.c (.bool false)),
   .mv 57 (.s 56),
   .gd 57 true 58 (.fa 58 (.s 5) 1),
   .gd 57 true 59 (.lds 59 (.s 58)),
   .gd 57 true 60 (.fa 60 (.s 5) 0),
   .gd 57 true 61 (.lds 61 (.s 60)),
   .gd 57 true 62 (.bi 62 .leq (.s 59) (.s 61)),
   .pk 63 (.s 57) (.s 62) (.c (.bool false)),
   .mv 64 (.s 63),
   .gd 64 true 65 (.fa 65 (.s 5) 2),
   .gd 64 true 66 (.lds 66 (.s 65)),
   .gd 64 true 67 (.cl 67 55 [(.s 66), (.c (.int .i64 1)), (.c (.int .i64 86400))]),
   .pk 68 (.s 64) (.s 67) (.c (.bool false)),
   .mv 69 (.s 68),
   .gd 69 true 70 (.fa 70 (.s 5) 3),
   .gd 69 true 71 (.lds 71 (.s 70)),
   .gd 69 true 72 (.cl 72 55 [(.s 71), (.c (.int .i64 1)), (.c (.int .i64 604800))]),
   .pk 73 (.s 69) (.s 72) (.c (.bool false)),
   .mv 74 (.s 73),
   .gd 74 true 75 (.fa 75 (.s 5) 3),
   .gd 74 true 76 (.lds 76 (.s 75)),
   .gd 74 true 77 (.fa 77 (.s 5) 2),
   .gd 74 true 78 (.lds 78 (.s 77)),
   .gd 74 true 79 (.bi 79 .geq (.s 76) (.s 78)),
   .pk 80 (.s 74) (.s 79) (.c (.bool false)),
   .mv 81 (.s 80),
   .gd 81 true 82 (.fa 82 (.s 5) 4),
   .gd 81 true 83 (.lds 83 (.s 82)),
   .gd 81 true 84 (.cl 84 55 [(.s 83), (.c (.int .i64 0)), (.c (.int .i64 2592000))]),
   .pk 85 (.s 81) (.s 84) (.c (.bool false)),
   .mv 2 (.s 85)])
  .rt)))))
def a21 : AF := ⟨c21, [.t 2], 1, 86⟩
theorem m21 : mF Tryd.prog gl drD Tryd.f21 a21 = true := by kernel_rfl
theorem s21 {l : List AV} {r : AV} (hl : l.length = 1) (hi : idsL l = []) (h : wpA (SpH Tryd.prog gl) c21 (postA [.t 2] r) ⟨initE 0 l, [], []⟩) : Sp Tryd.prog gl 21 l r :=
  @fun_sp Tryd.prog gl drD 21 Tryd.f21 a21 Tryd.func21 m21 (dok _) l r hl hi h
theorem h21 {d : Nat} {I : In} {O : Out} (hl : I.vs.length = 1) (h : wpA (SpH Tryd.prog gl) c21 (postH d [.t 2] O) (inSt I)) : SpH Tryd.prog gl 21 d I O :=
  @fun_spH Tryd.prog gl drD 21 Tryd.f21 a21 Tryd.func21 m21 (dok _) d I O hl h
/-- firebell/firebellref17.HeavyGoal -/
def c24 : AC :=
 (.sq (.rg [.bx 1 (.s 0),
   .mv 2 (.c (.bool false))])
  (.sq (.sq (.rg [.fa 5 (.s 1) 0,
   .lds 6 (.s 5),
   .lns 7 (.s 6),
   .bi 8 .gtr (.s 7) (.c (.int .i64 2000)),
   .mv 9 (.s 8),
   .gd 9 false 10 (.fa 10 (.s 1) 6),
   .gd 9 false 11 (.lds 11 (.s 10)),
   .gd 9 false 12 (.ln 12 (.s 11)),
   .gd 9 false 13 (.bi 13 .gtr (.s 12) (.c (.int .i64 10))),
   .pk 14 (.s 9) (.c (.bool true)) (.s 13),
   .mv 15 (.s 14),
   .gd 15 false 16 (.fa 16 (.s 1) 7),
   .gd 15 false 17 (.lds 17 (.s 16)),
   .gd 15 false 18 (.ln 18 (.s 17)),
   .gd 15 false 19 (.bi 19 .gtr (.s 18) (.c (.int .i64 10))),
   .pk 20 (.s 15) (.c (.bool true)) (.s 19)])
  (.cd (.s 20) (.sq (.rg [.mv 2 (.c (.bool true))])
  .rt) .sk))
  (.sq (.sq (.rg [.mv 3 (.c (.int .i64 0))])
  (.bl 0 (.lp (.sq (.sq (.rg [.mv 21 (.s 3),
   .fa 22 (.s 1) 6,
   .lds 23 (.s 22),
   .ln 24 (.s 23),
   .bi 25 .lss (.s 21) (.s 24)])
  (.cd (.s 25) .sk (.ex 0)))
  (.sq (.bl 1 (.sq (.rg [.fa 28 (.s 1) 6,
   .lds 29 (.s 28),
   .mv 30 (.s 3),
   .ia 31 2 (.s 29) (.s 30),
   .fa 32 (.s 31) 0,
   .lds 33 (.s 32),
   .lns 34 (.s 33),
   .bi 35 .gtr (.s 34) (.c (.int .i64 2000)),
   .mv 36 (.s 35),
   .gd 36 false 37 (.fa 37 (.s 1) 6),
   .gd 36 false 38 (.lds 38 (.s 37)),
   .gd 36 false 39 (.mv 39 (.s 3)),
   .gd 36 false 40 (.ia 40 2 (.s 38) (.s 39)),
   .gd 36 false 41 (.fa 41 (.s 40) 1),
   .gd 36 false 42 (.lds 42 (.s 41)),
   .gd 36 false 43 (.lns 43 (.s 42)),
   .gd 36 false 44 (.bi 44 .gtr (.s 43) (.c (.int .i64 2000))),
   .pk 45 (.s 36) (.c (.bool true)) (.s 44)])
  (.cd (.s 45) (.sq (.rg [.mv 2 (.c (.bool true))])
  .rt) .sk)))
  (.rg [.mv 26 (.s 3),
   .bi 27 .add (.s 26) (.c (.int .i64 1)),
   .mv 3 (.s 27)]))))))
  (.sq (.sq (.rg [.mv 4 (.c (.int .i64 0))])
  (.bl 2 (.lp (.sq (.sq (.rg [.mv 46 (.s 4),
   .fa 47 (.s 1) 7,
   .lds 48 (.s 47),
   .ln 49 (.s 48),
   .bi 50 .lss (.s 46) (.s 49)])
  (.cd (.s 50) .sk (.ex 2)))
  (.sq (.bl 3 (.sq (.rg [.fa 53 (.s 1) 7,
   .lds 54 (.s 53),
   .mv 55 (.s 4),
   .ia 56 7 (.s 54) (.s 55),
   .fa 57 (.s 56) 0,
   .lds 58 (.s 57),
   .lns 59 (.s 58),
   .bi 60 .gtr (.s 59) (.c (.int .i64 2000))])
  (.cd (.s 60) (.sq (.rg [.mv 2 (.c (.bool true))])
  .rt) .sk)))
  (.rg [.mv 51 (.s 4),
   .bi 52 .add (.s 51) (.c (.int .i64 1)),
   .mv 4 (.s 52)]))))))
  (.sq (.rg [.mv 2 (.c (.bool false))])
  .rt)))))
def a24 : AF := ⟨c24, [.t 2], 1, 61⟩
theorem m24 : mF Tryd.prog gl drD Tryd.f24 a24 = true := by kernel_rfl
theorem s24 {l : List AV} {r : AV} (hl : l.length = 1) (hi : idsL l = []) (h : wpA (SpH Tryd.prog gl) c24 (postA [.t 2] r) ⟨initE 0 l, [], []⟩) : Sp Tryd.prog gl 24 l r :=
  @fun_sp Tryd.prog gl drD 24 Tryd.f24 a24 Tryd.func24 m24 (dok _) l r hl hi h
theorem h24 {d : Nat} {I : In} {O : Out} (hl : I.vs.length = 1) (h : wpA (SpH Tryd.prog gl) c24 (postH d [.t 2] O) (inSt I)) : SpH Tryd.prog gl 24 d I O :=
  @fun_spH Tryd.prog gl drD 24 Tryd.f24 a24 Tryd.func24 m24 (dok _) d I O hl h
/-- firebell/firebelllaw30.awake -/
def c31 : AC :=
 (.sq (.rg [.mv 0 (.c (.bool false))])
  (.sq (.rg [.bd 2 [(.str []), (.str []), (.bool false), (.int .u64 0), (.bool false)] [(0, 1, (.c (.str [97]))), (1, 1, (.c (.str [114]))), (3, 1, (.c (.int .u64 1)))],
   .bd 3 [(.str []), (.str []), (.bool false), (.int .u64 0), (.bool false)] [(0, 1, (.c (.str [98]))), (1, 1, (.c (.str [114]))), (2, 1, (.c (.bool true))), (3, 1, (.c (.int .u64 2)))],
   .bd 4 [(.str []), (.str []), (.bool false), (.int .u64 0), (.bool false)] [(0, 1, (.c (.str [97]))), (1, 1, (.c (.str [115]))), (3, 1, (.c (.int .u64 3)))],
   .bs 5 5 [(.s 2), (.s 3), (.s 4)],
   .cl 6 68 [(.s 5)],
   .mv 1 (.s 6)])
  (.sq (.rg [.mv 7 (.s 1),
   .ln 8 (.s 7),
   .bi 9 .eql (.s 8) (.c (.int .i64 2)),
   .mv 10 (.s 9),
   .gd 10 true 11 (.mv 11 (.s 1)),
   .gd 10 true 12 (.ia 12 3 (.s 11) (.c (.int .i64 0))),
   .gd 10 true 13 (.fa 13 (.s 12) 0),
   .gd 10 true 14 (.lds 14 (.s 13)),
   .gd 10 true 15 (.bi 15 .eql (.s 14) (.c (.str [98]))),
   .pk 16 (.s 10) (.s 15) (.c (.bool false)),
   .mv 17 (.s 16),
   .gd 17 true 18 (.mv 18 (.s 1)),
   .gd 17 true 19 (.ia 19 3 (.s 18) (.c (.int .i64 1))),
   .gd 17 true 20 (.fa 20 (.s 19) 2),
   .gd 17 true 21 (.lds 21 (.s 20)),
   .gd 17 true 22 (.ln 22 (.s 21)),
   .gd 17 true 23 (.bi 23 .eql (.s 22) (.c (.int .i64 2))),
   .pk 24 (.s 17) (.s 23) (.c (.bool false)),
   .mv 0 (.s 24)])
  .rt)))
def a31 : AF := ⟨c31, [.t 0], 0, 25⟩
theorem m31 : mF Tryd.prog gl drD Tryd.f31 a31 = true := by kernel_rfl
theorem s31 {l : List AV} {r : AV} (hl : l.length = 0) (hi : idsL l = []) (h : wpA (SpH Tryd.prog gl) c31 (postA [.t 0] r) ⟨initE 0 l, [], []⟩) : Sp Tryd.prog gl 31 l r :=
  @fun_sp Tryd.prog gl drD 31 Tryd.f31 a31 Tryd.func31 m31 (dok _) l r hl hi h
theorem h31 {d : Nat} {I : In} {O : Out} (hl : I.vs.length = 0) (h : wpA (SpH Tryd.prog gl) c31 (postH d [.t 0] O) (inSt I)) : SpH Tryd.prog gl 31 d I O :=
  @fun_spH Tryd.prog gl drD 31 Tryd.f31 a31 Tryd.func31 m31 (dok _) d I O hl h
/-- firebell/firebellref29.HeavyKeys -/
def c32 : AC :=
 (.sq (.rg [.mv 2 (.c (.bool false))])
  (.sq (.sq (.rg [.mv 4 (.s 0),
   .ln 5 (.s 4),
   .bi 6 .gtr (.s 5) (.c (.int .i64 100))])
  (.cd (.s 6) (.sq (.rg [.mv 2 (.c (.bool true))])
  .rt) .sk))
  (.sq (.sq (.rg [.mv 3 (.c (.int .i64 0))])
  (.bl 0 (.lp (.sq (.sq (.rg [.mv 7 (.s 3),
   .mv 8 (.s 0),
   .ln 9 (.s 8),
   .bi 10 .lss (.s 7) (.s 9)])
  (.cd (.s 10) .sk (.ex 0)))
  (.sq (.bl 1 (.sq (.rg [.mv 13 (.s 0),
   .mv 14 (.s 3),
   .ia 15 5 (.s 13) (.s 14),
   .lda 16 5 (.s 15),
   .cl 17 9 [(.s 16)]])
  (.cd (.s 17) (.sq (.rg [.mv 2 (.c (.bool true))])
  .rt) .sk)))
  (.rg [.mv 11 (.s 3),
   .bi 12 .add (.s 11) (.c (.int .i64 1)),
   .mv 3 (.s 12)]))))))
  (.sq (.rg [.mv 2 (.c (.bool false))])
  .rt))))
def a32 : AF := ⟨c32, [.t 2], 1, 18⟩
theorem m32 : mF Tryd.prog gl drD Tryd.f32 a32 = true := by kernel_rfl
theorem s32 {l : List AV} {r : AV} (hl : l.length = 1) (hi : idsL l = []) (h : wpA (SpH Tryd.prog gl) c32 (postA [.t 2] r) ⟨initE 0 l, [], []⟩) : Sp Tryd.prog gl 32 l r :=
  @fun_sp Tryd.prog gl drD 32 Tryd.f32 a32 Tryd.func32 m32 (dok _) l r hl hi h
theorem h32 {d : Nat} {I : In} {O : Out} (hl : I.vs.length = 1) (h : wpA (SpH Tryd.prog gl) c32 (postH d [.t 2] O) (inSt I)) : SpH Tryd.prog gl 32 d I O :=
  @fun_spH Tryd.prog gl drD 32 Tryd.f32 a32 Tryd.func32 m32 (dok _) d I O hl h
/-- firebell/bundle.Print -/
def c33 : AC :=
 (.sq (.rg [.bx 1 (.s 0),
   .mv 2 (.c (.str [])),
   .mv 3 (.c (.int .i64 0))])
  (.sq (.sq (.rg [.lda 7 3 (.s 1),
   .cl 8 36 [(.s 7)],
   .un 9 .not (.s 8)])
  (.cd (.s 9) (.sq (.rg [.mv 2 (.c (.str [])),
   .mv 3 (.c (.int .i64 6))])
  .rt) .sk))
  (.sq (.rg [.alT 4 124 0 [.nilp, .nils]])
  (.sq (.rg [.lda 10 3 (.s 1),
   .cl 11 70 [(.s 10)],
   .bi 12 .add (.s 11) (.c (.str [10])),
   .ce 13 69 [(.s 4), (.s 12)]])
  (.sq (.sq (.rg [.fa 14 (.s 1) 2,
   .lds 15 (.s 14),
   .ln 16 (.s 15),
   .mv 17 (.c (.int .i64 0))])
  (.bl 0 (.lp (.sq (.rg [.bi 18 .lss (.s 17) (.s 16)])
  (.sq (.cd (.s 18) .sk (.ex 0))
  (.sq (.bl 1 (.sq (.rg [.ia 19 5 (.s 15) (.s 17),
   .lda 20 5 (.s 19),
   .al 6 [(.str []), (.str []), (.bool false), (.int .u64 0), (.bool false)],
   .st 5 (.s 6) (.s 20)])
  (.rg [.lda 21 5 (.s 6),
   .cl 22 40 [(.s 21)],
   .bi 23 .add (.c (.str [32, 32])) (.s 22),
   .bi 24 .add (.s 23) (.c (.str [10])),
   .ce 25 69 [(.s 4), (.s 24)]])))
  (.rg [.bi 26 .add (.s 17) (.c (.int .i64 1)),
   .mv 17 (.s 26)])))))))
  (.sq (.rg [.ce 27 71 [(.s 4)],
   .mv 2 (.s 27),
   .mv 3 (.c (.int .i64 0))])
  .rt))))))
def a33 : AF := ⟨c33, [.t 2, .t 3], 1, 28⟩
theorem m33 : mF Tryd.prog gl drD Tryd.f33 a33 = true := by kernel_rfl
theorem s33 {l : List AV} {r : AV} (hl : l.length = 1) (hi : idsL l = []) (h : wpA (SpH Tryd.prog gl) c33 (postA [.t 2, .t 3] r) ⟨initE 0 l, [], []⟩) : Sp Tryd.prog gl 33 l r :=
  @fun_sp Tryd.prog gl drD 33 Tryd.f33 a33 Tryd.func33 m33 (dok _) l r hl hi h
theorem h33 {d : Nat} {I : In} {O : Out} (hl : I.vs.length = 1) (h : wpA (SpH Tryd.prog gl) c33 (postH d [.t 2, .t 3] O) (inSt I)) : SpH Tryd.prog gl 33 d I O :=
  @fun_spH Tryd.prog gl drD 33 Tryd.f33 a33 Tryd.func33 m33 (dok _) d I O hl h
/-- firebell/bundle.Read -/
def c34 : AC :=
 (.sq (.rg [.al 2 [(.str []), (.bool false), .nils],
   .mv 3 (.c (.int .i64 0))])
  (.sq (.rg [.mv 15 (.s 0),
   .cl 16 72 [(.s 15), (.c (.str [10]))],
   .mv 14 (.s 16),
   .exq 17 (.s 14) 0,
   .exq 18 (.s 14) 1,
   .mv 4 (.s 17),
   .mv 5 (.s 18)])
  (.sq (.rg [.mv 19 (.s 4),
   .cl 20 73 [(.s 19), (.c (.str [10]))],
   .mv 6 (.s 20)])
  (.sq (.sq (.rg [.mv 21 (.s 5),
   .un 22 .not (.s 21),
   .mv 23 (.s 22),
   .gd 23 false 24 (.mv 24 (.s 6)),
   .gd 23 false 25 (.ln 25 (.s 24)),
   .gd 23 false 26 (.bi 26 .gtr (.s 25) (.c (.int .i64 9))),
   .pk 27 (.s 23) (.c (.bool true)) (.s 26)])
  (.cd (.s 27) (.sq (.rg [.bd 28 [(.str []), (.bool false), .nils] [],
   .st 3 (.s 2) (.s 28),
   .mv 3 (.c (.int .i64 5))])
  .rt) .sk))
  (.sq (.rg [.al 7 [(.str []), (.bool false), .nils]])
  (.sq (.sq (.rg [.mv 29 (.s 6),
   .slc 30 1 (.s 29) (some (.c (.int .i64 1))) none,
   .ln 31 (.s 30),
   .mv 32 (.c (.int .i64 0))])
  (.bl 0 (.lp (.sq (.rg [.bi 33 .lss (.s 32) (.s 31)])
  (.sq (.cd (.s 33) .sk (.ex 0))
  (.sq (.bl 1 (.sq (.rg [.ia 34 1 (.s 30) (.s 32),
   .lds 35 (.s 34),
   .mv 9 (.s 35)])
  (.sq (.rg [.mv 37 (.s 9),
   .cl 38 74 [(.s 37), (.c (.str [32, 32]))],
   .mv 36 (.s 38),
   .exq 39 (.s 36) 0,
   .exq 40 (.s 36) 1,
   .mv 10 (.s 39),
   .mv 11 (.s 40)])
  (.sq (.rg [.mv 42 (.s 10),
   .cl 43 75 [(.s 42)],
   .mv 41 (.s 43),
   .exq 44 (.s 41) 0,
   .exq 45 (.s 41) 1,
   .al 12 [(.str []), (.str []), (.bool false), (.int .u64 0), (.bool false)],
   .st 5 (.s 12) (.s 44),
   .mv 13 (.s 45)])
  (.sq (.sq (.rg [.mv 46 (.s 11),
   .un 47 .not (.s 46),
   .mv 48 (.s 47),
   .gd 48 false 49 (.mv 49 (.s 13)),
   .gd 48 false 50 (.bi 50 .neq (.s 49) (.c (.int .i64 0))),
   .pk 51 (.s 48) (.c (.bool true)) (.s 50)])
  (.cd (.s 51) (.sq (.rg [.bd 52 [(.str []), (.bool false), .nils] [],
   .st 3 (.s 2) (.s 52),
   .mv 3 (.c (.int .i64 5))])
  .rt) .sk))
  (.sq (.rd [[], [], [], [], [], [3], [], []] [.fa 53 (.s 12) 0,
   .lds 54 (.s 53),
   .fa 55 (.s 12) 2,
   .lds 56 (.s 55),
   .fa 57 (.s 7) 0,
   .st 1 (.s 57) (.s 54),
   .fa 58 (.s 7) 1,
   .st 1 (.s 58) (.s 56)])
  (.rg [.fa 59 (.s 7) 2,
   .lo 60 (.s 59),
   .lda 61 5 (.s 12),
   .bs 62 5 [(.s 61)],
   .ap 63 5 56 (.s 60) (.s 62),
   .fa 64 (.s 7) 2,
   .so (.s 64) 63])))))))
  (.rg [.bi 65 .add (.s 32) (.c (.int .i64 1)),
   .mv 32 (.s 65)])))))))
  (.sq (.sq (.rd [[], [], [], [], [], [], [], [], [], [], []] [.lda 66 3 (.s 7),
   .cl 67 36 [(.s 66)],
   .un 68 .not (.s 67),
   .mv 69 (.s 68),
   .gd 69 false 70 (.lda 70 3 (.s 7)),
   .gd 69 false 71 (.cl 71 70 [(.s 70)]),
   .gd 69 false 72 (.mv 72 (.s 6)),
   .gd 69 false 73 (.ia 73 1 (.s 72) (.c (.int .i64 0))),
   .gd 69 false 74 (.lds 74 (.s 73)),
   .gd 69 false 75 (.bi 75 .neq (.s 71) (.s 74)),
   .pk 76 (.s 69) (.c (.bool true)) (.s 75)])
  (.cd (.s 76) (.sq (.rg [.bd 77 [(.str []), (.bool false), .nils] [],
   .st 3 (.s 2) (.s 77),
   .mv 3 (.c (.int .i64 5))])
  .rt) .sk))
  (.sq (.rg [.lda 78 3 (.s 7),
   .st 3 (.s 2) (.s 78),
   .mv 3 (.c (.int .i64 0))])
  .rt))))))))
def a34 : AF := ⟨c34, [.ca 2 3, .t 3], 1, 79⟩
theorem m34 : mF Tryd.prog gl drD Tryd.f34 a34 = true := by kernel_rfl
theorem s34 {l : List AV} {r : AV} (hl : l.length = 1) (hi : idsL l = []) (h : wpA (SpH Tryd.prog gl) c34 (postA [.ca 2 3, .t 3] r) ⟨initE 0 l, [], []⟩) : Sp Tryd.prog gl 34 l r :=
  @fun_sp Tryd.prog gl drD 34 Tryd.f34 a34 Tryd.func34 m34 (dok _) l r hl hi h
theorem h34 {d : Nat} {I : In} {O : Out} (hl : I.vs.length = 1) (h : wpA (SpH Tryd.prog gl) c34 (postH d [.ca 2 3, .t 3] O) (inSt I)) : SpH Tryd.prog gl 34 d I O :=
  @fun_spH Tryd.prog gl drD 34 Tryd.f34 a34 Tryd.func34 m34 (dok _) d I O hl h
/-- firebell/firebellref30.Read -/
def c35 : AC :=
 (.sq (.rg [.al 2 [(.str []), (.bool false), .nils],
   .mv 3 (.c (.bool false))])
  (.sq (.rg [.bs 11 1 [],
   .mo 4 11])
  (.sq (.rg [.mv 5 (.c (.str []))])
  (.sq (.sq (.rg [.mv 6 (.c (.int .i64 0))])
  (.bl 0 (.lp (.sq (.sq (.rg [.mv 12 (.s 6),
   .mv 13 (.s 0),
   .lns 14 (.s 13),
   .bi 15 .lss (.s 12) (.s 14)])
  (.cd (.s 15) .sk (.ex 0)))
  (.sq (.bl 1 (.sq (.rg [.mv 18 (.s 0),
   .mv 19 (.s 6),
   .ixs 20 (.s 18) (.s 19),
   .bi 21 .eql (.s 20) (.c (.int .u8 10))])
  (.cd (.s 21) (.sq (.rg [.mo 22 4,
   .mv 23 (.s 5),
   .bs 24 1 [(.s 23)],
   .ap 25 1 16 (.s 22) (.s 24),
   .mo 4 25])
  (.rg [.mv 5 (.c (.str []))])) (.rg [.mv 26 (.s 5),
   .mv 27 (.s 0),
   .mv 28 (.s 6),
   .mv 29 (.s 6),
   .bi 30 .add (.s 29) (.c (.int .i64 1)),
   .sls 31 (.s 27) (some (.s 28)) (some (.s 30)),
   .bi 32 .add (.s 26) (.s 31),
   .mv 5 (.s 32)]))))
  (.rg [.mv 16 (.s 6),
   .bi 17 .add (.s 16) (.c (.int .i64 1)),
   .mv 6 (.s 17)]))))))
  (.sq (.sq (.rg [.mv 33 (.s 4),
   .ln 34 (.s 33),
   .bi 35 .lss (.s 34) (.c (.int .i64 2)),
   .mv 36 (.s 35),
   .gd 36 false 37 (.mv 37 (.s 4)),
   .gd 36 false 38 (.ln 38 (.s 37)),
   .gd 36 false 39 (.bi 39 .gtr (.s 38) (.c (.int .i64 9))),
   .pk 40 (.s 36) (.c (.bool true)) (.s 39),
   .mv 41 (.s 40),
   .gd 41 false 42 (.mv 42 (.s 5)),
   .gd 41 false 43 (.bi 43 .neq (.s 42) (.c (.str []))),
   .pk 44 (.s 41) (.c (.bool true)) (.s 43)])
  (.cd (.s 44) (.sq (.rg [.bd 45 [(.str []), (.bool false), .nils] [],
   .st 3 (.s 2) (.s 45),
   .mv 3 (.c (.bool false))])
  .rt) .sk))
  (.sq (.rg [.bd 46 [(.str []), (.bool false), .nils] [],
   .al 7 [(.str []), (.bool false), .nils],
   .st 3 (.s 7) (.s 46)])
  (.sq (.sq (.rg [.mv 8 (.c (.int .i64 1))])
  (.bl 2 (.lp (.sq (.sq (.rg [.mv 47 (.s 8),
   .mv 48 (.s 4),
   .ln 49 (.s 48),
   .bi 50 .lss (.s 47) (.s 49)])
  (.cd (.s 50) .sk (.ex 2)))
  (.sq (.bl 3 (.sq (.sq (.rg [.mv 53 (.s 4),
   .mv 54 (.s 8),
   .ia 55 1 (.s 53) (.s 54),
   .lds 56 (.s 55),
   .lns 57 (.s 56),
   .bi 58 .lss (.s 57) (.c (.int .i64 2))])
  (.cd (.s 58) (.sq (.rg [.bd 59 [(.str []), (.bool false), .nils] [],
   .st 3 (.s 2) (.s 59),
   .mv 3 (.c (.bool false))])
  .rt) .sk))
  (.sq (.rg [.mv 61 (.s 4),
   .mv 62 (.s 8),
   .ia 63 1 (.s 61) (.s 62),
   .lds 64 (.s 63),
   .sls 65 (.s 64) (some (.c (.int .i64 2))) none,
   .cl 66 76 [(.s 65)],
   .mv 60 (.s 66),
   .exq 67 (.s 60) 0,
   .exq 68 (.s 60) 1,
   .al 9 [(.str []), (.str []), (.bool false), (.int .u64 0), (.bool false)],
   .st 5 (.s 9) (.s 67),
   .mv 10 (.s 68)])
  (.sq (.sq (.rg [.mv 69 (.s 10),
   .un 70 .not (.s 69)])
  (.cd (.s 70) (.sq (.rg [.bd 71 [(.str []), (.bool false), .nils] [],
   .st 3 (.s 2) (.s 71),
   .mv 3 (.c (.bool false))])
  .rt) .sk))
  (.sq (.rg [.fa 72 (.s 9) 0,
   .lds 73 (.s 72),
   .fa 74 (.s 7) 0,
   .st 1 (.s 74) (.s 73)])
  (.sq (.rg [.fa 75 (.s 9) 2,
   .lds 76 (.s 75),
   .fa 77 (.s 7) 1,
   .st 1 (.s 77) (.s 76)])
  (.rg [.fa 78 (.s 7) 2,
   .lo 79 (.s 78),
   .lda 80 5 (.s 9),
   .bs 81 5 [(.s 80)],
   .ap 82 5 56 (.s 79) (.s 81),
   .fa 83 (.s 7) 2,
   .so (.s 83) 82])))))))
  (.rg [.mv 51 (.s 8),
   .bi 52 .add (.s 51) (.c (.int .i64 1)),
   .mv 8 (.s 52)]))))))
  (.sq (.sq (.rg [.lda 84 3 (.s 7),
   .cl 85 37 [(.s 84)],
   .un 86 .not (.s 85),
   .mv 87 (.s 86),
   .gd 87 false 88 (.lda 88 3 (.s 7)),
   .gd 87 false 89 (.cl 89 39 [(.s 88)]),
   .gd 87 false 90 (.mv 90 (.s 0)),
   .gd 87 false 91 (.bi 91 .neq (.s 89) (.s 90)),
   .pk 92 (.s 87) (.c (.bool true)) (.s 91)])
  (.cd (.s 92) (.sq (.rg [.bd 93 [(.str []), (.bool false), .nils] [],
   .st 3 (.s 2) (.s 93),
   .mv 3 (.c (.bool false))])
  .rt) .sk))
  (.sq (.rg [.lda 94 3 (.s 7),
   .st 3 (.s 2) (.s 94),
   .mv 3 (.c (.bool true))])
  .rt)))))))))
def a35 : AF := ⟨c35, [.ca 2 3, .t 3], 1, 95⟩
theorem m35 : mF Tryd.prog gl drD Tryd.f35 a35 = true := by kernel_rfl
theorem s35 {l : List AV} {r : AV} (hl : l.length = 1) (hi : idsL l = []) (h : wpA (SpH Tryd.prog gl) c35 (postA [.ca 2 3, .t 3] r) ⟨initE 0 l, [], []⟩) : Sp Tryd.prog gl 35 l r :=
  @fun_sp Tryd.prog gl drD 35 Tryd.f35 a35 Tryd.func35 m35 (dok _) l r hl hi h
theorem h35 {d : Nat} {I : In} {O : Out} (hl : I.vs.length = 1) (h : wpA (SpH Tryd.prog gl) c35 (postH d [.ca 2 3, .t 3] O) (inSt I)) : SpH Tryd.prog gl 35 d I O :=
  @fun_spH Tryd.prog gl drD 35 Tryd.f35 a35 Tryd.func35 m35 (dok _) d I O hl h
/-- firebell/bundle.Right -/
def c36 : AC :=
 (.sq (.rg [.bx 1 (.s 0),
   .mv 2 (.c (.bool false))])
  (.sq (.sq (.rg [.fa 5 (.s 1) 2,
   .lds 6 (.s 5),
   .ln 7 (.s 6),
   .bi 8 .lss (.s 7) (.c (.int .i64 1)),
   .mv 9 (.s 8),
   .gd 9 false 10 (.fa 10 (.s 1) 2),
   .gd 9 false 11 (.lds 11 (.s 10)),
   .gd 9 false 12 (.ln 12 (.s 11)),
   .gd 9 false 13 (.bi 13 .gtr (.s 12) (.c (.int .i64 8))),
   .pk 14 (.s 9) (.c (.bool true)) (.s 13)])
  (.cd (.s 14) (.sq (.rg [.mv 2 (.c (.bool false))])
  .rt) .sk))
  (.sq (.sq (.rg [.fa 15 (.s 1) 2,
   .lds 16 (.s 15),
   .ln 17 (.s 16),
   .mv 18 (.c (.int .i64 0))])
  (.bl 0 (.lp (.sq (.rg [.bi 19 .lss (.s 18) (.s 17)])
  (.sq (.cd (.s 19) .sk (.ex 0))
  (.sq (.bl 1 (.sq (.rg [.mv 20 (.s 18),
   .ia 21 5 (.s 16) (.s 18),
   .lda 22 5 (.s 21),
   .al 4 [(.str []), (.str []), (.bool false), (.int .u64 0), (.bool false)],
   .mv 3 (.s 20),
   .st 5 (.s 4) (.s 22)])
  (.sq (.rg [.lda 23 5 (.s 4),
   .cl 24 47 [(.s 23)],
   .un 25 .not (.s 24),
   .mv 26 (.s 25),
   .gd 26 false 27 (.fa 27 (.s 4) 0),
   .gd 26 false 28 (.lds 28 (.s 27)),
   .gd 26 false 29 (.fa 29 (.s 1) 0),
   .gd 26 false 30 (.lds 30 (.s 29)),
   .gd 26 false 31 (.bi 31 .neq (.s 28) (.s 30)),
   .pk 32 (.s 26) (.c (.bool true)) (.s 31),
   .mv 33 (.s 32),
   .gd 33 false 34 (.fa 34 (.s 4) 2),
   .gd 33 false 35 (.lds 35 (.s 34)),
   .gd 33 false 36 (.fa 36 (.s 1) 1),
   .gd 33 false 37 (.lds 37 (.s 36)),
   .gd 33 false 38 (.bb 38 true (.s 35) (.s 37)),
   .pk 39 (.s 33) (.c (.bool true)) (.s 38),
   .mv 40 (.s 39),
   .gd 40 false 41 (.fa 41 (.s 1) 2),
   .gd 40 false 42 (.lds 42 (.s 41)),
   .gd 40 false 43 (.lda 43 5 (.s 4)),
   .gd 40 false 44 (.cl 44 77 [(.s 42), (.s 43)]),
   .gd 40 false 45 (.mv 45 (.s 3)),
   .gd 40 false 46 (.bi 46 .neq (.s 44) (.s 45)),
   .pk 47 (.s 40) (.c (.bool true)) (.s 46)])
  (.cd (.s 47) (.sq (.rg [.mv 2 (.c (.bool false))])
  .rt) .sk))))
  (.rg [.bi 48 .add (.s 18) (.c (.int .i64 1)),
   .mv 18 (.s 48)])))))))
  (.sq (.rg [.mv 2 (.c (.bool true))])
  .rt))))
def a36 : AF := ⟨c36, [.t 2], 1, 49⟩
theorem m36 : mF Tryd.prog gl drD Tryd.f36 a36 = true := by kernel_rfl
theorem s36 {l : List AV} {r : AV} (hl : l.length = 1) (hi : idsL l = []) (h : wpA (SpH Tryd.prog gl) c36 (postA [.t 2] r) ⟨initE 0 l, [], []⟩) : Sp Tryd.prog gl 36 l r :=
  @fun_sp Tryd.prog gl drD 36 Tryd.f36 a36 Tryd.func36 m36 (dok _) l r hl hi h
theorem h36 {d : Nat} {I : In} {O : Out} (hl : I.vs.length = 1) (h : wpA (SpH Tryd.prog gl) c36 (postH d [.t 2] O) (inSt I)) : SpH Tryd.prog gl 36 d I O :=
  @fun_spH Tryd.prog gl drD 36 Tryd.f36 a36 Tryd.func36 m36 (dok _) d I O hl h
/-- firebell/firebellref30.Right -/
def c37 : AC :=
 (.sq (.rg [.bx 1 (.s 0),
   .mv 2 (.c (.bool false))])
  (.sq (.sq (.rg [.fa 5 (.s 1) 2,
   .lds 6 (.s 5),
   .ln 7 (.s 6),
   .bi 8 .eql (.s 7) (.c (.int .i64 0)),
   .mv 9 (.s 8),
   .gd 9 false 10 (.fa 10 (.s 1) 2),
   .gd 9 false 11 (.lds 11 (.s 10)),
   .gd 9 false 12 (.ln 12 (.s 11)),
   .gd 9 false 13 (.bi 13 .gtr (.s 12) (.c (.int .i64 8))),
   .pk 14 (.s 9) (.c (.bool true)) (.s 13)])
  (.cd (.s 14) (.sq (.rg [.mv 2 (.c (.bool false))])
  .rt) .sk))
  (.sq (.sq (.rg [.mv 3 (.c (.int .i64 0))])
  (.bl 0 (.lp (.sq (.sq (.rg [.mv 15 (.s 3),
   .fa 16 (.s 1) 2,
   .lds 17 (.s 16),
   .ln 18 (.s 17),
   .bi 19 .lss (.s 15) (.s 18)])
  (.cd (.s 19) .sk (.ex 0)))
  (.sq (.bl 1 (.sq (.rg [.fa 22 (.s 1) 2,
   .lds 23 (.s 22),
   .mv 24 (.s 3),
   .ia 25 5 (.s 23) (.s 24),
   .lda 26 5 (.s 25),
   .al 4 [(.str []), (.str []), (.bool false), (.int .u64 0), (.bool false)],
   .st 5 (.s 4) (.s 26)])
  (.sq (.rd [[], [], [], [], [], [], [], [], [], [], [], [], [], [], [], [], [], [], [], [], [], [], [], [], []] [.lda 27 5 (.s 4),
   .cl 28 14 [(.s 27)],
   .un 29 .not (.s 28),
   .mv 30 (.s 29),
   .gd 30 false 31 (.fa 31 (.s 4) 0),
   .gd 30 false 32 (.lds 32 (.s 31)),
   .gd 30 false 33 (.fa 33 (.s 1) 0),
   .gd 30 false 34 (.lds 34 (.s 33)),
   .gd 30 false 35 (.bi 35 .neq (.s 32) (.s 34)),
   .pk 36 (.s 30) (.c (.bool true)) (.s 35),
   .mv 37 (.s 36),
   .gd 37 false 38 (.fa 38 (.s 4) 2),
   .gd 37 false 39 (.lds 39 (.s 38)),
   .gd 37 false 40 (.fa 40 (.s 1) 1),
   .gd 37 false 41 (.lds 41 (.s 40)),
   .gd 37 false 42 (.bb 42 true (.s 39) (.s 41)),
   .pk 43 (.s 37) (.c (.bool true)) (.s 42),
   .mv 44 (.s 43),
   .gd 44 false 45 (.fa 45 (.s 1) 2),
   .gd 44 false 46 (.lds 46 (.s 45)),
   .gd 44 false 47 (.mv 47 (.s 3)),
   .gd 44 false 48 (.slc 48 5 (.s 46) none (some (.s 47))),
   .gd 44 false 49 (.lda 49 5 (.s 4)),
   .gd 44 false 50 (.cl 50 78 [(.s 48), (.s 49)]),
   .pk 51 (.s 44) (.c (.bool true)) (.s 50)])
  (.cd (.s 51) (.sq (.rg [.mv 2 (.c (.bool false))])
  .rt) .sk))))
  (.rg [.mv 20 (.s 3),
   .bi 21 .add (.s 20) (.c (.int .i64 1)),
   .mv 3 (.s 21)]))))))
  (.sq (.rg [.mv 2 (.c (.bool true))])
  .rt))))
def a37 : AF := ⟨c37, [.t 2], 1, 52⟩
theorem m37 : mF Tryd.prog gl drD Tryd.f37 a37 = true := by kernel_rfl
theorem s37 {l : List AV} {r : AV} (hl : l.length = 1) (hi : idsL l = []) (h : wpA (SpH Tryd.prog gl) c37 (postA [.t 2] r) ⟨initE 0 l, [], []⟩) : Sp Tryd.prog gl 37 l r :=
  @fun_sp Tryd.prog gl drD 37 Tryd.f37 a37 Tryd.func37 m37 (dok _) l r hl hi h
theorem h37 {d : Nat} {I : In} {O : Out} (hl : I.vs.length = 1) (h : wpA (SpH Tryd.prog gl) c37 (postH d [.t 2] O) (inSt I)) : SpH Tryd.prog gl 37 d I O :=
  @fun_spH Tryd.prog gl drD 37 Tryd.f37 a37 Tryd.func37 m37 (dok _) d I O hl h
/-- firebell/firebellref30.SameOne -/
def c38 : AC :=
 (.sq (.rg [.bx 2 (.s 0),
   .bx 3 (.s 1),
   .mv 4 (.c (.bool false))])
  (.sq (.rg [.fa 5 (.s 2) 0,
   .lds 6 (.s 5),
   .fa 7 (.s 3) 0,
   .lds 8 (.s 7),
   .bi 9 .eql (.s 6) (.s 8),
   .mv 10 (.s 9),
   .gd 10 true 11 (.fa 11 (.s 2) 1),
   .gd 10 true 12 (.lds 12 (.s 11)),
   .gd 10 true 13 (.fa 13 (.s 3) 1),
   .gd 10 true 14 (.lds 14 (.s 13)),
   .gd 10 true 15 (.bb 15 false (.s 12) (.s 14)),
   .pk 16 (.s 10) (.s 15) (.c (.bool false)),
   .mv 17 (.s 16),
   .gd 17 true 18 (.fa 18 (.s 2) 2),
   .gd 17 true 19 (.lds 19 (.s 18)),
   .gd 17 true 20 (.fa 20 (.s 3) 2),
   .gd 17 true 21 (.lds 21 (.s 20)),
   .gd 17 true 22 (.cl 22 79 [(.s 19), (.s 21)]),
   .pk 23 (.s 17) (.s 22) (.c (.bool false)),
   .mv 4 (.s 23)])
  .rt))
def a38 : AF := ⟨c38, [.t 4], 2, 24⟩
theorem m38 : mF Tryd.prog gl drD Tryd.f38 a38 = true := by kernel_rfl
theorem s38 {l : List AV} {r : AV} (hl : l.length = 2) (hi : idsL l = []) (h : wpA (SpH Tryd.prog gl) c38 (postA [.t 4] r) ⟨initE 0 l, [], []⟩) : Sp Tryd.prog gl 38 l r :=
  @fun_sp Tryd.prog gl drD 38 Tryd.f38 a38 Tryd.func38 m38 (dok _) l r hl hi h
theorem h38 {d : Nat} {I : In} {O : Out} (hl : I.vs.length = 2) (h : wpA (SpH Tryd.prog gl) c38 (postH d [.t 4] O) (inSt I)) : SpH Tryd.prog gl 38 d I O :=
  @fun_spH Tryd.prog gl drD 38 Tryd.f38 a38 Tryd.func38 m38 (dok _) d I O hl h
/-- firebell/firebellref30.Print -/
def c39 : AC :=
 (.sq (.rg [.bx 1 (.s 0),
   .mv 2 (.c (.str []))])
  (.sq (.rg [.fa 5 (.s 1) 0,
   .lds 6 (.s 5),
   .bi 7 .add (.c (.str [116, 105, 99, 107, 101, 116, 32])) (.s 6),
   .bi 8 .add (.s 7) (.c (.str [10])),
   .mv 3 (.s 8)])
  (.sq (.sq (.rg [.fa 9 (.s 1) 1,
   .lds 10 (.s 9)])
  (.cd (.s 10) (.rg [.fa 11 (.s 1) 0,
   .lds 12 (.s 11),
   .bi 13 .add (.c (.str [112, 97, 103, 101, 32])) (.s 12),
   .bi 14 .add (.s 13) (.c (.str [10])),
   .mv 3 (.s 14)]) .sk))
  (.sq (.sq (.rg [.mv 4 (.c (.int .i64 0))])
  (.bl 0 (.lp (.sq (.sq (.rg [.mv 15 (.s 4),
   .fa 16 (.s 1) 2,
   .lds 17 (.s 16),
   .ln 18 (.s 17),
   .bi 19 .lss (.s 15) (.s 18)])
  (.cd (.s 19) .sk (.ex 0)))
  (.sq (.bl 1 (.rg [.mv 22 (.s 3),
   .bi 23 .add (.s 22) (.c (.str [32, 32])),
   .fa 24 (.s 1) 2,
   .lds 25 (.s 24),
   .mv 26 (.s 4),
   .ia 27 5 (.s 25) (.s 26),
   .lda 28 5 (.s 27),
   .cl 29 80 [(.s 28)],
   .bi 30 .add (.s 23) (.s 29),
   .bi 31 .add (.s 30) (.c (.str [10])),
   .mv 3 (.s 31)]))
  (.rg [.mv 20 (.s 4),
   .bi 21 .add (.s 20) (.c (.int .i64 1)),
   .mv 4 (.s 21)]))))))
  (.sq (.rg [.mv 32 (.s 3),
   .mv 2 (.s 32)])
  .rt)))))
def a39 : AF := ⟨c39, [.t 2], 1, 33⟩
theorem m39 : mF Tryd.prog gl drD Tryd.f39 a39 = true := by kernel_rfl
theorem s39 {l : List AV} {r : AV} (hl : l.length = 1) (hi : idsL l = []) (h : wpA (SpH Tryd.prog gl) c39 (postA [.t 2] r) ⟨initE 0 l, [], []⟩) : Sp Tryd.prog gl 39 l r :=
  @fun_sp Tryd.prog gl drD 39 Tryd.f39 a39 Tryd.func39 m39 (dok _) l r hl hi h
theorem h39 {d : Nat} {I : In} {O : Out} (hl : I.vs.length = 1) (h : wpA (SpH Tryd.prog gl) c39 (postH d [.t 2] O) (inSt I)) : SpH Tryd.prog gl 39 d I O :=
  @fun_spH Tryd.prog gl drD 39 Tryd.f39 a39 Tryd.func39 m39 (dok _) d I O hl h
/-- firebell/key.Print -/
def c40 : AC :=
 (.sq (.rg [.bx 1 (.s 0),
   .mv 2 (.c (.str []))])
  (.sq (.sq (.rg [.lda 3 5 (.s 1),
   .cl 4 47 [(.s 3)],
   .un 5 .not (.s 4)])
  (.cd (.s 5) (.sq (.rg [.mv 2 (.c (.str [63]))])
  .rt) .sk))
  (.sq (.rd [[], [], [], [], [], [], [], [], [], [], [], [], [], [], [], []] [.fa 6 (.s 1) 0,
   .lds 7 (.s 6),
   .fa 8 (.s 1) 1,
   .lds 9 (.s 8),
   .fa 10 (.s 1) 2,
   .lds 11 (.s 10),
   .cl 12 82 [(.s 11), (.c (.str [112, 97, 103, 101])), (.c (.str [116, 105, 99, 107, 101, 116]))],
   .fa 13 (.s 1) 3,
   .lds 14 (.s 13),
   .cl 15 83 [(.s 14), (.c (.int .i64 10))],
   .fa 16 (.s 1) 4,
   .lds 17 (.s 16),
   .cl 18 82 [(.s 17), (.c (.str [114, 101, 115, 111, 108, 118, 101])), (.c (.str [102, 105, 114, 101]))],
   .bs 19 1 [(.s 7), (.s 9), (.s 12), (.s 15), (.s 18)],
   .cl 20 81 [(.s 19), (.c (.str [47]))],
   .mv 2 (.s 20)])
  .rt)))
def a40 : AF := ⟨c40, [.t 2], 1, 21⟩
theorem m40 : mF Tryd.prog gl drD Tryd.f40 a40 = true := by kernel_rfl
theorem s40 {l : List AV} {r : AV} (hl : l.length = 1) (hi : idsL l = []) (h : wpA (SpH Tryd.prog gl) c40 (postA [.t 2] r) ⟨initE 0 l, [], []⟩) : Sp Tryd.prog gl 40 l r :=
  @fun_sp Tryd.prog gl drD 40 Tryd.f40 a40 Tryd.func40 m40 (dok _) l r hl hi h
theorem h40 {d : Nat} {I : In} {O : Out} (hl : I.vs.length = 1) (h : wpA (SpH Tryd.prog gl) c40 (postH d [.t 2] O) (inSt I)) : SpH Tryd.prog gl 40 d I O :=
  @fun_spH Tryd.prog gl drD 40 Tryd.f40 a40 Tryd.func40 m40 (dok _) d I O hl h
/-- (*firebell/wire.Reader).Num -/
def c46 : AC :=
 (.sq (.rg [.mv 2 (.c (.int .u64 0))])
  (.sq (.rg [.mv 6 (.s 0),
   .ce 7 87 [(.s 6), (.c (.int .u8 0))],
   .mv 5 (.s 7),
   .exq 8 (.s 5) 0,
   .exq 9 (.s 5) 1,
   .mv 3 (.s 8),
   .mv 4 (.s 9)])
  (.sq (.rg [.mv 10 (.s 4),
   .mv 2 (.s 10)])
  .rt)))
def a46 : AF := ⟨c46, [.t 2], 1, 11⟩
theorem m46 : mF Tryd.prog gl drD Tryd.f46 a46 = true := by kernel_rfl
theorem s46 {l : List AV} {r : AV} (hl : l.length = 1) (hi : idsL l = []) (h : wpA (SpH Tryd.prog gl) c46 (postA [.t 2] r) ⟨initE 0 l, [], []⟩) : Sp Tryd.prog gl 46 l r :=
  @fun_sp Tryd.prog gl drD 46 Tryd.f46 a46 Tryd.func46 m46 (dok _) l r hl hi h
theorem h46 {d : Nat} {I : In} {O : Out} (hl : I.vs.length = 1) (h : wpA (SpH Tryd.prog gl) c46 (postH d [.t 2] O) (inSt I)) : SpH Tryd.prog gl 46 d I O :=
  @fun_spH Tryd.prog gl drD 46 Tryd.f46 a46 Tryd.func46 m46 (dok _) d I O hl h
/-- firebell/key.Right -/
def c47 : AC :=
 (.sq (.rg [.bx 1 (.s 0),
   .mv 2 (.c (.bool false))])
  (.sq (.rg [.fa 3 (.s 1) 0,
   .lds 4 (.s 3),
   .cl 5 88 [(.s 4)],
   .mv 6 (.s 5),
   .gd 6 true 7 (.fa 7 (.s 1) 1),
   .gd 6 true 8 (.lds 8 (.s 7)),
   .gd 6 true 9 (.cl 9 88 [(.s 8)]),
   .pk 10 (.s 6) (.s 9) (.c (.bool false)),
   .mv 11 (.s 10),
   .gd 11 true 12 (.fa 12 (.s 1) 3),
   .gd 11 true 13 (.lds 13 (.s 12)),
   .gd 11 true 14 (.bi 14 .geq (.s 13) (.c (.int .u64 1))),
   .pk 15 (.s 11) (.s 14) (.c (.bool false)),
   .mv 16 (.s 15),
   .gd 16 true 17 (.fa 17 (.s 1) 3),
   .gd 16 true 18 (.lds 18 (.s 17)),
   .gd 16 true 19 (.bi 19 .leq (.s 18) (.c (.int .u64 4611686018427387904))),
   .pk 20 (.s 16) (.s 19) (.c (.bool false)),
   .mv 2 (.s 20)])
  .rt))
def a47 : AF := ⟨c47, [.t 2], 1, 21⟩
theorem m47 : mF Tryd.prog gl drD Tryd.f47 a47 = true := by kernel_rfl
theorem s47 {l : List AV} {r : AV} (hl : l.length = 1) (hi : idsL l = []) (h : wpA (SpH Tryd.prog gl) c47 (postA [.t 2] r) ⟨initE 0 l, [], []⟩) : Sp Tryd.prog gl 47 l r :=
  @fun_sp Tryd.prog gl drD 47 Tryd.f47 a47 Tryd.func47 m47 (dok _) l r hl hi h
theorem h47 {d : Nat} {I : In} {O : Out} (hl : I.vs.length = 1) (h : wpA (SpH Tryd.prog gl) c47 (postH d [.t 2] O) (inSt I)) : SpH Tryd.prog gl 47 d I O :=
  @fun_spH Tryd.prog gl drD 47 Tryd.f47 a47 Tryd.func47 m47 (dok _) d I O hl h
/-- firebell/firebellref07.Num -/
def c51 : AC :=
 (.sq (.rg [.mv 2 (.c .nils)])
  (.sq (.rg [.bs 4 1 [],
   .mv 3 (.s 4)])
  (.sq (.bl 0 (.lp (.sq (.sq (.rg [.mv 5 (.s 0),
   .bi 6 .gtr (.s 5) (.c (.int .u64 0))])
  (.cd (.s 6) .sk (.ex 0)))
  (.bl 1 (.sq (.rg [.mv 7 (.s 0),
   .bi 8 .rem (.s 7) (.c (.int .u64 256)),
   .cv 9 .u8 (.s 8),
   .bs 10 1 [(.s 9)],
   .mv 11 (.s 3),
   .ap 12 1 1 (.s 10) (.s 11),
   .mv 3 (.s 12)])
  (.rg [.mv 13 (.s 0),
   .bi 14 .quo (.s 13) (.c (.int .u64 256)),
   .mv 0 (.s 14)]))))))
  (.sq (.rg [.mv 15 (.s 3),
   .ln 16 (.s 15),
   .cv 17 .u8 (.s 16),
   .bs 18 1 [(.s 17)],
   .mv 19 (.s 3),
   .ap 20 1 1 (.s 18) (.s 19),
   .mo 2 20])
  .rt))))
def a51 : AF := ⟨c51, [.t 2], 1, 21⟩
theorem m51 : mF Tryd.prog gl drD Tryd.f51 a51 = true := by kernel_rfl
theorem s51 {l : List AV} {r : AV} (hl : l.length = 1) (hi : idsL l = []) (h : wpA (SpH Tryd.prog gl) c51 (postA [.t 2] r) ⟨initE 0 l, [], []⟩) : Sp Tryd.prog gl 51 l r :=
  @fun_sp Tryd.prog gl drD 51 Tryd.f51 a51 Tryd.func51 m51 (dok _) l r hl hi h
theorem h51 {d : Nat} {I : In} {O : Out} (hl : I.vs.length = 1) (h : wpA (SpH Tryd.prog gl) c51 (postH d [.t 2] O) (inSt I)) : SpH Tryd.prog gl 51 d I O :=
  @fun_spH Tryd.prog gl drD 51 Tryd.f51 a51 Tryd.func51 m51 (dok _) d I O hl h
/-- firebell/firebellref06.Name -/
def c52 : AC :=
 (.sq (.rg [.mv 2 (.c (.bool false))])
  (.sq (.rg [.mv 7 (.s 0),
   .cl 8 89 [(.s 7)],
   .mv 3 (.s 8)])
  (.sq (.sq (.rg [.mv 9 (.s 3),
   .ln 10 (.s 9),
   .bi 11 .eql (.s 10) (.c (.int .i64 0)),
   .mv 12 (.s 11),
   .gd 12 false 13 (.mv 13 (.s 3)),
   .gd 12 false 14 (.ln 14 (.s 13)),
   .gd 12 false 15 (.bi 15 .gtr (.s 14) (.c (.int .i64 24))),
   .pk 16 (.s 12) (.c (.bool true)) (.s 15),
   .mv 17 (.s 16),
   .gd 17 false 18 (.mv 18 (.s 3)),
   .gd 17 false 19 (.ia 19 1 (.s 18) (.c (.int .i64 0))),
   .gd 17 false 20 (.lds 20 (.s 19)),
   .gd 17 false 21 (.cl 21 90 [(.s 20)]),
   .gd 17 false 22 (.un 22 .not (.s 21)),
   .pk 23 (.s 17) (.c (.bool true)) (.s 22)])
  (.cd (.s 23) (.sq (.rg [.mv 2 (.c (.bool false))])
  .rt) .sk))
  (.sq (.sq (.rg [.mv 4 (.c (.int .i64 0))])
  (.bl 0 (.lp (.sq (.sq (.rg [.mv 24 (.s 4),
   .mv 25 (.s 3),
   .ln 26 (.s 25),
   .bi 27 .lss (.s 24) (.s 26)])
  (.cd (.s 27) .sk (.ex 0)))
  (.sq (.bl 1 (.sq (.rg [.mv 30 (.s 4),
   .mv 31 (.s 3),
   .ln 32 (.s 31),
   .bi 33 .sub (.s 32) (.c (.int .i64 1)),
   .bi 34 .eql (.s 30) (.s 33),
   .mv 5 (.s 34)])
  (.sq (.rg [.mv 35 (.s 3),
   .mv 36 (.s 4),
   .ia 37 1 (.s 35) (.s 36),
   .lds 38 (.s 37),
   .bi 39 .geq (.s 38) (.c (.int .i32 48)),
   .mv 40 (.s 39),
   .gd 40 true 41 (.mv 41 (.s 3)),
   .gd 40 true 42 (.mv 42 (.s 4)),
   .gd 40 true 43 (.ia 43 1 (.s 41) (.s 42)),
   .gd 40 true 44 (.lds 44 (.s 43)),
   .gd 40 true 45 (.bi 45 .leq (.s 44) (.c (.int .i32 57))),
   .pk 46 (.s 40) (.s 45) (.c (.bool false)),
   .mv 6 (.s 46)])
  (.sq (.rg [.mv 47 (.s 3),
   .mv 48 (.s 4),
   .ia 49 1 (.s 47) (.s 48),
   .lds 50 (.s 49),
   .cl 51 90 [(.s 50)],
   .un 52 .not (.s 51),
   .mv 53 (.s 52),
   .gd 53 true 54 (.mv 54 (.s 6)),
   .gd 53 true 55 (.un 55 .not (.s 54)),
   .pk 56 (.s 53) (.s 55) (.c (.bool false)),
   .mv 57 (.s 56),
   .gd 57 true 58 (.mv 58 (.s 5)),
   .gd 57 true 59 (.mv 59 (.s 58)),
   .gd 59 false 60 (.mv 60 (.s 3)),
   .gd 59 false 61 (.mv 61 (.s 4)),
   .gd 59 false 62 (.ia 62 1 (.s 60) (.s 61)),
   .gd 59 false 63 (.lds 63 (.s 62)),
   .gd 59 false 64 (.bi 64 .neq (.s 63) (.c (.int .i32 95))),
   .gd 59 false 65 (.mv 65 (.s 64)),
   .gd 65 true 66 (.mv 66 (.s 3)),
   .gd 65 true 67 (.mv 67 (.s 4)),
   .gd 65 true 68 (.ia 68 1 (.s 66) (.s 67)),
   .gd 65 true 69 (.lds 69 (.s 68)),
   .gd 65 true 70 (.bi 70 .neq (.s 69) (.c (.int .i32 45))),
   .gd 59 false 71 (.pk 71 (.s 65) (.s 70) (.c (.bool false))),
   .gd 57 true 72 (.pk 72 (.s 59) (.c (.bool true)) (.s 71)),
   .pk 73 (.s 57) (.s 72) (.c (.bool false))])
  (.cd (.s 73) (.sq (.rg [.mv 2 (.c (.bool false))])
  .rt) .sk)))))
  (.rg [.mv 28 (.s 4),
   .bi 29 .add (.s 28) (.c (.int .i64 1)),
   .mv 4 (.s 29)]))))))
  (.sq (.rg [.mv 2 (.c (.bool true))])
  .rt)))))
def a52 : AF := ⟨c52, [.t 2], 1, 74⟩
theorem m52 : mF Tryd.prog gl drD Tryd.f52 a52 = true := by kernel_rfl
theorem s52 {l : List AV} {r : AV} (hl : l.length = 1) (hi : idsL l = []) (h : wpA (SpH Tryd.prog gl) c52 (postA [.t 2] r) ⟨initE 0 l, [], []⟩) : Sp Tryd.prog gl 52 l r :=
  @fun_sp Tryd.prog gl drD 52 Tryd.f52 a52 Tryd.func52 m52 (dok _) l r hl hi h
theorem h52 {d : Nat} {I : In} {O : Out} (hl : I.vs.length = 1) (h : wpA (SpH Tryd.prog gl) c52 (postH d [.t 2] O) (inSt I)) : SpH Tryd.prog gl 52 d I O :=
  @fun_spH Tryd.prog gl drD 52 Tryd.f52 a52 Tryd.func52 m52 (dok _) d I O hl h
/-- firebell/firebellref07.Get -/
def c53 : AC :=
 (.sq (.rg [.bx 5 (.s 2),
   .al 6 [(.int .u64 0), (.int .i64 0), (.str []), (.bool false)],
   .mv 7 (.c (.int .i64 0)),
   .mv 8 (.c (.bool false))])
  (.sq (.rg [.bd 15 [(.int .u64 0), (.int .i64 0), (.str []), (.bool false)] [],
   .al 9 [(.int .u64 0), (.int .i64 0), (.str []), (.bool false)],
   .st 4 (.s 9) (.s 15)])
  (.sq (.sq (.rg [.mv 16 (.s 1),
   .mv 17 (.s 0),
   .ln 18 (.s 17),
   .bi 19 .geq (.s 16) (.s 18)])
  (.cd (.s 19) (.sq (.rg [.lda 20 4 (.s 9),
   .st 4 (.s 6) (.s 20),
   .mv 7 (.c (.int .i64 0)),
   .mv 8 (.c (.bool false))])
  .rt) .sk))
  (.sq (.sq (.rg [.fa 21 (.s 5) 0,
   .lds 22 (.s 21),
   .bi 23 .eql (.s 22) (.c (.int .i64 3))])
  (.cd (.s 23) (.sq (.rd [[], [], [], [], [], [], [], [], [], [], [], [], [], [11], [], []] [.mv 24 (.s 0),
   .mv 25 (.s 1),
   .ia 26 1 (.s 24) (.s 25),
   .lds 27 (.s 26),
   .bi 28 .eql (.s 27) (.c (.int .u8 1)),
   .bd 29 [(.int .u64 0), (.int .i64 0), (.str []), (.bool false)] [(3, 1, (.s 28))],
   .mv 30 (.s 1),
   .bi 31 .add (.s 30) (.c (.int .i64 1)),
   .mv 32 (.s 0),
   .mv 33 (.s 1),
   .ia 34 1 (.s 32) (.s 33),
   .lds 35 (.s 34),
   .bi 36 .lss (.s 35) (.c (.int .u8 2)),
   .st 4 (.s 6) (.s 29),
   .mv 7 (.s 31),
   .mv 8 (.s 36)])
  .rt) .sk))
  (.sq (.rg [.mv 37 (.s 0),
   .mv 38 (.s 1),
   .ia 39 1 (.s 37) (.s 38),
   .lds 40 (.s 39),
   .cv 41 .i64 (.s 40),
   .mv 10 (.s 41)])
  (.sq (.rg [.mv 11 (.c (.bool false))])
  (.sq (.sq (.rg [.fa 42 (.s 5) 0,
   .lds 43 (.s 42),
   .bi 44 .eql (.s 43) (.c (.int .i64 1)),
   .mv 45 (.s 44),
   .gd 45 true 46 (.mv 46 (.s 10)),
   .gd 45 true 47 (.bi 47 .quo (.s 46) (.c (.int .i64 16))),
   .gd 45 true 48 (.bi 48 .rem (.s 47) (.c (.int .i64 2))),
   .gd 45 true 49 (.bi 49 .eql (.s 48) (.c (.int .i64 1))),
   .pk 50 (.s 45) (.s 49) (.c (.bool false))])
  (.cd (.s 50) (.sq (.rg [.mv 11 (.c (.bool true))])
  (.rg [.mv 51 (.s 10),
   .bi 52 .sub (.s 51) (.c (.int .i64 16)),
   .mv 10 (.s 52)])) .sk))
  (.sq (.sq (.rg [.mv 53 (.s 10),
   .bi 54 .gtr (.s 53) (.c (.int .i64 8)),
   .mv 55 (.s 54),
   .gd 55 false 56 (.mv 56 (.s 10)),
   .gd 55 false 57 (.mv 57 (.s 0)),
   .gd 55 false 58 (.ln 58 (.s 57)),
   .gd 55 false 59 (.mv 59 (.s 1)),
   .gd 55 false 60 (.bi 60 .sub (.s 58) (.s 59)),
   .gd 55 false 61 (.bi 61 .sub (.s 60) (.c (.int .i64 1))),
   .gd 55 false 62 (.bi 62 .gtr (.s 56) (.s 61)),
   .pk 63 (.s 55) (.c (.bool true)) (.s 62),
   .mv 64 (.s 63),
   .gd 64 false 65 (.mv 65 (.s 10)),
   .gd 64 false 66 (.bi 66 .gtr (.s 65) (.c (.int .i64 0))),
   .gd 64 false 67 (.mv 67 (.s 66)),
   .gd 67 true 68 (.mv 68 (.s 0)),
   .gd 67 true 69 (.mv 69 (.s 1)),
   .gd 67 true 70 (.bi 70 .add (.s 69) (.c (.int .i64 1))),
   .gd 67 true 71 (.ia 71 1 (.s 68) (.s 70)),
   .gd 67 true 72 (.lds 72 (.s 71)),
   .gd 67 true 73 (.bi 73 .eql (.s 72) (.c (.int .u8 0))),
   .gd 64 false 74 (.pk 74 (.s 67) (.s 73) (.c (.bool false))),
   .pk 75 (.s 64) (.c (.bool true)) (.s 74)])
  (.cd (.s 75) (.sq (.rg [.lda 76 4 (.s 9),
   .st 4 (.s 6) (.s 76),
   .mv 7 (.c (.int .i64 0)),
   .mv 8 (.c (.bool false))])
  .rt) .sk))
  (.sq (.rg [.mv 12 (.c (.int .u64 0))])
  (.sq (.sq (.rg [.mv 13 (.c (.int .i64 0))])
  (.bl 0 (.lp (.sq (.sq (.rg [.mv 77 (.s 13),
   .mv 78 (.s 10),
   .bi 79 .lss (.s 77) (.s 78)])
  (.cd (.s 79) .sk (.ex 0)))
  (.sq (.bl 1 (.rg [.mv 82 (.s 12),
   .bi 83 .mul (.c (.int .u64 256)) (.s 82),
   .mv 84 (.s 0),
   .mv 85 (.s 1),
   .bi 86 .add (.s 85) (.c (.int .i64 1)),
   .mv 87 (.s 13),
   .bi 88 .add (.s 86) (.s 87),
   .ia 89 1 (.s 84) (.s 88),
   .lds 90 (.s 89),
   .cv 91 .u64 (.s 90),
   .bi 92 .add (.s 83) (.s 91),
   .mv 12 (.s 92)]))
  (.rg [.mv 80 (.s 13),
   .bi 81 .add (.s 80) (.c (.int .i64 1)),
   .mv 13 (.s 81)]))))))
  (.sq (.rg [.mv 93 (.s 1),
   .bi 94 .add (.s 93) (.c (.int .i64 1)),
   .mv 95 (.s 10),
   .bi 96 .add (.s 94) (.s 95),
   .mv 14 (.s 96)])
  (.sq (.sq (.rg [.fa 97 (.s 5) 0,
   .lds 98 (.s 97)])
  (.bl 2 (.sq (.rg [.bi 100 .eql (.s 98) (.c (.int .i64 0)),
   .mv 99 (.s 100)])
  (.cd (.s 99) (.sq (.rg [.mv 101 (.s 12),
   .bd 102 [(.int .u64 0), (.int .i64 0), (.str []), (.bool false)] [(0, 1, (.s 101))],
   .mv 103 (.s 14),
   .st 4 (.s 6) (.s 102),
   .mv 7 (.s 103),
   .mv 8 (.c (.bool true))])
  .rt) (.sq (.rg [.bi 105 .eql (.s 98) (.c (.int .i64 1)),
   .mv 104 (.s 105)])
  (.cd (.s 104) (.sq (.sq (.rg [.mv 106 (.s 11)])
  (.cd (.s 106) (.sq (.rg [.mv 107 (.s 12),
   .bi 108 .sub (.c (.int .u64 0)) (.s 107),
   .cv 109 .i64 (.s 108),
   .bd 110 [(.int .u64 0), (.int .i64 0), (.str []), (.bool false)] [(1, 1, (.s 109))],
   .mv 111 (.s 14),
   .mv 112 (.s 12),
   .bi 113 .gtr (.s 112) (.c (.int .u64 0)),
   .mv 114 (.s 113),
   .gd 114 true 115 (.mv 115 (.s 12)),
   .gd 114 true 116 (.bi 116 .leq (.s 115) (.c (.int .u64 9223372036854775808))),
   .pk 117 (.s 114) (.s 116) (.c (.bool false)),
   .st 4 (.s 6) (.s 110),
   .mv 7 (.s 111),
   .mv 8 (.s 117)])
  .rt) .sk))
  (.sq (.rg [.mv 118 (.s 12),
   .cv 119 .i64 (.s 118),
   .bd 120 [(.int .u64 0), (.int .i64 0), (.str []), (.bool false)] [(1, 1, (.s 119))],
   .mv 121 (.s 14),
   .mv 122 (.s 12),
   .bi 123 .leq (.s 122) (.c (.int .u64 9223372036854775807)),
   .st 4 (.s 6) (.s 120),
   .mv 7 (.s 121),
   .mv 8 (.s 123)])
  .rt)) .sk))))))
  (.sq (.sq (.rg [.fa 124 (.s 5) 1,
   .lds 125 (.s 124),
   .bi 126 .lss (.s 125) (.c (.int .i64 0)),
   .mv 127 (.s 126),
   .gd 127 false 128 (.mv 128 (.s 12)),
   .gd 127 false 129 (.fa 129 (.s 5) 1),
   .gd 127 false 130 (.lds 130 (.s 129)),
   .gd 127 false 131 (.cv 131 .u64 (.s 130)),
   .gd 127 false 132 (.bi 132 .gtr (.s 128) (.s 131)),
   .pk 133 (.s 127) (.c (.bool true)) (.s 132)])
  (.cd (.s 133) (.sq (.rg [.lda 134 4 (.s 9),
   .st 4 (.s 6) (.s 134),
   .mv 7 (.c (.int .i64 0)),
   .mv 8 (.c (.bool false))])
  .rt) .sk))
  (.sq (.sq (.rg [.fa 135 (.s 5) 0,
   .lds 136 (.s 135),
   .bi 137 .eql (.s 136) (.c (.int .i64 4))])
  (.cd (.s 137) (.sq (.rg [.mv 138 (.s 12),
   .bd 139 [(.int .u64 0), (.int .i64 0), (.str []), (.bool false)] [(0, 1, (.s 138))],
   .mv 140 (.s 14),
   .st 4 (.s 6) (.s 139),
   .mv 7 (.s 140),
   .mv 8 (.c (.bool true))])
  .rt) .sk))
  (.sq (.sq (.rg [.mv 141 (.s 12),
   .mv 142 (.s 0),
   .ln 143 (.s 142),
   .mv 144 (.s 14),
   .bi 145 .sub (.s 143) (.s 144),
   .cv 146 .u64 (.s 145),
   .bi 147 .gtr (.s 141) (.s 146)])
  (.cd (.s 147) (.sq (.rg [.lda 148 4 (.s 9),
   .st 4 (.s 6) (.s 148),
   .mv 7 (.c (.int .i64 0)),
   .mv 8 (.c (.bool false))])
  .rt) .sk))
  (.sq (.rg [.mv 149 (.s 0),
   .mv 150 (.s 14),
   .mv 151 (.s 14),
   .mv 152 (.s 12),
   .cv 153 .i64 (.s 152),
   .bi 154 .add (.s 151) (.s 153),
   .slc 155 1 (.s 149) (some (.s 150)) (some (.s 154)),
   .b2s 156 (.s 155),
   .bd 157 [(.int .u64 0), (.int .i64 0), (.str []), (.bool false)] [(2, 1, (.s 156))],
   .mv 158 (.s 14),
   .mv 159 (.s 12),
   .cv 160 .i64 (.s 159),
   .bi 161 .add (.s 158) (.s 160),
   .st 4 (.s 6) (.s 157),
   .mv 7 (.s 161),
   .mv 8 (.c (.bool true))])
  .rt))))))))))))))))
def a53 : AF := ⟨c53, [.ca 6 4, .t 7, .t 8], 3, 162⟩
theorem m53 : mF Tryd.prog gl drD Tryd.f53 a53 = true := by kernel_rfl
theorem s53 {l : List AV} {r : AV} (hl : l.length = 3) (hi : idsL l = []) (h : wpA (SpH Tryd.prog gl) c53 (postA [.ca 6 4, .t 7, .t 8] r) ⟨initE 0 l, [], []⟩) : Sp Tryd.prog gl 53 l r :=
  @fun_sp Tryd.prog gl drD 53 Tryd.f53 a53 Tryd.func53 m53 (dok _) l r hl hi h
theorem h53 {d : Nat} {I : In} {O : Out} (hl : I.vs.length = 3) (h : wpA (SpH Tryd.prog gl) c53 (postH d [.ca 6 4, .t 7, .t 8] O) (inSt I)) : SpH Tryd.prog gl 53 d I O :=
  @fun_spH Tryd.prog gl drD 53 Tryd.f53 a53 Tryd.func53 m53 (dok _) d I O hl h
/-- firebell/bundle.Group -/
def c68 : AC :=
 (.sq (.rg [.mv 2 (.c .nils)])
  (.sq (.rg [.mv 3 (.s 0),
   .ca 4 106 none [(.s 3), (.c (.bool true))],
   .mv 5 (.s 0),
   .cl 6 106 [(.s 5), (.c (.bool false))],
   .ap 7 3 48 (.s 4) (.s 6),
   .mv 2 (.s 7)])
  .rt))
def a68 : AF := ⟨c68, [.t 2], 1, 8⟩
theorem m68 : mF Tryd.prog gl drD Tryd.f68 a68 = true := by kernel_rfl
theorem s68 {l : List AV} {r : AV} (hl : l.length = 1) (hi : idsL l = []) (h : wpA (SpH Tryd.prog gl) c68 (postA [.t 2] r) ⟨initE 0 l, [], []⟩) : Sp Tryd.prog gl 68 l r :=
  @fun_sp Tryd.prog gl drD 68 Tryd.f68 a68 Tryd.func68 m68 (dok _) l r hl hi h
theorem h68 {d : Nat} {I : In} {O : Out} (hl : I.vs.length = 1) (h : wpA (SpH Tryd.prog gl) c68 (postH d [.t 2] O) (inSt I)) : SpH Tryd.prog gl 68 d I O :=
  @fun_spH Tryd.prog gl drD 68 Tryd.f68 a68 Tryd.func68 m68 (dok _) d I O hl h
/-- firebell/bundle.head -/
def c70 : AC :=
 (.sq (.rg [.bx 1 (.s 0),
   .mv 2 (.c (.str []))])
  (.sq (.sq (.rg [.fa 3 (.s 1) 1,
   .lds 4 (.s 3)])
  (.cd (.s 4) (.sq (.rg [.fa 5 (.s 1) 0,
   .lds 6 (.s 5),
   .bi 7 .add (.c (.str [112, 97, 103, 101, 32])) (.s 6),
   .mv 2 (.s 7)])
  .rt) .sk))
  (.sq (.rg [.fa 8 (.s 1) 0,
   .lds 9 (.s 8),
   .bi 10 .add (.c (.str [116, 105, 99, 107, 101, 116, 32])) (.s 9),
   .mv 2 (.s 10)])
  .rt)))
def a70 : AF := ⟨c70, [.t 2], 1, 11⟩
theorem m70 : mF Tryd.prog gl drD Tryd.f70 a70 = true := by kernel_rfl
theorem s70 {l : List AV} {r : AV} (hl : l.length = 1) (hi : idsL l = []) (h : wpA (SpH Tryd.prog gl) c70 (postA [.t 2] r) ⟨initE 0 l, [], []⟩) : Sp Tryd.prog gl 70 l r :=
  @fun_sp Tryd.prog gl drD 70 Tryd.f70 a70 Tryd.func70 m70 (dok _) l r hl hi h
theorem h70 {d : Nat} {I : In} {O : Out} (hl : I.vs.length = 1) (h : wpA (SpH Tryd.prog gl) c70 (postH d [.t 2] O) (inSt I)) : SpH Tryd.prog gl 70 d I O :=
  @fun_spH Tryd.prog gl drD 70 Tryd.f70 a70 Tryd.func70 m70 (dok _) d I O hl h
/-- strings.CutSuffix -/
def c72 : AC :=
 (.sq (.rg [.mv 4 (.c (.str [])),
   .mv 5 (.c (.bool false))])
  (.sq (.rg [.mv 6 (.s 0),
   .mv 7 (.s 1),
   .cl 8 108 [(.s 6), (.s 7)],
   .exq 9 (.s 8) 0,
   .exq 10 (.s 8) 1,
   .mv 4 (.s 9),
   .mv 5 (.s 10)])
  .rt))
def a72 : AF := ⟨c72, [.t 4, .t 5], 2, 11⟩
theorem m72 : mF Tryd.prog gl drD Tryd.f72 a72 = true := by kernel_rfl
theorem s72 {l : List AV} {r : AV} (hl : l.length = 2) (hi : idsL l = []) (h : wpA (SpH Tryd.prog gl) c72 (postA [.t 4, .t 5] r) ⟨initE 0 l, [], []⟩) : Sp Tryd.prog gl 72 l r :=
  @fun_sp Tryd.prog gl drD 72 Tryd.f72 a72 Tryd.func72 m72 (dok _) l r hl hi h
theorem h72 {d : Nat} {I : In} {O : Out} (hl : I.vs.length = 2) (h : wpA (SpH Tryd.prog gl) c72 (postH d [.t 4, .t 5] O) (inSt I)) : SpH Tryd.prog gl 72 d I O :=
  @fun_spH Tryd.prog gl drD 72 Tryd.f72 a72 Tryd.func72 m72 (dok _) d I O hl h
/-- firebell/key.Read -/
def c75 : AC :=
 (.sq (.rg [.al 2 [(.str []), (.str []), (.bool false), (.int .u64 0), (.bool false)],
   .mv 3 (.c (.int .i64 0))])
  (.sq (.rg [.mv 4 (.c .nils)])
  (.sq (.rg [.mv 5 (.c (.int .i64 0))])
  (.sq (.sq (.rg [.mv 15 (.s 0),
   .rs 16 (.s 15)])
  (.bl 0 (.lp (.sq (.rg [.nx 17 (.s 16),
   .exq 18 (.s 17) 0])
  (.sq (.cd (.s 18) .sk (.ex 0))
  (.bl 1 (.sq (.rg [.exq 19 (.s 17) 1,
   .exq 20 (.s 17) 2,
   .mv 6 (.s 19),
   .mv 7 (.s 20)])
  (.sq (.rg [.mv 21 (.s 7),
   .bi 22 .eql (.s 21) (.c (.int .i32 47))])
  (.cd (.s 22) (.sq (.rg [.mo 23 4,
   .mv 24 (.s 0),
   .mv 25 (.s 5),
   .mv 26 (.s 6),
   .sls 27 (.s 24) (some (.s 25)) (some (.s 26)),
   .bs 28 1 [(.s 27)],
   .ap 29 1 16 (.s 23) (.s 28),
   .mo 4 29])
  (.rg [.mv 30 (.s 6),
   .bi 31 .add (.s 30) (.c (.int .i64 1)),
   .mv 5 (.s 31)])) .sk)))))))))
  (.sq (.rg [.mo 32 4,
   .mv 33 (.s 0),
   .mv 34 (.s 5),
   .sls 35 (.s 33) (some (.s 34)) none,
   .bs 36 1 [(.s 35)],
   .ap 37 1 16 (.s 32) (.s 36),
   .mo 4 37])
  (.sq (.sq (.rg [.mv 38 (.s 4),
   .ln 39 (.s 38),
   .bi 40 .neq (.s 39) (.c (.int .i64 5))])
  (.cd (.s 40) (.sq (.rg [.bd 41 [(.str []), (.str []), (.bool false), (.int .u64 0), (.bool false)] [],
   .st 5 (.s 2) (.s 41),
   .mv 3 (.c (.int .i64 5))])
  .rt) .sk))
  (.sq (.rg [.mv 43 (.s 4),
   .ia 44 1 (.s 43) (.c (.int .i64 3)),
   .lds 45 (.s 44),
   .cl 46 111 [(.s 45)],
   .mv 42 (.s 46),
   .exq 47 (.s 42) 0,
   .exq 48 (.s 42) 1,
   .al 8 [(.int .u64 0), (.int .u64 0)],
   .st 2 (.s 8) (.s 47),
   .mv 9 (.s 48)])
  (.sq (.rg [.mv 50 (.s 4),
   .ia 51 1 (.s 50) (.c (.int .i64 2)),
   .lds 52 (.s 51),
   .cl 53 112 [(.s 52), (.c (.str [112, 97, 103, 101])), (.c (.str [116, 105, 99, 107, 101, 116]))],
   .mv 49 (.s 53),
   .exq 54 (.s 49) 0,
   .exq 55 (.s 49) 1,
   .mv 10 (.s 54),
   .mv 11 (.s 55)])
  (.sq (.rg [.mv 57 (.s 4),
   .ia 58 1 (.s 57) (.c (.int .i64 4)),
   .lds 59 (.s 58),
   .cl 60 112 [(.s 59), (.c (.str [114, 101, 115, 111, 108, 118, 101])), (.c (.str [102, 105, 114, 101]))],
   .mv 56 (.s 60),
   .exq 61 (.s 56) 0,
   .exq 62 (.s 56) 1,
   .mv 12 (.s 61),
   .mv 13 (.s 62)])
  (.sq (.rd [[], [], [], [], [], [], [], [], [], [], [], [2, 5, 8], []] [.mv 63 (.s 4),
   .ia 64 1 (.s 63) (.c (.int .i64 0)),
   .lds 65 (.s 64),
   .mv 66 (.s 4),
   .ia 67 1 (.s 66) (.c (.int .i64 1)),
   .lds 68 (.s 67),
   .mv 69 (.s 10),
   .fa 70 (.s 8) 1,
   .lds 71 (.s 70),
   .mv 72 (.s 12),
   .bd 73 [(.str []), (.str []), (.bool false), (.int .u64 0), (.bool false)] [(0, 1, (.s 65)), (1, 1, (.s 68)), (2, 1, (.s 69)), (3, 1, (.s 71)), (4, 1, (.s 72))],
   .al 14 [(.str []), (.str []), (.bool false), (.int .u64 0), (.bool false)],
   .st 5 (.s 14) (.s 73)])
  (.sq (.sq (.rg [.mv 74 (.s 9),
   .bi 75 .neq (.s 74) (.c (.int .i64 0)),
   .mv 76 (.s 75),
   .gd 76 false 77 (.fa 77 (.s 8) 0),
   .gd 76 false 78 (.lds 78 (.s 77)),
   .gd 76 false 79 (.bi 79 .gtr (.s 78) (.c (.int .u64 0))),
   .pk 80 (.s 76) (.c (.bool true)) (.s 79),
   .mv 81 (.s 80),
   .gd 81 false 82 (.mv 82 (.s 11)),
   .gd 81 false 83 (.un 83 .not (.s 82)),
   .pk 84 (.s 81) (.c (.bool true)) (.s 83),
   .mv 85 (.s 84),
   .gd 85 false 86 (.mv 86 (.s 13)),
   .gd 85 false 87 (.un 87 .not (.s 86)),
   .pk 88 (.s 85) (.c (.bool true)) (.s 87),
   .mv 89 (.s 88),
   .gd 89 false 90 (.lda 90 5 (.s 14)),
   .gd 89 false 91 (.cl 91 47 [(.s 90)]),
   .gd 89 false 92 (.un 92 .not (.s 91)),
   .pk 93 (.s 89) (.c (.bool true)) (.s 92)])
  (.cd (.s 93) (.sq (.rg [.bd 94 [(.str []), (.str []), (.bool false), (.int .u64 0), (.bool false)] [],
   .st 5 (.s 2) (.s 94),
   .mv 3 (.c (.int .i64 5))])
  .rt) .sk))
  (.sq (.rg [.lda 95 5 (.s 14),
   .st 5 (.s 2) (.s 95),
   .mv 3 (.c (.int .i64 0))])
  .rt))))))))))))
def a75 : AF := ⟨c75, [.ca 2 5, .t 3], 1, 96⟩
theorem m75 : mF Tryd.prog gl drD Tryd.f75 a75 = true := by kernel_rfl
theorem s75 {l : List AV} {r : AV} (hl : l.length = 1) (hi : idsL l = []) (h : wpA (SpH Tryd.prog gl) c75 (postA [.ca 2 5, .t 3] r) ⟨initE 0 l, [], []⟩) : Sp Tryd.prog gl 75 l r :=
  @fun_sp Tryd.prog gl drD 75 Tryd.f75 a75 Tryd.func75 m75 (dok _) l r hl hi h
theorem h75 {d : Nat} {I : In} {O : Out} (hl : I.vs.length = 1) (h : wpA (SpH Tryd.prog gl) c75 (postH d [.ca 2 5, .t 3] O) (inSt I)) : SpH Tryd.prog gl 75 d I O :=
  @fun_spH Tryd.prog gl drD 75 Tryd.f75 a75 Tryd.func75 m75 (dok _) d I O hl h
/-- firebell/firebellref25.Read -/
def c76 : AC :=
 (.sq (.rg [.al 2 [(.str []), (.str []), (.bool false), (.int .u64 0), (.bool false)],
   .mv 3 (.c (.bool false))])
  (.sq (.rg [.bsm 9 1 [(.c (.str []))],
   .mv 4 (.s 9)])
  (.sq (.sq (.rg [.mv 5 (.c (.int .i64 0))])
  (.bl 0 (.lp (.sq (.sq (.rg [.mv 10 (.s 5),
   .mv 11 (.s 0),
   .lns 12 (.s 11),
   .bi 13 .lss (.s 10) (.s 12)])
  (.cd (.s 13) .sk (.ex 0)))
  (.sq (.bl 1 (.sq (.rg [.mv 16 (.s 0),
   .mv 17 (.s 5),
   .ixs 18 (.s 16) (.s 17),
   .bi 19 .eql (.s 18) (.c (.int .u8 47))])
  (.cd (.s 19) (.rg [.mo 20 4,
   .bsn 21 1 [(.c (.str []))],
   .apm 22 1 16 (.s 20) (.s 21),
   .mo 4 22]) (.rd [[], [], [], [], [], [], [], [], [], [], [], [], [], [], [], [], [], []] [.mv 23 (.s 4),
   .mv 24 (.s 4),
   .ln 25 (.s 24),
   .bi 26 .sub (.s 25) (.c (.int .i64 1)),
   .mv 27 (.s 4),
   .mv 28 (.s 4),
   .ln 29 (.s 28),
   .bi 30 .sub (.s 29) (.c (.int .i64 1)),
   .ia 31 1 (.s 27) (.s 30),
   .lds 32 (.s 31),
   .mv 33 (.s 0),
   .mv 34 (.s 5),
   .mv 35 (.s 5),
   .bi 36 .add (.s 35) (.c (.int .i64 1)),
   .sls 37 (.s 33) (some (.s 34)) (some (.s 36)),
   .bi 38 .add (.s 32) (.s 37),
   .ia 39 1 (.s 23) (.s 26),
   .st 1 (.s 39) (.s 38)]))))
  (.rg [.mv 14 (.s 5),
   .bi 15 .add (.s 14) (.c (.int .i64 1)),
   .mv 5 (.s 15)]))))))
  (.sq (.sq (.rg [.mv 40 (.s 4),
   .ln 41 (.s 40),
   .bi 42 .neq (.s 41) (.c (.int .i64 5))])
  (.cd (.s 42) (.sq (.rg [.bd 43 [(.str []), (.str []), (.bool false), (.int .u64 0), (.bool false)] [],
   .st 5 (.s 2) (.s 43),
   .mv 3 (.c (.bool false))])
  .rt) .sk))
  (.sq (.rg [.mv 45 (.s 4),
   .ia 46 1 (.s 45) (.c (.int .i64 3)),
   .lds 47 (.s 46),
   .cl 48 113 [(.s 47)],
   .mv 44 (.s 48),
   .exq 49 (.s 44) 0,
   .exq 50 (.s 44) 1,
   .al 6 [(.int .u64 0), (.int .u64 0)],
   .st 2 (.s 6) (.s 49),
   .mv 7 (.s 50)])
  (.sq (.rd [[], [], [], [], [], [], [], [], [], [], [], [], [], [], [], [], [], [2, 5, 8, 11, 14], []] [.mv 51 (.s 4),
   .ia 52 1 (.s 51) (.c (.int .i64 0)),
   .lds 53 (.s 52),
   .mv 54 (.s 4),
   .ia 55 1 (.s 54) (.c (.int .i64 1)),
   .lds 56 (.s 55),
   .mv 57 (.s 4),
   .ia 58 1 (.s 57) (.c (.int .i64 2)),
   .lds 59 (.s 58),
   .bi 60 .eql (.s 59) (.c (.str [112, 97, 103, 101])),
   .fa 61 (.s 6) 1,
   .lds 62 (.s 61),
   .mv 63 (.s 4),
   .ia 64 1 (.s 63) (.c (.int .i64 4)),
   .lds 65 (.s 64),
   .bi 66 .eql (.s 65) (.c (.str [114, 101, 115, 111, 108, 118, 101])),
   .bd 67 [(.str []), (.str []), (.bool false), (.int .u64 0), (.bool false)] [(0, 1, (.s 53)), (1, 1, (.s 56)), (2, 1, (.s 60)), (3, 1, (.s 62)), (4, 1, (.s 66))],
   .al 8 [(.str []), (.str []), (.bool false), (.int .u64 0), (.bool false)],
   .st 5 (.s 8) (.s 67)])
  (.sq (.sq (.rg [.fa 68 (.s 6) 0,
   .lds 69 (.s 68),
   .bi 70 .gtr (.s 69) (.c (.int .u64 0)),
   .mv 71 (.s 70),
   .gd 71 false 72 (.lda 72 5 (.s 8)),
   .gd 71 false 73 (.cl 73 14 [(.s 72)]),
   .gd 71 false 74 (.un 74 .not (.s 73)),
   .pk 75 (.s 71) (.c (.bool true)) (.s 74),
   .mv 76 (.s 75),
   .gd 76 false 77 (.lda 77 5 (.s 8)),
   .gd 76 false 78 (.cl 78 80 [(.s 77)]),
   .gd 76 false 79 (.mv 79 (.s 0)),
   .gd 76 false 80 (.bi 80 .neq (.s 78) (.s 79)),
   .pk 81 (.s 76) (.c (.bool true)) (.s 80)])
  (.cd (.s 81) (.sq (.rg [.bd 82 [(.str []), (.str []), (.bool false), (.int .u64 0), (.bool false)] [],
   .st 5 (.s 2) (.s 82),
   .mv 3 (.c (.bool false))])
  .rt) .sk))
  (.sq (.rg [.lda 83 5 (.s 8),
   .st 5 (.s 2) (.s 83),
   .mv 3 (.c (.bool true))])
  .rt))))))))
def a76 : AF := ⟨c76, [.ca 2 5, .t 3], 1, 84⟩
theorem m76 : mF Tryd.prog gl drD Tryd.f76 a76 = true := by kernel_rfl
theorem s76 {l : List AV} {r : AV} (hl : l.length = 1) (hi : idsL l = []) (h : wpA (SpH Tryd.prog gl) c76 (postA [.ca 2 5, .t 3] r) ⟨initE 0 l, [], []⟩) : Sp Tryd.prog gl 76 l r :=
  @fun_sp Tryd.prog gl drD 76 Tryd.f76 a76 Tryd.func76 m76 (dok _) l r hl hi h
theorem h76 {d : Nat} {I : In} {O : Out} (hl : I.vs.length = 1) (h : wpA (SpH Tryd.prog gl) c76 (postH d [.ca 2 5, .t 3] O) (inSt I)) : SpH Tryd.prog gl 76 d I O :=
  @fun_spH Tryd.prog gl drD 76 Tryd.f76 a76 Tryd.func76 m76 (dok _) d I O hl h
/-- slices.Index[[]firebell/api.Key,firebell/api.Key] -/
def c77 : AC :=
 (.sq (.rg [.bx 3 (.s 1),
   .mv 4 (.c (.int .i64 0))])
  (.sq (.sq (.rg [.mv 6 (.s 0),
   .ln 7 (.s 6),
   .mv 8 (.c (.int .i64 0))])
  (.bl 0 (.lp (.sq (.rg [.bi 9 .lss (.s 8) (.s 7)])
  (.sq (.cd (.s 9) .sk (.ex 0))
  (.sq (.bl 1 (.sq (.rg [.mv 10 (.s 8),
   .mv 5 (.s 10)])
  (.sq (.rd [[], [], [], [], [], []] [.lda 11 5 (.s 3),
   .mv 12 (.s 0),
   .mv 13 (.s 5),
   .ia 14 5 (.s 12) (.s 13),
   .lda 15 5 (.s 14),
   .ea 16 false [.s, .s, .b, .i, .b] (.s 11) (.s 15)])
  (.cd (.s 16) (.sq (.rg [.mv 17 (.s 5),
   .mv 4 (.s 17)])
  .rt) .sk))))
  (.rg [.bi 18 .add (.s 8) (.c (.int .i64 1)),
   .mv 8 (.s 18)])))))))
  (.sq (.rg [.mv 4 (.c (.int .i64 (-1)))])
  .rt)))
def a77 : AF := ⟨c77, [.t 4], 2, 19⟩
theorem m77 : mF Tryd.prog gl drD Tryd.f77 a77 = true := by kernel_rfl
theorem s77 {l : List AV} {r : AV} (hl : l.length = 2) (hi : idsL l = []) (h : wpA (SpH Tryd.prog gl) c77 (postA [.t 4] r) ⟨initE 0 l, [], []⟩) : Sp Tryd.prog gl 77 l r :=
  @fun_sp Tryd.prog gl drD 77 Tryd.f77 a77 Tryd.func77 m77 (dok _) l r hl hi h
theorem h77 {d : Nat} {I : In} {O : Out} (hl : I.vs.length = 2) (h : wpA (SpH Tryd.prog gl) c77 (postH d [.t 4] O) (inSt I)) : SpH Tryd.prog gl 77 d I O :=
  @fun_spH Tryd.prog gl drD 77 Tryd.f77 a77 Tryd.func77 m77 (dok _) d I O hl h
/-- firebell/firebellref25.Has -/
def c78 : AC :=
 (.sq (.rg [.bx 3 (.s 1),
   .mv 4 (.c (.bool false))])
  (.sq (.sq (.rg [.mv 5 (.c (.int .i64 0))])
  (.bl 0 (.lp (.sq (.sq (.rg [.mv 6 (.s 5),
   .mv 7 (.s 0),
   .ln 8 (.s 7),
   .bi 9 .lss (.s 6) (.s 8)])
  (.cd (.s 9) .sk (.ex 0)))
  (.sq (.bl 1 (.sq (.rd [[], [], [], [], [], []] [.mv 12 (.s 0),
   .mv 13 (.s 5),
   .ia 14 5 (.s 12) (.s 13),
   .lda 15 5 (.s 14),
   .lda 16 5 (.s 3),
   .ea 17 false [.s, .s, .b, .i, .b] (.s 15) (.s 16)])
  (.cd (.s 17) (.sq (.rg [.mv 4 (.c (.bool true))])
  .rt) .sk)))
  (.rg [.mv 10 (.s 5),
   .bi 11 .add (.s 10) (.c (.int .i64 1)),
   .mv 5 (.s 11)]))))))
  (.sq (.rg [.mv 4 (.c (.bool false))])
  .rt)))
def a78 : AF := ⟨c78, [.t 4], 2, 18⟩
theorem m78 : mF Tryd.prog gl drD Tryd.f78 a78 = true := by kernel_rfl
theorem s78 {l : List AV} {r : AV} (hl : l.length = 2) (hi : idsL l = []) (h : wpA (SpH Tryd.prog gl) c78 (postA [.t 4] r) ⟨initE 0 l, [], []⟩) : Sp Tryd.prog gl 78 l r :=
  @fun_sp Tryd.prog gl drD 78 Tryd.f78 a78 Tryd.func78 m78 (dok _) l r hl hi h
theorem h78 {d : Nat} {I : In} {O : Out} (hl : I.vs.length = 2) (h : wpA (SpH Tryd.prog gl) c78 (postH d [.t 4] O) (inSt I)) : SpH Tryd.prog gl 78 d I O :=
  @fun_spH Tryd.prog gl drD 78 Tryd.f78 a78 Tryd.func78 m78 (dok _) d I O hl h
/-- firebell/firebellref25.Same -/
def c79 : AC :=
 (.sq (.rg [.mv 4 (.c (.bool false))])
  (.sq (.sq (.rg [.mv 6 (.s 0),
   .ln 7 (.s 6),
   .mv 8 (.s 1),
   .ln 9 (.s 8),
   .bi 10 .neq (.s 7) (.s 9)])
  (.cd (.s 10) (.sq (.rg [.mv 4 (.c (.bool false))])
  .rt) .sk))
  (.sq (.sq (.rg [.mv 5 (.c (.int .i64 0))])
  (.bl 0 (.lp (.sq (.sq (.rg [.mv 11 (.s 5),
   .mv 12 (.s 0),
   .ln 13 (.s 12),
   .bi 14 .lss (.s 11) (.s 13)])
  (.cd (.s 14) .sk (.ex 0)))
  (.sq (.bl 1 (.sq (.rd [[], [], [], [], [], [], [], [], []] [.mv 17 (.s 0),
   .mv 18 (.s 5),
   .ia 19 5 (.s 17) (.s 18),
   .lda 20 5 (.s 19),
   .mv 21 (.s 1),
   .mv 22 (.s 5),
   .ia 23 5 (.s 21) (.s 22),
   .lda 24 5 (.s 23),
   .ea 25 true [.s, .s, .b, .i, .b] (.s 20) (.s 24)])
  (.cd (.s 25) (.sq (.rg [.mv 4 (.c (.bool false))])
  .rt) .sk)))
  (.rg [.mv 15 (.s 5),
   .bi 16 .add (.s 15) (.c (.int .i64 1)),
   .mv 5 (.s 16)]))))))
  (.sq (.rg [.mv 4 (.c (.bool true))])
  .rt))))
def a79 : AF := ⟨c79, [.t 4], 2, 26⟩
theorem m79 : mF Tryd.prog gl drD Tryd.f79 a79 = true := by kernel_rfl
theorem s79 {l : List AV} {r : AV} (hl : l.length = 2) (hi : idsL l = []) (h : wpA (SpH Tryd.prog gl) c79 (postA [.t 4] r) ⟨initE 0 l, [], []⟩) : Sp Tryd.prog gl 79 l r :=
  @fun_sp Tryd.prog gl drD 79 Tryd.f79 a79 Tryd.func79 m79 (dok _) l r hl hi h
theorem h79 {d : Nat} {I : In} {O : Out} (hl : I.vs.length = 2) (h : wpA (SpH Tryd.prog gl) c79 (postH d [.t 4] O) (inSt I)) : SpH Tryd.prog gl 79 d I O :=
  @fun_spH Tryd.prog gl drD 79 Tryd.f79 a79 Tryd.func79 m79 (dok _) d I O hl h
/-- firebell/firebellref25.Print -/
def c80 : AC :=
 (.sq (.rg [.bx 1 (.s 0),
   .mv 2 (.c (.str []))])
  (.sq (.sq (.rg [.lda 4 5 (.s 1),
   .cl 5 14 [(.s 4)],
   .un 6 .not (.s 5)])
  (.cd (.s 6) (.sq (.rg [.mv 2 (.c (.str [63]))])
  .rt) .sk))
  (.sq (.rg [.fa 7 (.s 1) 0,
   .lds 8 (.s 7),
   .bi 9 .add (.s 8) (.c (.str [47])),
   .fa 10 (.s 1) 1,
   .lds 11 (.s 10),
   .bi 12 .add (.s 9) (.s 11),
   .mv 3 (.s 12)])
  (.sq (.sq (.rg [.fa 13 (.s 1) 2,
   .lds 14 (.s 13)])
  (.cd (.s 14) (.rg [.mv 15 (.s 3),
   .bi 16 .add (.s 15) (.c (.str [47, 112, 97, 103, 101, 47])),
   .mv 3 (.s 16)]) (.rg [.mv 17 (.s 3),
   .bi 18 .add (.s 17) (.c (.str [47, 116, 105, 99, 107, 101, 116, 47])),
   .mv 3 (.s 18)])))
  (.sq (.rg [.mv 19 (.s 3),
   .fa 20 (.s 1) 3,
   .lds 21 (.s 20),
   .cl 22 114 [(.s 21)],
   .bi 23 .add (.s 19) (.s 22),
   .mv 3 (.s 23)])
  (.sq (.sq (.rg [.fa 24 (.s 1) 4,
   .lds 25 (.s 24)])
  (.cd (.s 25) (.sq (.rg [.mv 26 (.s 3),
   .bi 27 .add (.s 26) (.c (.str [47, 114, 101, 115, 111, 108, 118, 101])),
   .mv 2 (.s 27)])
  .rt) .sk))
  (.sq (.rg [.mv 28 (.s 3),
   .bi 29 .add (.s 28) (.c (.str [47, 102, 105, 114, 101])),
   .mv 2 (.s 29)])
  .rt)))))))
def a80 : AF := ⟨c80, [.t 2], 1, 30⟩
theorem m80 : mF Tryd.prog gl drD Tryd.f80 a80 = true := by kernel_rfl
theorem s80 {l : List AV} {r : AV} (hl : l.length = 1) (hi : idsL l = []) (h : wpA (SpH Tryd.prog gl) c80 (postA [.t 2] r) ⟨initE 0 l, [], []⟩) : Sp Tryd.prog gl 80 l r :=
  @fun_sp Tryd.prog gl drD 80 Tryd.f80 a80 Tryd.func80 m80 (dok _) l r hl hi h
theorem h80 {d : Nat} {I : In} {O : Out} (hl : I.vs.length = 1) (h : wpA (SpH Tryd.prog gl) c80 (postH d [.t 2] O) (inSt I)) : SpH Tryd.prog gl 80 d I O :=
  @fun_spH Tryd.prog gl drD 80 Tryd.f80 a80 Tryd.func80 m80 (dok _) d I O hl h
/-- firebell/key.either -/
def c82 : AC :=
 (.sq (.rg [.mv 6 (.c (.str []))])
  (.sq (.sq (.rg [.mv 7 (.s 0)])
  (.cd (.s 7) (.sq (.rg [.mv 8 (.s 1),
   .mv 6 (.s 8)])
  .rt) .sk))
  (.sq (.rg [.mv 9 (.s 2),
   .mv 6 (.s 9)])
  .rt)))
def a82 : AF := ⟨c82, [.t 6], 3, 10⟩
theorem m82 : mF Tryd.prog gl drD Tryd.f82 a82 = true := by kernel_rfl
theorem s82 {l : List AV} {r : AV} (hl : l.length = 3) (hi : idsL l = []) (h : wpA (SpH Tryd.prog gl) c82 (postA [.t 6] r) ⟨initE 0 l, [], []⟩) : Sp Tryd.prog gl 82 l r :=
  @fun_sp Tryd.prog gl drD 82 Tryd.f82 a82 Tryd.func82 m82 (dok _) l r hl hi h
theorem h82 {d : Nat} {I : In} {O : Out} (hl : I.vs.length = 3) (h : wpA (SpH Tryd.prog gl) c82 (postH d [.t 6] O) (inSt I)) : SpH Tryd.prog gl 82 d I O :=
  @fun_spH Tryd.prog gl drD 82 Tryd.f82 a82 Tryd.func82 m82 (dok _) d I O hl h
/-- strconv.FormatUint -/
def c83 : AC :=
 (.sq (.rg [.mv 4 (.c (.str []))])
  (.sq (.rg [.mv 5 (.s 0),
   .mv 6 (.s 1),
   .cl 7 116 [(.s 5), (.s 6)],
   .mv 4 (.s 7)])
  .rt))
def a83 : AF := ⟨c83, [.t 4], 2, 8⟩
theorem m83 : mF Tryd.prog gl drD Tryd.f83 a83 = true := by kernel_rfl
theorem s83 {l : List AV} {r : AV} (hl : l.length = 2) (hi : idsL l = []) (h : wpA (SpH Tryd.prog gl) c83 (postA [.t 4] r) ⟨initE 0 l, [], []⟩) : Sp Tryd.prog gl 83 l r :=
  @fun_sp Tryd.prog gl drD 83 Tryd.f83 a83 Tryd.func83 m83 (dok _) l r hl hi h
theorem h83 {d : Nat} {I : In} {O : Out} (hl : I.vs.length = 2) (h : wpA (SpH Tryd.prog gl) c83 (postH d [.t 4] O) (inSt I)) : SpH Tryd.prog gl 83 d I O :=
  @fun_spH Tryd.prog gl drD 83 Tryd.f83 a83 Tryd.func83 m83 (dok _) d I O hl h
/-- firebell/text.Name -/
def c88 : AC :=
 (.sq (.rg [.mv 2 (.c (.bool false))])
  (.sq (.rg [.mv 3 (.c (.int .i64 0))])
  (.sq (.rg [.mv 4 (.c (.int .i32 32))])
  (.sq (.sq (.rg [.mv 8 (.s 0),
   .rs 9 (.s 8)])
  (.bl 0 (.lp (.sq (.rg [.nx 10 (.s 9),
   .exq 11 (.s 10) 0])
  (.sq (.cd (.s 11) .sk (.ex 0))
  (.bl 1 (.sq (.rg [.exq 12 (.s 10) 1,
   .exq 13 (.s 10) 2,
   .mv 5 (.s 12),
   .mv 6 (.s 13)])
  (.sq (.rg [.mv 14 (.s 6),
   .cl 15 118 [(.s 14)],
   .mv 16 (.s 15),
   .gd 16 false 17 (.mv 17 (.s 5)),
   .gd 16 false 18 (.bi 18 .gtr (.s 17) (.c (.int .i64 0))),
   .gd 16 false 19 (.mv 19 (.s 18)),
   .gd 19 true 20 (.mv 20 (.s 6)),
   .gd 19 true 21 (.cl 21 119 [(.s 20)]),
   .gd 19 true 22 (.mv 22 (.s 21)),
   .gd 22 false 23 (.mv 23 (.s 6)),
   .gd 22 false 24 (.bi 24 .eql (.s 23) (.c (.int .i32 95))),
   .gd 19 true 25 (.pk 25 (.s 22) (.c (.bool true)) (.s 24)),
   .gd 19 true 26 (.mv 26 (.s 25)),
   .gd 26 false 27 (.mv 27 (.s 6)),
   .gd 26 false 28 (.bi 28 .eql (.s 27) (.c (.int .i32 45))),
   .gd 19 true 29 (.pk 29 (.s 26) (.c (.bool true)) (.s 28)),
   .gd 16 false 30 (.pk 30 (.s 19) (.s 29) (.c (.bool false))),
   .pk 31 (.s 16) (.c (.bool true)) (.s 30),
   .mv 7 (.s 31)])
  (.sq (.sq (.rg [.mv 32 (.s 7),
   .un 33 .not (.s 32)])
  (.cd (.s 33) (.sq (.rg [.mv 2 (.c (.bool false))])
  .rt) .sk))
  (.rg [.mv 34 (.s 3),
   .bi 35 .add (.s 34) (.c (.int .i64 1)),
   .mv 36 (.s 6),
   .mv 3 (.s 35),
   .mv 4 (.s 36)]))))))))))
  (.sq (.rg [.mv 37 (.s 3),
   .bi 38 .gtr (.s 37) (.c (.int .i64 0)),
   .mv 39 (.s 38),
   .gd 39 true 40 (.mv 40 (.s 3)),
   .gd 39 true 41 (.bi 41 .leq (.s 40) (.c (.int .i64 24))),
   .pk 42 (.s 39) (.s 41) (.c (.bool false)),
   .mv 43 (.s 42),
   .gd 43 true 44 (.mv 44 (.s 4)),
   .gd 43 true 45 (.cl 45 118 [(.s 44)]),
   .gd 43 true 46 (.mv 46 (.s 45)),
   .gd 46 false 47 (.mv 47 (.s 4)),
   .gd 46 false 48 (.cl 48 119 [(.s 47)]),
   .gd 43 true 49 (.pk 49 (.s 46) (.c (.bool true)) (.s 48)),
   .pk 50 (.s 43) (.s 49) (.c (.bool false)),
   .mv 2 (.s 50)])
  .rt)))))
def a88 : AF := ⟨c88, [.t 2], 1, 51⟩
theorem m88 : mF Tryd.prog gl drD Tryd.f88 a88 = true := by kernel_rfl
theorem s88 {l : List AV} {r : AV} (hl : l.length = 1) (hi : idsL l = []) (h : wpA (SpH Tryd.prog gl) c88 (postA [.t 2] r) ⟨initE 0 l, [], []⟩) : Sp Tryd.prog gl 88 l r :=
  @fun_sp Tryd.prog gl drD 88 Tryd.f88 a88 Tryd.func88 m88 (dok _) l r hl hi h
theorem h88 {d : Nat} {I : In} {O : Out} (hl : I.vs.length = 1) (h : wpA (SpH Tryd.prog gl) c88 (postH d [.t 2] O) (inSt I)) : SpH Tryd.prog gl 88 d I O :=
  @fun_spH Tryd.prog gl drD 88 Tryd.f88 a88 Tryd.func88 m88 (dok _) d I O hl h
/-- firebell/firebellref06.Runes -/
def c89 : AC :=
 (.sq (.rg [.mv 2 (.c .nils)])
  (.sq (.rg [.bs 10 1 [],
   .mo 3 10])
  (.sq (.rg [.mv 4 (.c (.int .i64 0))])
  (.sq (.bl 0 (.lp (.sq (.sq (.rg [.mv 11 (.s 4),
   .mv 12 (.s 0),
   .lns 13 (.s 12),
   .bi 14 .lss (.s 11) (.s 13)])
  (.cd (.s 14) .sk (.ex 0)))
  (.bl 1 (.sq (.rg [.mv 15 (.s 0),
   .mv 16 (.s 4),
   .ixs 17 (.s 15) (.s 16),
   .cv 18 .i32 (.s 17),
   .mv 5 (.s 18)])
  (.sq (.rg [.mv 6 (.c (.int .i64 0))])
  (.sq (.rg [.mv 7 (.c (.int .i32 0))])
  (.sq (.bl 2 (.sq (.rg [.mv 20 (.s 5),
   .bi 21 .lss (.s 20) (.c (.int .i32 128)),
   .mv 19 (.s 21)])
  (.cd (.s 19) (.sq (.rg [.mo 22 3,
   .mv 23 (.s 5),
   .bs 24 1 [(.s 23)],
   .ap 25 1 4 (.s 22) (.s 24),
   .mo 3 25])
  (.sq (.rg [.mv 26 (.s 4),
   .bi 27 .add (.s 26) (.c (.int .i64 1)),
   .mv 4 (.s 27)])
  (.ex 1))) (.sq (.rg [.mv 29 (.s 5),
   .bi 30 .geq (.s 29) (.c (.int .i32 192)),
   .mv 31 (.s 30),
   .gd 31 true 32 (.mv 32 (.s 5)),
   .gd 31 true 33 (.bi 33 .lss (.s 32) (.c (.int .i32 224))),
   .pk 34 (.s 31) (.s 33) (.c (.bool false)),
   .mv 28 (.s 34)])
  (.cd (.s 28) (.sq (.rg [.mv 6 (.c (.int .i64 1))])
  (.sq (.rg [.mv 35 (.s 5),
   .bi 36 .sub (.s 35) (.c (.int .i32 192)),
   .mv 5 (.s 36)])
  (.rg [.mv 7 (.c (.int .i32 128))]))) (.sq (.rg [.mv 38 (.s 5),
   .bi 39 .geq (.s 38) (.c (.int .i32 224)),
   .mv 40 (.s 39),
   .gd 40 true 41 (.mv 41 (.s 5)),
   .gd 40 true 42 (.bi 42 .lss (.s 41) (.c (.int .i32 240))),
   .pk 43 (.s 40) (.s 42) (.c (.bool false)),
   .mv 37 (.s 43)])
  (.cd (.s 37) (.sq (.rg [.mv 6 (.c (.int .i64 2))])
  (.sq (.rg [.mv 44 (.s 5),
   .bi 45 .sub (.s 44) (.c (.int .i32 224)),
   .mv 5 (.s 45)])
  (.rg [.mv 7 (.c (.int .i32 2048))]))) (.sq (.rg [.mv 47 (.s 5),
   .bi 48 .geq (.s 47) (.c (.int .i32 240)),
   .mv 49 (.s 48),
   .gd 49 true 50 (.mv 50 (.s 5)),
   .gd 49 true 51 (.bi 51 .lss (.s 50) (.c (.int .i32 248))),
   .pk 52 (.s 49) (.s 51) (.c (.bool false)),
   .mv 46 (.s 52)])
  (.cd (.s 46) (.sq (.rg [.mv 6 (.c (.int .i64 3))])
  (.sq (.rg [.mv 53 (.s 5),
   .bi 54 .sub (.s 53) (.c (.int .i32 240)),
   .mv 5 (.s 54)])
  (.rg [.mv 7 (.c (.int .i32 65536))]))) .sk)))))))))
  (.sq (.rg [.mv 55 (.s 6),
   .bi 56 .gtr (.s 55) (.c (.int .i64 0)),
   .mv 8 (.s 56)])
  (.sq (.sq (.rg [.mv 9 (.c (.int .i64 1))])
  (.bl 3 (.lp (.sq (.sq (.rg [.mv 57 (.s 9),
   .mv 58 (.s 6),
   .bi 59 .leq (.s 57) (.s 58)])
  (.cd (.s 59) .sk (.ex 3)))
  (.sq (.bl 4 (.sq (.sq (.rg [.mv 62 (.s 4),
   .mv 63 (.s 9),
   .bi 64 .add (.s 62) (.s 63),
   .mv 65 (.s 0),
   .lns 66 (.s 65),
   .bi 67 .geq (.s 64) (.s 66),
   .mv 68 (.s 67),
   .gd 68 false 69 (.mv 69 (.s 0)),
   .gd 68 false 70 (.mv 70 (.s 4)),
   .gd 68 false 71 (.mv 71 (.s 9)),
   .gd 68 false 72 (.bi 72 .add (.s 70) (.s 71)),
   .gd 68 false 73 (.ixs 73 (.s 69) (.s 72)),
   .gd 68 false 74 (.bi 74 .lss (.s 73) (.c (.int .u8 128))),
   .pk 75 (.s 68) (.c (.bool true)) (.s 74),
   .mv 76 (.s 75),
   .gd 76 false 77 (.mv 77 (.s 0)),
   .gd 76 false 78 (.mv 78 (.s 4)),
   .gd 76 false 79 (.mv 79 (.s 9)),
   .gd 76 false 80 (.bi 80 .add (.s 78) (.s 79)),
   .gd 76 false 81 (.ixs 81 (.s 77) (.s 80)),
   .gd 76 false 82 (.bi 82 .gtr (.s 81) (.c (.int .u8 191))),
   .pk 83 (.s 76) (.c (.bool true)) (.s 82)])
  (.cd (.s 83) (.sq (.rg [.mv 8 (.c (.bool false))])
  (.ex 3)) .sk))
  (.rg [.mv 84 (.s 5),
   .bi 85 .mul (.c (.int .i32 64)) (.s 84),
   .mv 86 (.s 0),
   .mv 87 (.s 4),
   .mv 88 (.s 9),
   .bi 89 .add (.s 87) (.s 88),
   .ixs 90 (.s 86) (.s 89),
   .cv 91 .i32 (.s 90),
   .bi 92 .add (.s 85) (.s 91),
   .bi 93 .sub (.s 92) (.c (.int .i32 128)),
   .mv 5 (.s 93)])))
  (.rg [.mv 60 (.s 9),
   .bi 61 .add (.s 60) (.c (.int .i64 1)),
   .mv 9 (.s 61)]))))))
  (.sq (.sq (.rg [.mv 94 (.s 8),
   .un 95 .not (.s 94),
   .mv 96 (.s 95),
   .gd 96 false 97 (.mv 97 (.s 5)),
   .gd 96 false 98 (.mv 98 (.s 7)),
   .gd 96 false 99 (.bi 99 .lss (.s 97) (.s 98)),
   .pk 100 (.s 96) (.c (.bool true)) (.s 99),
   .mv 101 (.s 100),
   .gd 101 false 102 (.mv 102 (.s 5)),
   .gd 101 false 103 (.bi 103 .gtr (.s 102) (.c (.int .i32 1114111))),
   .pk 104 (.s 101) (.c (.bool true)) (.s 103),
   .mv 105 (.s 104),
   .gd 105 false 106 (.mv 106 (.s 5)),
   .gd 105 false 107 (.bi 107 .geq (.s 106) (.c (.int .i32 55296))),
   .gd 105 false 108 (.mv 108 (.s 107)),
   .gd 108 true 109 (.mv 109 (.s 5)),
   .gd 108 true 110 (.bi 110 .lss (.s 109) (.c (.int .i32 57344))),
   .gd 105 false 111 (.pk 111 (.s 108) (.s 110) (.c (.bool false))),
   .pk 112 (.s 105) (.c (.bool true)) (.s 111)])
  (.cd (.s 112) (.sq (.rg [.mo 113 3,
   .bs 114 1 [(.c (.int .i32 (-1)))],
   .ap 115 1 4 (.s 113) (.s 114),
   .mo 3 115])
  (.sq (.rg [.mv 116 (.s 4),
   .bi 117 .add (.s 116) (.c (.int .i64 1)),
   .mv 4 (.s 117)])
  (.ex 1))) .sk))
  (.sq (.rg [.mo 118 3,
   .mv 119 (.s 5),
   .bs 120 1 [(.s 119)],
   .ap 121 1 4 (.s 118) (.s 120),
   .mo 3 121])
  (.rg [.mv 122 (.s 4),
   .bi 123 .add (.s 122) (.c (.int .i64 1)),
   .mv 124 (.s 6),
   .bi 125 .add (.s 123) (.s 124),
   .mv 4 (.s 125)])))))))))))))
  (.sq (.rg [.mv 126 (.s 3),
   .mv 2 (.s 126)])
  .rt)))))
def a89 : AF := ⟨c89, [.t 2], 1, 127⟩
theorem m89 : mF Tryd.prog gl drD Tryd.f89 a89 = true := by kernel_rfl
theorem s89 {l : List AV} {r : AV} (hl : l.length = 1) (hi : idsL l = []) (h : wpA (SpH Tryd.prog gl) c89 (postA [.t 2] r) ⟨initE 0 l, [], []⟩) : Sp Tryd.prog gl 89 l r :=
  @fun_sp Tryd.prog gl drD 89 Tryd.f89 a89 Tryd.func89 m89 (dok _) l r hl hi h
theorem h89 {d : Nat} {I : In} {O : Out} (hl : I.vs.length = 1) (h : wpA (SpH Tryd.prog gl) c89 (postH d [.t 2] O) (inSt I)) : SpH Tryd.prog gl 89 d I O :=
  @fun_spH Tryd.prog gl drD 89 Tryd.f89 a89 Tryd.func89 m89 (dok _) d I O hl h
/-- firebell/firebellref06.Letter -/
def c90 : AC :=
 (.sq (.rg [.mv 2 (.c (.bool false))])
  (.sq (.sq (.rg [.mv 3 (.s 0),
   .bi 4 .geq (.s 3) (.c (.int .i32 97)),
   .mv 5 (.s 4),
   .gd 5 true 6 (.mv 6 (.s 0)),
   .gd 5 true 7 (.bi 7 .leq (.s 6) (.c (.int .i32 122))),
   .pk 8 (.s 5) (.s 7) (.c (.bool false)),
   .mv 9 (.s 8),
   .gd 9 false 10 (.mv 10 (.s 0)),
   .gd 9 false 11 (.bi 11 .geq (.s 10) (.c (.int .i32 65))),
   .gd 9 false 12 (.mv 12 (.s 11)),
   .gd 12 true 13 (.mv 13 (.s 0)),
   .gd 12 true 14 (.bi 14 .leq (.s 13) (.c (.int .i32 90))),
   .gd 9 false 15 (.pk 15 (.s 12) (.s 14) (.c (.bool false))),
   .pk 16 (.s 9) (.c (.bool true)) (.s 15)])
  (.cd (.s 16) (.sq (.rg [.mv 2 (.c (.bool true))])
  .rt) .sk))
  (.sq (.sq (.rg [.mv 17 (.s 0),
   .bi 18 .geq (.s 17) (.c (.int .i32 192)),
   .mv 19 (.s 18),
   .gd 19 true 20 (.mv 20 (.s 0)),
   .gd 19 true 21 (.bi 21 .leq (.s 20) (.c (.int .i32 591))),
   .pk 22 (.s 19) (.s 21) (.c (.bool false))])
  (.cd (.s 22) (.sq (.rg [.mv 23 (.s 0),
   .bi 24 .neq (.s 23) (.c (.int .i32 215)),
   .mv 25 (.s 24),
   .gd 25 true 26 (.mv 26 (.s 0)),
   .gd 25 true 27 (.bi 27 .neq (.s 26) (.c (.int .i32 247))),
   .pk 28 (.s 25) (.s 27) (.c (.bool false)),
   .mv 2 (.s 28)])
  .rt) .sk))
  (.sq (.rg [.mv 29 (.s 0),
   .bi 30 .geq (.s 29) (.c (.int .i32 880)),
   .mv 31 (.s 30),
   .gd 31 true 32 (.mv 32 (.s 0)),
   .gd 31 true 33 (.bi 33 .leq (.s 32) (.c (.int .i32 1279))),
   .pk 34 (.s 31) (.s 33) (.c (.bool false)),
   .mv 2 (.s 34)])
  .rt))))
def a90 : AF := ⟨c90, [.t 2], 1, 35⟩
theorem m90 : mF Tryd.prog gl drD Tryd.f90 a90 = true := by kernel_rfl
theorem s90 {l : List AV} {r : AV} (hl : l.length = 1) (hi : idsL l = []) (h : wpA (SpH Tryd.prog gl) c90 (postA [.t 2] r) ⟨initE 0 l, [], []⟩) : Sp Tryd.prog gl 90 l r :=
  @fun_sp Tryd.prog gl drD 90 Tryd.f90 a90 Tryd.func90 m90 (dok _) l r hl hi h
theorem h90 {d : Nat} {I : In} {O : Out} (hl : I.vs.length = 1) (h : wpA (SpH Tryd.prog gl) c90 (postH d [.t 2] O) (inSt I)) : SpH Tryd.prog gl 90 d I O :=
  @fun_spH Tryd.prog gl drD 90 Tryd.f90 a90 Tryd.func90 m90 (dok _) d I O hl h
/-- slices.IndexFunc[[]firebell/api.Turn,firebell/api.Turn] -/
def c105 : AC :=
 (.sq (.rg [.mv 4 (.c (.int .i64 0))])
  (.sq (.sq (.rg [.mv 6 (.s 0),
   .ln 7 (.s 6),
   .mv 8 (.c (.int .i64 0))])
  (.bl 0 (.lp (.sq (.rg [.bi 9 .lss (.s 8) (.s 7)])
  (.sq (.cd (.s 9) .sk (.ex 0))
  (.sq (.bl 1 (.sq (.rg [.mv 10 (.s 8),
   .mv 5 (.s 10)])
  (.sq (.rg [.mv 11 (.s 1),
   .mv 12 (.s 0),
   .mv 13 (.s 5),
   .ia 14 3 (.s 12) (.s 13),
   .lda 15 3 (.s 14),
   .cd 16 (.s 11) [(.s 15)]])
  (.cd (.s 16) (.sq (.rg [.mv 17 (.s 5),
   .mv 4 (.s 17)])
  .rt) .sk))))
  (.rg [.bi 18 .add (.s 8) (.c (.int .i64 1)),
   .mv 8 (.s 18)])))))))
  (.sq (.rg [.mv 4 (.c (.int .i64 (-1)))])
  .rt)))
def a105 : AF := ⟨c105, [.t 4], 2, 19⟩
theorem m105 : mF Tryd.prog gl drD Tryd.f105 a105 = true := by kernel_rfl
theorem s105 {l : List AV} {r : AV} (hl : l.length = 2) (hi : idsL l = []) (h : wpA (SpH Tryd.prog gl) c105 (postA [.t 4] r) ⟨initE 0 l, [], []⟩) : Sp Tryd.prog gl 105 l r :=
  @fun_sp Tryd.prog gl drD 105 Tryd.f105 a105 Tryd.func105 m105 (dok _) l r hl hi h
theorem h105 {d : Nat} {I : In} {O : Out} (hl : I.vs.length = 2) (h : wpA (SpH Tryd.prog gl) c105 (postH d [.t 4] O) (inSt I)) : SpH Tryd.prog gl 105 d I O :=
  @fun_spH Tryd.prog gl drD 105 Tryd.f105 a105 Tryd.func105 m105 (dok _) d I O hl h
/-- firebell/bundle.group -/
def c106 : AC :=
 (.sq (.rg [.mv 4 (.c .nils)])
  (.sq (.rg [.mv 5 (.c .nils)])
  (.sq (.sq (.rg [.mv 9 (.s 0),
   .ln 10 (.s 9),
   .mv 11 (.c (.int .i64 0))])
  (.bl 0 (.lp (.sq (.rg [.bi 12 .lss (.s 11) (.s 10)])
  (.sq (.cd (.s 12) .sk (.ex 0))
  (.sq (.bl 1 (.sq (.rg [.ia 13 5 (.s 9) (.s 11),
   .lda 14 5 (.s 13),
   .al 7 [(.str []), (.str []), (.bool false), (.int .u64 0), (.bool false)],
   .st 5 (.s 7) (.s 14)])
  (.sq (.sq (.rg [.fa 15 (.s 7) 2,
   .lds 16 (.s 15),
   .mv 17 (.s 1),
   .bb 18 true (.s 16) (.s 17)])
  (.cd (.s 18) (.ex 1) .sk))
  (.sq (.rg [.mv 19 (.s 5),
   .mf 20 139 [(.s 7)],
   .ce 21 138 [(.s 19), (.s 20)],
   .mv 8 (.s 21)])
  (.sq (.sq (.rg [.mv 22 (.s 8),
   .bi 23 .lss (.s 22) (.c (.int .i64 0))])
  (.cd (.s 23) (.sq (.rg [.mv 24 (.s 5),
   .ln 25 (.s 24),
   .mv 8 (.s 25)])
  (.rg [.mo 26 5,
   .fa 27 (.s 7) 0,
   .lds 28 (.s 27),
   .fa 29 (.s 7) 2,
   .lds 30 (.s 29),
   .bd 31 [(.str []), (.bool false), .nils] [(0, 1, (.s 28)), (1, 1, (.s 30))],
   .bsn 32 3 [(.s 31)],
   .apm 33 3 48 (.s 26) (.s 32),
   .mo 5 33])) .sk))
  (.rd [[], [], [], [], [], [], [], [6], [], [], [], [], []] [.mv 34 (.s 5),
   .mv 35 (.s 8),
   .mv 36 (.s 5),
   .mv 37 (.s 8),
   .ia 38 3 (.s 36) (.s 37),
   .fa 39 (.s 38) 2,
   .lo 40 (.s 39),
   .lda 41 5 (.s 7),
   .bs 42 5 [(.s 41)],
   .ap 43 5 56 (.s 40) (.s 42),
   .ia 44 3 (.s 34) (.s 35),
   .fa 45 (.s 44) 2,
   .so (.s 45) 43]))))))
  (.rg [.bi 46 .add (.s 11) (.c (.int .i64 1)),
   .mv 11 (.s 46)])))))))
  (.sq (.rg [.mo 47 5,
   .mo 4 47])
  .rt))))
def a106 : AF := ⟨c106, [.t 4], 2, 48⟩
theorem m106 : mF Tryd.prog gl drD Tryd.f106 a106 = true := by kernel_rfl
theorem s106 {l : List AV} {r : AV} (hl : l.length = 2) (hi : idsL l = []) (h : wpA (SpH Tryd.prog gl) c106 (postF [.t 4] r) ⟨initE 0 l, [], []⟩) : Sp Tryd.prog gl 106 l r :=
  @fun_spF Tryd.prog gl drD 106 Tryd.f106 a106 Tryd.func106 m106 (dok _) l r hl hi h
theorem h106 {d : Nat} {I : In} {O : Out} (hl : I.vs.length = 2) (h : wpA (SpH Tryd.prog gl) c106 (postH d [.t 4] O) (inSt I)) : SpH Tryd.prog gl 106 d I O :=
  @fun_spH Tryd.prog gl drD 106 Tryd.f106 a106 Tryd.func106 m106 (dok _) d I O hl h
/-- firebell/exact.Read -/
def c111 : AC :=
 (.sq (.rg [.al 2 [(.int .u64 0), (.int .u64 0)],
   .mv 3 (.c (.int .i64 0))])
  (.sq (.sq (.rg [.mv 9 (.s 0),
   .cl 10 147 [(.s 9)],
   .un 11 .not (.s 10)])
  (.cd (.s 11) (.sq (.rg [.bd 12 [(.int .u64 0), (.int .u64 0)] [],
   .st 2 (.s 2) (.s 12),
   .mv 3 (.c (.int .i64 5))])
  .rt) .sk))
  (.sq (.rg [.al 4 [(.int .u64 0), (.int .u64 0)]])
  (.sq (.sq (.rg [.mv 13 (.s 0),
   .rs 14 (.s 13)])
  (.bl 0 (.lp (.sq (.rg [.nx 15 (.s 14),
   .exq 16 (.s 15) 0])
  (.sq (.cd (.s 16) .sk (.ex 0))
  (.bl 1 (.sq (.rg [.exq 17 (.s 15) 2,
   .mv 6 (.s 17)])
  (.sq (.rg [.lda 19 2 (.s 4),
   .cl 20 148 [(.s 19), (.c (.int .u64 10))],
   .mv 18 (.s 20),
   .exq 21 (.s 18) 0,
   .exq 22 (.s 18) 1,
   .al 7 [(.int .u64 0), (.int .u64 0)],
   .st 2 (.s 7) (.s 21),
   .mv 8 (.s 22)])
  (.sq (.sq (.rg [.mv 23 (.s 8),
   .bi 24 .eql (.s 23) (.c (.int .i64 0))])
  (.cd (.s 24) (.rg [.lda 26 2 (.s 7),
   .mv 27 (.s 6),
   .bi 28 .sub (.s 27) (.c (.int .i32 48)),
   .cv 29 .u64 (.s 28),
   .bd 30 [(.int .u64 0), (.int .u64 0)] [(1, 1, (.s 29))],
   .cl 31 149 [(.s 26), (.s 30)],
   .mv 25 (.s 31),
   .exq 32 (.s 25) 0,
   .exq 33 (.s 25) 1,
   .st 2 (.s 7) (.s 32),
   .mv 8 (.s 33)]) .sk))
  (.sq (.sq (.rg [.mv 34 (.s 8),
   .bi 35 .neq (.s 34) (.c (.int .i64 0))])
  (.cd (.s 35) (.sq (.rg [.bd 36 [(.int .u64 0), (.int .u64 0)] [],
   .mv 37 (.s 8),
   .st 2 (.s 2) (.s 36),
   .mv 3 (.s 37)])
  .rt) .sk))
  (.rg [.lda 38 2 (.s 7),
   .st 2 (.s 4) (.s 38)])))))))))))
  (.sq (.rg [.lda 39 2 (.s 4),
   .st 2 (.s 2) (.s 39),
   .mv 3 (.c (.int .i64 0))])
  .rt)))))
def a111 : AF := ⟨c111, [.ca 2 2, .t 3], 1, 40⟩
theorem m111 : mF Tryd.prog gl drD Tryd.f111 a111 = true := by kernel_rfl
theorem s111 {l : List AV} {r : AV} (hl : l.length = 1) (hi : idsL l = []) (h : wpA (SpH Tryd.prog gl) c111 (postA [.ca 2 2, .t 3] r) ⟨initE 0 l, [], []⟩) : Sp Tryd.prog gl 111 l r :=
  @fun_sp Tryd.prog gl drD 111 Tryd.f111 a111 Tryd.func111 m111 (dok _) l r hl hi h
theorem h111 {d : Nat} {I : In} {O : Out} (hl : I.vs.length = 1) (h : wpA (SpH Tryd.prog gl) c111 (postH d [.ca 2 2, .t 3] O) (inSt I)) : SpH Tryd.prog gl 111 d I O :=
  @fun_spH Tryd.prog gl drD 111 Tryd.f111 a111 Tryd.func111 m111 (dok _) d I O hl h
/-- firebell/key.which -/
def c112 : AC :=
 (.sq (.rg [.mv 6 (.c (.bool false)),
   .mv 7 (.c (.bool false))])
  (.sq (.rg [.mv 8 (.s 0),
   .mv 9 (.s 1),
   .bi 10 .eql (.s 8) (.s 9),
   .mv 11 (.s 0),
   .mv 12 (.s 1),
   .bi 13 .eql (.s 11) (.s 12),
   .mv 14 (.s 13),
   .gd 14 false 15 (.mv 15 (.s 0)),
   .gd 14 false 16 (.mv 16 (.s 2)),
   .gd 14 false 17 (.bi 17 .eql (.s 15) (.s 16)),
   .pk 18 (.s 14) (.c (.bool true)) (.s 17),
   .mv 6 (.s 10),
   .mv 7 (.s 18)])
  .rt))
def a112 : AF := ⟨c112, [.t 6, .t 7], 3, 19⟩
theorem m112 : mF Tryd.prog gl drD Tryd.f112 a112 = true := by kernel_rfl
theorem s112 {l : List AV} {r : AV} (hl : l.length = 3) (hi : idsL l = []) (h : wpA (SpH Tryd.prog gl) c112 (postA [.t 6, .t 7] r) ⟨initE 0 l, [], []⟩) : Sp Tryd.prog gl 112 l r :=
  @fun_sp Tryd.prog gl drD 112 Tryd.f112 a112 Tryd.func112 m112 (dok _) l r hl hi h
theorem h112 {d : Nat} {I : In} {O : Out} (hl : I.vs.length = 3) (h : wpA (SpH Tryd.prog gl) c112 (postH d [.t 6, .t 7] O) (inSt I)) : SpH Tryd.prog gl 112 d I O :=
  @fun_spH Tryd.prog gl drD 112 Tryd.f112 a112 Tryd.func112 m112 (dok _) d I O hl h
/-- firebell/firebellref01.Read -/
def c113 : AC :=
 (.sq (.rg [.al 2 [(.int .u64 0), (.int .u64 0)],
   .mv 3 (.c (.int .i64 0))])
  (.sq (.sq (.rg [.mv 10 (.s 0),
   .bi 11 .eql (.s 10) (.c (.str [])),
   .mv 12 (.s 11),
   .gd 12 false 13 (.mv 13 (.s 0)),
   .gd 12 false 14 (.ixs 14 (.s 13) (.c (.int .i64 0))),
   .gd 12 false 15 (.bi 15 .eql (.s 14) (.c (.int .u8 48))),
   .gd 12 false 16 (.mv 16 (.s 15)),
   .gd 16 true 17 (.mv 17 (.s 0)),
   .gd 16 true 18 (.lns 18 (.s 17)),
   .gd 16 true 19 (.bi 19 .gtr (.s 18) (.c (.int .i64 1))),
   .gd 12 false 20 (.pk 20 (.s 16) (.s 19) (.c (.bool false))),
   .pk 21 (.s 12) (.c (.bool true)) (.s 20)])
  (.cd (.s 21) (.sq (.rg [.bd 22 [(.int .u64 0), (.int .u64 0)] [],
   .st 2 (.s 2) (.s 22),
   .mv 3 (.c (.int .i64 5))])
  .rt) .sk))
  (.sq (.sq (.rg [.mv 4 (.c (.int .i64 0))])
  (.bl 0 (.lp (.sq (.sq (.rg [.mv 23 (.s 4),
   .mv 24 (.s 0),
   .lns 25 (.s 24),
   .bi 26 .lss (.s 23) (.s 25)])
  (.cd (.s 26) .sk (.ex 0)))
  (.sq (.bl 1 (.sq (.rg [.mv 29 (.s 0),
   .mv 30 (.s 4),
   .ixs 31 (.s 29) (.s 30),
   .bi 32 .lss (.s 31) (.c (.int .u8 48)),
   .mv 33 (.s 32),
   .gd 33 false 34 (.mv 34 (.s 0)),
   .gd 33 false 35 (.mv 35 (.s 4)),
   .gd 33 false 36 (.ixs 36 (.s 34) (.s 35)),
   .gd 33 false 37 (.bi 37 .gtr (.s 36) (.c (.int .u8 57))),
   .pk 38 (.s 33) (.c (.bool true)) (.s 37)])
  (.cd (.s 38) (.sq (.rg [.bd 39 [(.int .u64 0), (.int .u64 0)] [],
   .st 2 (.s 2) (.s 39),
   .mv 3 (.c (.int .i64 5))])
  .rt) .sk)))
  (.rg [.mv 27 (.s 4),
   .bi 28 .add (.s 27) (.c (.int .i64 1)),
   .mv 4 (.s 28)]))))))
  (.sq (.sq (.rg [.mv 40 (.s 0),
   .lns 41 (.s 40),
   .bi 42 .gtr (.s 41) (.c (.int .i64 39))])
  (.cd (.s 42) (.sq (.rg [.bd 43 [(.int .u64 0), (.int .u64 0)] [],
   .st 2 (.s 2) (.s 43),
   .mv 3 (.c (.int .i64 3))])
  .rt) .sk))
  (.sq (.rg [.bs 44 1 [],
   .mv 5 (.s 44)])
  (.sq (.rg [.bs 45 1 [(.c (.bool false)), (.c (.bool true)), (.c (.bool false)), (.c (.bool true))],
   .mv 6 (.s 45)])
  (.sq (.sq (.rg [.mv 7 (.c (.int .i64 0))])
  (.bl 2 (.lp (.sq (.sq (.rg [.mv 46 (.s 7),
   .mv 47 (.s 0),
   .lns 48 (.s 47),
   .bi 49 .lss (.s 46) (.s 48)])
  (.cd (.s 49) .sk (.ex 2)))
  (.sq (.bl 3 (.rd [[], [], [], [], [], [], [], [], [], [], [], []] [.mv 52 (.s 5),
   .mv 53 (.s 6),
   .cl 54 151 [(.s 52), (.s 53)],
   .mv 55 (.s 0),
   .mv 56 (.s 7),
   .ixs 57 (.s 55) (.s 56),
   .cv 58 .u64 (.s 57),
   .bi 59 .sub (.s 58) (.c (.int .u64 48)),
   .bd 60 [(.int .u64 0), (.int .u64 0)] [(1, 1, (.s 59))],
   .cl 61 152 [(.s 60)],
   .cl 62 150 [(.s 54), (.s 61)],
   .mv 5 (.s 62)]))
  (.rg [.mv 50 (.s 7),
   .bi 51 .add (.s 50) (.c (.int .i64 1)),
   .mv 7 (.s 51)]))))))
  (.sq (.rg [.mv 64 (.s 5),
   .cl 65 153 [(.s 64)],
   .mv 63 (.s 65),
   .exq 66 (.s 63) 0,
   .exq 67 (.s 63) 1,
   .al 8 [(.int .u64 0), (.int .u64 0)],
   .st 2 (.s 8) (.s 66),
   .mv 9 (.s 67)])
  (.sq (.sq (.rg [.mv 68 (.s 9),
   .un 69 .not (.s 68)])
  (.cd (.s 69) (.sq (.rg [.bd 70 [(.int .u64 0), (.int .u64 0)] [],
   .st 2 (.s 2) (.s 70),
   .mv 3 (.c (.int .i64 3))])
  .rt) .sk))
  (.sq (.rg [.lda 71 2 (.s 8),
   .st 2 (.s 2) (.s 71),
   .mv 3 (.c (.int .i64 0))])
  .rt))))))))))
def a113 : AF := ⟨c113, [.ca 2 2, .t 3], 1, 72⟩
theorem m113 : mF Tryd.prog gl drD Tryd.f113 a113 = true := by kernel_rfl
theorem s113 {l : List AV} {r : AV} (hl : l.length = 1) (hi : idsL l = []) (h : wpA (SpH Tryd.prog gl) c113 (postA [.ca 2 2, .t 3] r) ⟨initE 0 l, [], []⟩) : Sp Tryd.prog gl 113 l r :=
  @fun_sp Tryd.prog gl drD 113 Tryd.f113 a113 Tryd.func113 m113 (dok _) l r hl hi h
theorem h113 {d : Nat} {I : In} {O : Out} (hl : I.vs.length = 1) (h : wpA (SpH Tryd.prog gl) c113 (postH d [.ca 2 2, .t 3] O) (inSt I)) : SpH Tryd.prog gl 113 d I O :=
  @fun_spH Tryd.prog gl drD 113 Tryd.f113 a113 Tryd.func113 m113 (dok _) d I O hl h
/-- firebell/firebellref13.Digits -/
def c114 : AC :=
 (.sq (.rg [.mv 2 (.c (.str []))])
  (.sq (.rg [.mv 3 (.s 0),
   .bd 4 [(.int .u64 0), (.int .u64 0)] [(1, 1, (.s 3))],
   .cl 5 152 [(.s 4)],
   .cl 6 154 [(.s 5)],
   .mv 2 (.s 6)])
  .rt))
def a114 : AF := ⟨c114, [.t 2], 1, 7⟩
theorem m114 : mF Tryd.prog gl drD Tryd.f114 a114 = true := by kernel_rfl
theorem s114 {l : List AV} {r : AV} (hl : l.length = 1) (hi : idsL l = []) (h : wpA (SpH Tryd.prog gl) c114 (postA [.t 2] r) ⟨initE 0 l, [], []⟩) : Sp Tryd.prog gl 114 l r :=
  @fun_sp Tryd.prog gl drD 114 Tryd.f114 a114 Tryd.func114 m114 (dok _) l r hl hi h
theorem h114 {d : Nat} {I : In} {O : Out} (hl : I.vs.length = 1) (h : wpA (SpH Tryd.prog gl) c114 (postH d [.t 2] O) (inSt I)) : SpH Tryd.prog gl 114 d I O :=
  @fun_spH Tryd.prog gl drD 114 Tryd.f114 a114 Tryd.func114 m114 (dok _) d I O hl h
/-- internal/strconv.FormatUint -/
def c116 : AC :=
 (.sq (.rg [.mv 4 (.c (.str []))])
  (.sq (.sq (.rg [.mv 9 (.s 1),
   .bi 10 .eql (.s 9) (.c (.int .i64 10))])
  (.cd (.s 10) (.sq (.sq (.rg [.mv 11 (.s 0),
   .bi 12 .lss (.s 11) (.c (.int .u64 100))])
  (.cd (.s 12) (.sq (.rg [.mv 13 (.s 0),
   .cv 14 .i64 (.s 13),
   .cl 15 156 [(.s 14)],
   .mv 4 (.s 15)])
  .rt) .sk))
  (.sq (.rg [.al 5 [(.int .u8 0), (.int .u8 0), (.int .u8 0), (.int .u8 0), (.int .u8 0), (.int .u8 0), (.int .u8 0), (.int .u8 0), (.int .u8 0), (.int .u8 0), (.int .u8 0), (.int .u8 0), (.int .u8 0), (.int .u8 0), (.int .u8 0), (.int .u8 0), (.int .u8 0), (.int .u8 0), (.int .u8 0), (.int .u8 0), (.int .u8 0), (.int .u8 0), (.int .u8 0), (.int .u8 0)]])
  (.sq (.rg [.mv 16 (.s 0),
   .cl 17 157 [(.s 16)],
   .mv 6 (.s 17)])
  (.sq (.rg [.mv 18 (.s 6),
   .sla 19 24 (.s 5) none (some (.s 18)),
   .mv 20 (.s 0),
   .ce 21 158 [(.s 19), (.s 20)]])
  (.sq (.rg [.mv 22 (.s 6),
   .sla 23 24 (.s 5) none (some (.s 22)),
   .b2s 24 (.s 23),
   .mv 4 (.s 24)])
  .rt))))) .sk))
  (.sq (.rg [.mv 26 (.s 0),
   .mv 27 (.s 1),
   .ce 28 159 [(.c .nils), (.s 26), (.s 27), (.c (.bool false)), (.c (.bool false))],
   .mv 25 (.s 28),
   .exq 29 (.s 25) 0,
   .exq 30 (.s 25) 1,
   .mv 7 (.s 29),
   .mv 8 (.s 30)])
  (.sq (.rg [.mv 31 (.s 8),
   .mv 4 (.s 31)])
  .rt))))
def a116 : AF := ⟨c116, [.t 4], 2, 32⟩
theorem m116 : mF Tryd.prog gl drD Tryd.f116 a116 = true := by kernel_rfl
theorem s116 {l : List AV} {r : AV} (hl : l.length = 2) (hi : idsL l = []) (h : wpA (SpH Tryd.prog gl) c116 (postA [.t 4] r) ⟨initE 0 l, [], []⟩) : Sp Tryd.prog gl 116 l r :=
  @fun_sp Tryd.prog gl drD 116 Tryd.f116 a116 Tryd.func116 m116 (dok _) l r hl hi h
theorem h116 {d : Nat} {I : In} {O : Out} (hl : I.vs.length = 2) (h : wpA (SpH Tryd.prog gl) c116 (postH d [.t 4] O) (inSt I)) : SpH Tryd.prog gl 116 d I O :=
  @fun_spH Tryd.prog gl drD 116 Tryd.f116 a116 Tryd.func116 m116 (dok _) d I O hl h
/-- firebell/text.Letter -/
def c118 : AC :=
 (.sq (.rg [.mv 2 (.c (.bool false))])
  (.sq (.bl 0 (.sq (.rg [.mv 4 (.s 0),
   .bi 5 .geq (.s 4) (.c (.int .i32 97)),
   .mv 6 (.s 5),
   .gd 6 true 7 (.mv 7 (.s 0)),
   .gd 6 true 8 (.bi 8 .leq (.s 7) (.c (.int .i32 122))),
   .pk 9 (.s 6) (.s 8) (.c (.bool false)),
   .mv 10 (.s 9),
   .gd 10 false 11 (.mv 11 (.s 0)),
   .gd 10 false 12 (.bi 12 .geq (.s 11) (.c (.int .i32 65))),
   .gd 10 false 13 (.mv 13 (.s 12)),
   .gd 13 true 14 (.mv 14 (.s 0)),
   .gd 13 true 15 (.bi 15 .leq (.s 14) (.c (.int .i32 90))),
   .gd 10 false 16 (.pk 16 (.s 13) (.s 15) (.c (.bool false))),
   .pk 17 (.s 10) (.c (.bool true)) (.s 16),
   .mv 3 (.s 17)])
  (.cd (.s 3) (.sq (.rg [.mv 2 (.c (.bool true))])
  .rt) (.sq (.rg [.mv 19 (.s 0),
   .bi 20 .eql (.s 19) (.c (.int .i32 215)),
   .mv 21 (.s 20),
   .gd 21 false 22 (.mv 22 (.s 0)),
   .gd 21 false 23 (.bi 23 .eql (.s 22) (.c (.int .i32 247))),
   .pk 24 (.s 21) (.c (.bool true)) (.s 23),
   .mv 18 (.s 24)])
  (.cd (.s 18) (.sq (.rg [.mv 2 (.c (.bool false))])
  .rt) (.sq (.rg [.mv 26 (.s 0),
   .bi 27 .geq (.s 26) (.c (.int .i32 192)),
   .mv 28 (.s 27),
   .gd 28 true 29 (.mv 29 (.s 0)),
   .gd 28 true 30 (.bi 30 .leq (.s 29) (.c (.int .i32 591))),
   .pk 31 (.s 28) (.s 30) (.c (.bool false)),
   .mv 25 (.s 31)])
  (.cd (.s 25) (.sq (.rg [.mv 2 (.c (.bool true))])
  .rt) .sk)))))))
  (.sq (.rg [.mv 32 (.s 0),
   .bi 33 .geq (.s 32) (.c (.int .i32 880)),
   .mv 34 (.s 33),
   .gd 34 true 35 (.mv 35 (.s 0)),
   .gd 34 true 36 (.bi 36 .leq (.s 35) (.c (.int .i32 1279))),
   .pk 37 (.s 34) (.s 36) (.c (.bool false)),
   .mv 2 (.s 37)])
  .rt)))
def a118 : AF := ⟨c118, [.t 2], 1, 38⟩
theorem m118 : mF Tryd.prog gl drD Tryd.f118 a118 = true := by kernel_rfl
theorem s118 {l : List AV} {r : AV} (hl : l.length = 1) (hi : idsL l = []) (h : wpA (SpH Tryd.prog gl) c118 (postA [.t 2] r) ⟨initE 0 l, [], []⟩) : Sp Tryd.prog gl 118 l r :=
  @fun_sp Tryd.prog gl drD 118 Tryd.f118 a118 Tryd.func118 m118 (dok _) l r hl hi h
theorem h118 {d : Nat} {I : In} {O : Out} (hl : I.vs.length = 1) (h : wpA (SpH Tryd.prog gl) c118 (postH d [.t 2] O) (inSt I)) : SpH Tryd.prog gl 118 d I O :=
  @fun_spH Tryd.prog gl drD 118 Tryd.f118 a118 Tryd.func118 m118 (dok _) d I O hl h
/-- firebell/text.digit -/
def c119 : AC :=
 (.sq (.rg [.mv 2 (.c (.bool false))])
  (.sq (.rg [.mv 3 (.s 0),
   .bi 4 .geq (.s 3) (.c (.int .i32 48)),
   .mv 5 (.s 4),
   .gd 5 true 6 (.mv 6 (.s 0)),
   .gd 5 true 7 (.bi 7 .leq (.s 6) (.c (.int .i32 57))),
   .pk 8 (.s 5) (.s 7) (.c (.bool false)),
   .mv 2 (.s 8)])
  .rt))
def a119 : AF := ⟨c119, [.t 2], 1, 9⟩
theorem m119 : mF Tryd.prog gl drD Tryd.f119 a119 = true := by kernel_rfl
theorem s119 {l : List AV} {r : AV} (hl : l.length = 1) (hi : idsL l = []) (h : wpA (SpH Tryd.prog gl) c119 (postA [.t 2] r) ⟨initE 0 l, [], []⟩) : Sp Tryd.prog gl 119 l r :=
  @fun_sp Tryd.prog gl drD 119 Tryd.f119 a119 Tryd.func119 m119 (dok _) l r hl hi h
theorem h119 {d : Nat} {I : In} {O : Out} (hl : I.vs.length = 1) (h : wpA (SpH Tryd.prog gl) c119 (postH d [.t 2] O) (inSt I)) : SpH Tryd.prog gl 119 d I O :=
  @fun_spH Tryd.prog gl drD 119 Tryd.f119 a119 Tryd.func119 m119 (dok _) d I O hl h
/-- slices.insertionSortOrdered[int64] -/
def c127 : AC :=
 (.sq (.rg [.mv 8 (.s 1),
   .bi 9 .add (.s 8) (.c (.int .i64 1)),
   .mv 6 (.s 9)])
  (.bl 0 (.lp (.sq (.sq (.rg [.mv 10 (.s 6),
   .mv 11 (.s 2),
   .bi 12 .lss (.s 10) (.s 11)])
  (.cd (.s 12) .sk (.ex 0)))
  (.sq (.bl 1 (.sq (.rg [.mv 15 (.s 6),
   .mv 7 (.s 15)])
  (.bl 2 (.lp (.sq (.sq (.rd [[], [], [], [], [], [], [], [], [], [], [], [], [], [], []] [.mv 16 (.s 7),
   .mv 17 (.s 1),
   .bi 18 .gtr (.s 16) (.s 17),
   .mv 19 (.s 18),
   .gd 19 true 20 (.mv 20 (.s 0)),
   .gd 19 true 21 (.mv 21 (.s 7)),
   .gd 19 true 22 (.ia 22 1 (.s 20) (.s 21)),
   .gd 19 true 23 (.lds 23 (.s 22)),
   .gd 19 true 24 (.mv 24 (.s 0)),
   .gd 19 true 25 (.mv 25 (.s 7)),
   .gd 19 true 26 (.bi 26 .sub (.s 25) (.c (.int .i64 1))),
   .gd 19 true 27 (.ia 27 1 (.s 24) (.s 26)),
   .gd 19 true 28 (.lds 28 (.s 27)),
   .gd 19 true 29 (.cl 29 133 [(.s 23), (.s 28)]),
   .pk 30 (.s 19) (.s 29) (.c (.bool false))])
  (.cd (.s 30) .sk (.ex 2)))
  (.sq (.bl 3 (.rd [[], [], [], [], [], [], [], [], [], [], [], [], [], [], [], [], [], []] [.mv 33 (.s 0),
   .mv 34 (.s 7),
   .mv 35 (.s 0),
   .mv 36 (.s 7),
   .bi 37 .sub (.s 36) (.c (.int .i64 1)),
   .mv 38 (.s 0),
   .mv 39 (.s 7),
   .bi 40 .sub (.s 39) (.c (.int .i64 1)),
   .ia 41 1 (.s 38) (.s 40),
   .lds 42 (.s 41),
   .mv 43 (.s 0),
   .mv 44 (.s 7),
   .ia 45 1 (.s 43) (.s 44),
   .lds 46 (.s 45),
   .ia 47 1 (.s 33) (.s 34),
   .st 1 (.s 47) (.s 42),
   .ia 48 1 (.s 35) (.s 37),
   .st 1 (.s 48) (.s 46)]))
  (.rg [.mv 31 (.s 7),
   .bi 32 .sub (.s 31) (.c (.int .i64 1)),
   .mv 7 (.s 32)])))))))
  (.rg [.mv 13 (.s 6),
   .bi 14 .add (.s 13) (.c (.int .i64 1)),
   .mv 6 (.s 14)]))))))
def a127 : AF := ⟨c127, [], 3, 49⟩
theorem m127 : mF Tryd.prog gl drD Tryd.f127 a127 = true := by kernel_rfl
theorem s127 {l : List AV} {r : AV} (hl : l.length = 3) (hi : idsL l = []) (h : wpA (SpH Tryd.prog gl) c127 (postA [] r) ⟨initE 0 l, [], []⟩) : Sp Tryd.prog gl 127 l r :=
  @fun_sp Tryd.prog gl drD 127 Tryd.f127 a127 Tryd.func127 m127 (dok _) l r hl hi h
theorem h127 {d : Nat} {I : In} {O : Out} (hl : I.vs.length = 3) (h : wpA (SpH Tryd.prog gl) c127 (postH d [] O) (inSt I)) : SpH Tryd.prog gl 127 d I O :=
  @fun_spH Tryd.prog gl drD 127 Tryd.f127 a127 Tryd.func127 m127 (dok _) d I O hl h
/-- slices.heapSortOrdered[int64] -/
def c128 : AC :=
 (.sq (.rg [.mv 11 (.s 1),
   .mv 6 (.s 11)])
  (.sq (.rg [.mv 7 (.c (.int .i64 0))])
  (.sq (.rg [.mv 12 (.s 2),
   .mv 13 (.s 1),
   .bi 14 .sub (.s 12) (.s 13),
   .mv 8 (.s 14)])
  (.sq (.sq (.rg [.mv 15 (.s 8),
   .bi 16 .sub (.s 15) (.c (.int .i64 1)),
   .bi 17 .quo (.s 16) (.c (.int .i64 2)),
   .mv 9 (.s 17)])
  (.bl 0 (.lp (.sq (.sq (.rg [.mv 18 (.s 9),
   .bi 19 .geq (.s 18) (.c (.int .i64 0))])
  (.cd (.s 19) .sk (.ex 0)))
  (.sq (.bl 1 (.rg [.mv 22 (.s 0),
   .mv 23 (.s 9),
   .mv 24 (.s 8),
   .mv 25 (.s 6),
   .ce 26 168 [(.s 22), (.s 23), (.s 24), (.s 25)]]))
  (.rg [.mv 20 (.s 9),
   .bi 21 .sub (.s 20) (.c (.int .i64 1)),
   .mv 9 (.s 21)]))))))
  (.sq (.rg [.mv 27 (.s 8),
   .bi 28 .sub (.s 27) (.c (.int .i64 1)),
   .mv 10 (.s 28)])
  (.bl 2 (.lp (.sq (.sq (.rg [.mv 29 (.s 10),
   .bi 30 .geq (.s 29) (.c (.int .i64 0))])
  (.cd (.s 30) .sk (.ex 2)))
  (.sq (.bl 3 (.sq (.rd [[], [], [], [], [], [], [], [], [], [], [], [], [], [], [], [], [], [], [], []] [.mv 33 (.s 0),
   .mv 34 (.s 6),
   .mv 35 (.s 0),
   .mv 36 (.s 6),
   .mv 37 (.s 10),
   .bi 38 .add (.s 36) (.s 37),
   .mv 39 (.s 0),
   .mv 40 (.s 6),
   .mv 41 (.s 10),
   .bi 42 .add (.s 40) (.s 41),
   .ia 43 1 (.s 39) (.s 42),
   .lds 44 (.s 43),
   .mv 45 (.s 0),
   .mv 46 (.s 6),
   .ia 47 1 (.s 45) (.s 46),
   .lds 48 (.s 47),
   .ia 49 1 (.s 33) (.s 34),
   .st 1 (.s 49) (.s 44),
   .ia 50 1 (.s 35) (.s 38),
   .st 1 (.s 50) (.s 48)])
  (.rg [.mv 51 (.s 0),
   .mv 52 (.s 7),
   .mv 53 (.s 10),
   .mv 54 (.s 6),
   .ce 55 168 [(.s 51), (.s 52), (.s 53), (.s 54)]])))
  (.rg [.mv 31 (.s 10),
   .bi 32 .sub (.s 31) (.c (.int .i64 1)),
   .mv 10 (.s 32)]))))))))))
def a128 : AF := ⟨c128, [], 3, 56⟩
theorem m128 : mF Tryd.prog gl drD Tryd.f128 a128 = true := by kernel_rfl
theorem s128 {l : List AV} {r : AV} (hl : l.length = 3) (hi : idsL l = []) (h : wpA (SpH Tryd.prog gl) c128 (postA [] r) ⟨initE 0 l, [], []⟩) : Sp Tryd.prog gl 128 l r :=
  @fun_sp Tryd.prog gl drD 128 Tryd.f128 a128 Tryd.func128 m128 (dok _) l r hl hi h
theorem h128 {d : Nat} {I : In} {O : Out} (hl : I.vs.length = 3) (h : wpA (SpH Tryd.prog gl) c128 (postH d [] O) (inSt I)) : SpH Tryd.prog gl 128 d I O :=
  @fun_spH Tryd.prog gl drD 128 Tryd.f128 a128 Tryd.func128 m128 (dok _) d I O hl h
/-- math/bits.Len64 -/
def c137 : AC :=
 (.sq (.rg [.mv 2 (.c (.int .i64 0))])
  (.sq (.sq (.rg [.mv 3 (.s 0),
   .bi 4 .geq (.s 3) (.c (.int .u64 4294967296))])
  (.cd (.s 4) (.sq (.rg [.mv 5 (.s 0),
   .bi 6 .shr (.s 5) (.c (.int .u64 32)),
   .mv 0 (.s 6)])
  (.rg [.mv 2 (.c (.int .i64 32))])) .sk))
  (.sq (.sq (.rg [.mv 7 (.s 0),
   .bi 8 .geq (.s 7) (.c (.int .u64 65536))])
  (.cd (.s 8) (.sq (.rg [.mv 9 (.s 0),
   .bi 10 .shr (.s 9) (.c (.int .u64 16)),
   .mv 0 (.s 10)])
  (.rg [.mv 11 (.s 2),
   .bi 12 .add (.s 11) (.c (.int .i64 16)),
   .mv 2 (.s 12)])) .sk))
  (.sq (.sq (.rg [.mv 13 (.s 0),
   .bi 14 .geq (.s 13) (.c (.int .u64 256))])
  (.cd (.s 14) (.sq (.rg [.mv 15 (.s 0),
   .bi 16 .shr (.s 15) (.c (.int .u64 8)),
   .mv 0 (.s 16)])
  (.rg [.mv 17 (.s 2),
   .bi 18 .add (.s 17) (.c (.int .i64 8)),
   .mv 2 (.s 18)])) .sk))
  (.sq (.rg [.mv 19 (.s 2),
   .mv 20 (.s 0),
   .cv 21 .u8 (.s 20),
   .ixs 22 (.c (.str [0, 1, 2, 2, 3, 3, 3, 3, 4, 4, 4, 4, 4, 4, 4, 4, 5, 5, 5, 5, 5, 5, 5, 5, 5, 5, 5, 5, 5, 5, 5, 5, 6, 6, 6, 6, 6, 6, 6, 6, 6, 6, 6, 6, 6, 6, 6, 6, 6, 6, 6, 6, 6, 6, 6, 6, 6, 6, 6, 6, 6, 6, 6, 6, 7, 7, 7, 7, 7, 7, 7, 7, 7, 7, 7, 7, 7, 7, 7, 7, 7, 7, 7, 7, 7, 7, 7, 7, 7, 7, 7, 7, 7, 7, 7, 7, 7, 7, 7, 7, 7, 7, 7, 7, 7, 7, 7, 7, 7, 7, 7, 7, 7, 7, 7, 7, 7, 7, 7, 7, 7, 7, 7, 7, 7, 7, 7, 7, 8, 8, 8, 8, 8, 8, 8, 8, 8, 8, 8, 8, 8, 8, 8, 8, 8, 8, 8, 8, 8, 8, 8, 8, 8, 8, 8, 8, 8, 8, 8, 8, 8, 8, 8, 8, 8, 8, 8, 8, 8, 8, 8, 8, 8, 8, 8, 8, 8, 8, 8, 8, 8, 8, 8, 8, 8, 8, 8, 8, 8, 8, 8, 8, 8, 8, 8, 8, 8, 8, 8, 8, 8, 8, 8, 8, 8, 8, 8, 8, 8, 8, 8, 8, 8, 8, 8, 8, 8, 8, 8, 8, 8, 8, 8, 8, 8, 8, 8, 8, 8, 8, 8, 8, 8, 8, 8, 8, 8, 8, 8, 8, 8, 8, 8, 8, 8, 8, 8, 8, 8, 8, 8, 8, 8, 8, 8, 8])) (.s 21),
   .cv 23 .i64 (.s 22),
   .bi 24 .add (.s 19) (.s 23),
   .mv 2 (.s 24)])
  .rt)))))
def a137 : AF := ⟨c137, [.t 2], 1, 25⟩
theorem m137 : mF Tryd.prog gl drD Tryd.f137 a137 = true := by kernel_rfl
theorem s137 {l : List AV} {r : AV} (hl : l.length = 1) (hi : idsL l = []) (h : wpA (SpH Tryd.prog gl) c137 (postA [.t 2] r) ⟨initE 0 l, [], []⟩) : Sp Tryd.prog gl 137 l r :=
  @fun_sp Tryd.prog gl drD 137 Tryd.f137 a137 Tryd.func137 m137 (dok _) l r hl hi h
theorem h137 {d : Nat} {I : In} {O : Out} (hl : I.vs.length = 1) (h : wpA (SpH Tryd.prog gl) c137 (postH d [.t 2] O) (inSt I)) : SpH Tryd.prog gl 137 d I O :=
  @fun_spH Tryd.prog gl drD 137 Tryd.f137 a137 Tryd.func137 m137 (dok _) d I O hl h
/-- slices.IndexFunc[[]firebell/api.Message,firebell/api.Message] -/
def c138 : AC :=
 (.sq (.rg [.mv 4 (.c (.int .i64 0))])
  (.sq (.sq (.rg [.mv 6 (.s 0),
   .ln 7 (.s 6),
   .mv 8 (.c (.int .i64 0))])
  (.bl 0 (.lp (.sq (.rg [.bi 9 .lss (.s 8) (.s 7)])
  (.sq (.cd (.s 9) .sk (.ex 0))
  (.sq (.bl 1 (.sq (.rg [.mv 10 (.s 8),
   .mv 5 (.s 10)])
  (.sq (.rg [.mv 11 (.s 1),
   .mv 12 (.s 0),
   .mv 13 (.s 5),
   .ia 14 3 (.s 12) (.s 13),
   .lda 15 3 (.s 14),
   .cd 16 (.s 11) [(.s 15)]])
  (.cd (.s 16) (.sq (.rg [.mv 17 (.s 5),
   .mv 4 (.s 17)])
  .rt) .sk))))
  (.rg [.bi 18 .add (.s 8) (.c (.int .i64 1)),
   .mv 8 (.s 18)])))))))
  (.sq (.rg [.mv 4 (.c (.int .i64 (-1)))])
  .rt)))
def a138 : AF := ⟨c138, [.t 4], 2, 19⟩
theorem m138 : mF Tryd.prog gl drD Tryd.f138 a138 = true := by kernel_rfl
theorem s138 {l : List AV} {r : AV} (hl : l.length = 2) (hi : idsL l = []) (h : wpA (SpH Tryd.prog gl) c138 (postA [.t 4] r) ⟨initE 0 l, [], []⟩) : Sp Tryd.prog gl 138 l r :=
  @fun_sp Tryd.prog gl drD 138 Tryd.f138 a138 Tryd.func138 m138 (dok _) l r hl hi h
theorem h138 {d : Nat} {I : In} {O : Out} (hl : I.vs.length = 2) (h : wpA (SpH Tryd.prog gl) c138 (postH d [.t 4] O) (inSt I)) : SpH Tryd.prog gl 138 d I O :=
  @fun_spH Tryd.prog gl drD 138 Tryd.f138 a138 Tryd.func138 m138 (dok _) d I O hl h
/-- firebell/bundle.group$1 -/
def c139 : AC :=
 (.sq (.rg [.bx 2 (.s 0),
   .mv 3 (.c (.bool false))])
  (.sq (.rg [.lda 4 3 (.s 2),
   .lda 5 5 (.s 1),
   .cl 6 140 [(.s 4), (.s 5)],
   .mv 3 (.s 6)])
  .rt))
def a139 : AF := ⟨c139, [.t 3], 2, 7⟩
theorem m139 : mF Tryd.prog gl drD Tryd.f139 a139 = true := by kernel_rfl
theorem s139 {l : List AV} {r : AV} (hl : l.length = 2) (hi : idsL l = []) (h : wpA (SpH Tryd.prog gl) c139 (postA [.t 3] r) ⟨initE 0 l, [], []⟩) : Sp Tryd.prog gl 139 l r :=
  @fun_sp Tryd.prog gl drD 139 Tryd.f139 a139 Tryd.func139 m139 (dok _) l r hl hi h
theorem h139 {d : Nat} {I : In} {O : Out} (hl : I.vs.length = 2) (h : wpA (SpH Tryd.prog gl) c139 (postH d [.t 3] O) (inSt I)) : SpH Tryd.prog gl 139 d I O :=
  @fun_spH Tryd.prog gl drD 139 Tryd.f139 a139 Tryd.func139 m139 (dok _) d I O hl h
/-- firebell/bundle.goes -/
def c140 : AC :=
 (.sq (.rg [.bx 2 (.s 0),
   .bx 3 (.s 1),
   .mv 4 (.c (.bool false))])
  (.sq (.rg [.fa 5 (.s 2) 0,
   .lds 6 (.s 5),
   .fa 7 (.s 3) 0,
   .lds 8 (.s 7),
   .bi 9 .eql (.s 6) (.s 8),
   .mv 10 (.s 9),
   .gd 10 true 11 (.fa 11 (.s 2) 1),
   .gd 10 true 12 (.lds 12 (.s 11)),
   .gd 10 true 13 (.fa 13 (.s 3) 2),
   .gd 10 true 14 (.lds 14 (.s 13)),
   .gd 10 true 15 (.bb 15 false (.s 12) (.s 14)),
   .pk 16 (.s 10) (.s 15) (.c (.bool false)),
   .mv 17 (.s 16),
   .gd 17 true 18 (.fa 18 (.s 2) 2),
   .gd 17 true 19 (.lds 19 (.s 18)),
   .gd 17 true 20 (.ln 20 (.s 19)),
   .gd 17 true 21 (.bi 21 .lss (.s 20) (.c (.int .i64 8))),
   .pk 22 (.s 17) (.s 21) (.c (.bool false)),
   .mv 4 (.s 22)])
  .rt))
def a140 : AF := ⟨c140, [.t 4], 2, 23⟩
theorem m140 : mF Tryd.prog gl drD Tryd.f140 a140 = true := by kernel_rfl
theorem s140 {l : List AV} {r : AV} (hl : l.length = 2) (hi : idsL l = []) (h : wpA (SpH Tryd.prog gl) c140 (postA [.t 4] r) ⟨initE 0 l, [], []⟩) : Sp Tryd.prog gl 140 l r :=
  @fun_sp Tryd.prog gl drD 140 Tryd.f140 a140 Tryd.func140 m140 (dok _) l r hl hi h
theorem h140 {d : Nat} {I : In} {O : Out} (hl : I.vs.length = 2) (h : wpA (SpH Tryd.prog gl) c140 (postH d [.t 4] O) (inSt I)) : SpH Tryd.prog gl 140 d I O :=
  @fun_spH Tryd.prog gl drD 140 Tryd.f140 a140 Tryd.func140 m140 (dok _) d I O hl h
/-- internal/stringslite.HasPrefix -/
def c146 : AC :=
 (.sq (.rg [.mv 4 (.c (.bool false))])
  (.sq (.rg [.mv 5 (.s 0),
   .lns 6 (.s 5),
   .mv 7 (.s 1),
   .lns 8 (.s 7),
   .bi 9 .geq (.s 6) (.s 8),
   .mv 10 (.s 9),
   .gd 10 true 11 (.mv 11 (.s 0)),
   .gd 10 true 12 (.mv 12 (.s 1)),
   .gd 10 true 13 (.lns 13 (.s 12)),
   .gd 10 true 14 (.sls 14 (.s 11) none (some (.s 13))),
   .gd 10 true 15 (.mv 15 (.s 1)),
   .gd 10 true 16 (.bi 16 .eql (.s 14) (.s 15)),
   .pk 17 (.s 10) (.s 16) (.c (.bool false)),
   .mv 4 (.s 17)])
  .rt))
def a146 : AF := ⟨c146, [.t 4], 2, 18⟩
theorem m146 : mF Tryd.prog gl drD Tryd.f146 a146 = true := by kernel_rfl
theorem s146 {l : List AV} {r : AV} (hl : l.length = 2) (hi : idsL l = []) (h : wpA (SpH Tryd.prog gl) c146 (postA [.t 4] r) ⟨initE 0 l, [], []⟩) : Sp Tryd.prog gl 146 l r :=
  @fun_sp Tryd.prog gl drD 146 Tryd.f146 a146 Tryd.func146 m146 (dok _) l r hl hi h
theorem h146 {d : Nat} {I : In} {O : Out} (hl : I.vs.length = 2) (h : wpA (SpH Tryd.prog gl) c146 (postH d [.t 4] O) (inSt I)) : SpH Tryd.prog gl 146 d I O :=
  @fun_spH Tryd.prog gl drD 146 Tryd.f146 a146 Tryd.func146 m146 (dok _) d I O hl h
/-- firebell/exact.digits -/
def c147 : AC :=
 (.sq (.rg [.mv 2 (.c (.bool false))])
  (.sq (.sq (.rg [.mv 5 (.s 0),
   .rs 6 (.s 5)])
  (.bl 0 (.lp (.sq (.rg [.nx 7 (.s 6),
   .exq 8 (.s 7) 0])
  (.sq (.cd (.s 8) .sk (.ex 0))
  (.bl 1 (.sq (.rg [.exq 9 (.s 7) 1,
   .exq 10 (.s 7) 2,
   .mv 3 (.s 9),
   .mv 4 (.s 10)])
  (.sq (.rg [.mv 11 (.s 4),
   .bi 12 .lss (.s 11) (.c (.int .i32 48)),
   .mv 13 (.s 12),
   .gd 13 false 14 (.mv 14 (.s 4)),
   .gd 13 false 15 (.bi 15 .gtr (.s 14) (.c (.int .i32 57))),
   .pk 16 (.s 13) (.c (.bool true)) (.s 15),
   .mv 17 (.s 16),
   .gd 17 false 18 (.mv 18 (.s 3)),
   .gd 17 false 19 (.bi 19 .eql (.s 18) (.c (.int .i64 0))),
   .gd 17 false 20 (.mv 20 (.s 19)),
   .gd 20 true 21 (.mv 21 (.s 4)),
   .gd 20 true 22 (.bi 22 .eql (.s 21) (.c (.int .i32 48))),
   .gd 17 false 23 (.pk 23 (.s 20) (.s 22) (.c (.bool false))),
   .gd 17 false 24 (.mv 24 (.s 23)),
   .gd 24 true 25 (.mv 25 (.s 0)),
   .gd 24 true 26 (.lns 26 (.s 25)),
   .gd 24 true 27 (.bi 27 .gtr (.s 26) (.c (.int .i64 1))),
   .gd 17 false 28 (.pk 28 (.s 24) (.s 27) (.c (.bool false))),
   .pk 29 (.s 17) (.c (.bool true)) (.s 28)])
  (.cd (.s 29) (.sq (.rg [.mv 2 (.c (.bool false))])
  .rt) .sk)))))))))
  (.sq (.rg [.mv 30 (.s 0),
   .bi 31 .neq (.s 30) (.c (.str [])),
   .mv 2 (.s 31)])
  .rt)))
def a147 : AF := ⟨c147, [.t 2], 1, 32⟩
theorem m147 : mF Tryd.prog gl drD Tryd.f147 a147 = true := by kernel_rfl
theorem s147 {l : List AV} {r : AV} (hl : l.length = 1) (hi : idsL l = []) (h : wpA (SpH Tryd.prog gl) c147 (postA [.t 2] r) ⟨initE 0 l, [], []⟩) : Sp Tryd.prog gl 147 l r :=
  @fun_sp Tryd.prog gl drD 147 Tryd.f147 a147 Tryd.func147 m147 (dok _) l r hl hi h
theorem h147 {d : Nat} {I : In} {O : Out} (hl : I.vs.length = 1) (h : wpA (SpH Tryd.prog gl) c147 (postH d [.t 2] O) (inSt I)) : SpH Tryd.prog gl 147 d I O :=
  @fun_spH Tryd.prog gl drD 147 Tryd.f147 a147 Tryd.func147 m147 (dok _) d I O hl h
/-- firebell/exact.More -/
def c148 : AC :=
 (.sq (.rg [.bx 2 (.s 0),
   .al 4 [(.int .u64 0), (.int .u64 0)],
   .mv 5 (.c (.int .i64 0))])
  (.sq (.rg [.fa 8 (.s 2) 1,
   .lds 9 (.s 8),
   .mv 10 (.s 1),
   .cl 11 178 [(.s 9), (.s 10)],
   .al 6 [(.int .u64 0), (.int .u64 0)],
   .st 2 (.s 6) (.s 11)])
  (.sq (.rg [.fa 12 (.s 2) 0,
   .lds 13 (.s 12),
   .mv 14 (.s 1),
   .cl 15 178 [(.s 13), (.s 14)],
   .al 7 [(.int .u64 0), (.int .u64 0)],
   .st 2 (.s 7) (.s 15)])
  (.sq (.sq (.rg [.fa 16 (.s 7) 0,
   .lds 17 (.s 16),
   .bi 18 .neq (.s 17) (.c (.int .u64 0))])
  (.cd (.s 18) (.sq (.rg [.bd 19 [(.int .u64 0), (.int .u64 0)] [],
   .st 2 (.s 4) (.s 19),
   .mv 5 (.c (.int .i64 3))])
  .rt) .sk))
  (.sq (.rg [.lda 20 2 (.s 6),
   .fa 21 (.s 7) 1,
   .lds 22 (.s 21),
   .bd 23 [(.int .u64 0), (.int .u64 0)] [(0, 1, (.s 22))],
   .cl 24 149 [(.s 20), (.s 23)],
   .exq 25 (.s 24) 0,
   .exq 26 (.s 24) 1,
   .st 2 (.s 4) (.s 25),
   .mv 5 (.s 26)])
  .rt)))))
def a148 : AF := ⟨c148, [.ca 4 2, .t 5], 2, 27⟩
theorem m148 : mF Tryd.prog gl drD Tryd.f148 a148 = true := by kernel_rfl
theorem s148 {l : List AV} {r : AV} (hl : l.length = 2) (hi : idsL l = []) (h : wpA (SpH Tryd.prog gl) c148 (postA [.ca 4 2, .t 5] r) ⟨initE 0 l, [], []⟩) : Sp Tryd.prog gl 148 l r :=
  @fun_sp Tryd.prog gl drD 148 Tryd.f148 a148 Tryd.func148 m148 (dok _) l r hl hi h
theorem h148 {d : Nat} {I : In} {O : Out} (hl : I.vs.length = 2) (h : wpA (SpH Tryd.prog gl) c148 (postH d [.ca 4 2, .t 5] O) (inSt I)) : SpH Tryd.prog gl 148 d I O :=
  @fun_spH Tryd.prog gl drD 148 Tryd.f148 a148 Tryd.func148 m148 (dok _) d I O hl h
/-- firebell/exact.Add -/
def c149 : AC :=
 (.sq (.rg [.bx 2 (.s 0),
   .bx 3 (.s 1),
   .al 4 [(.int .u64 0), (.int .u64 0)],
   .mv 5 (.c (.int .i64 0))])
  (.sq (.rg [.fa 11 (.s 2) 1,
   .lds 12 (.s 11),
   .fa 13 (.s 3) 1,
   .lds 14 (.s 13),
   .cl 15 179 [(.s 12), (.s 14), (.c (.int .u64 0))],
   .mv 10 (.s 15),
   .exq 16 (.s 10) 0,
   .exq 17 (.s 10) 1,
   .mv 6 (.s 16),
   .mv 7 (.s 17)])
  (.sq (.rg [.fa 19 (.s 2) 0,
   .lds 20 (.s 19),
   .fa 21 (.s 3) 0,
   .lds 22 (.s 21),
   .mv 23 (.s 7),
   .cl 24 179 [(.s 20), (.s 22), (.s 23)],
   .mv 18 (.s 24),
   .exq 25 (.s 18) 0,
   .exq 26 (.s 18) 1,
   .mv 8 (.s 25),
   .mv 9 (.s 26)])
  (.sq (.sq (.rg [.mv 27 (.s 9),
   .bi 28 .neq (.s 27) (.c (.int .u64 0))])
  (.cd (.s 28) (.sq (.rg [.bd 29 [(.int .u64 0), (.int .u64 0)] [],
   .st 2 (.s 4) (.s 29),
   .mv 5 (.c (.int .i64 3))])
  .rt) .sk))
  (.sq (.rg [.mv 30 (.s 8),
   .mv 31 (.s 6),
   .bd 32 [(.int .u64 0), (.int .u64 0)] [(0, 1, (.s 30)), (1, 1, (.s 31))],
   .st 2 (.s 4) (.s 32),
   .mv 5 (.c (.int .i64 0))])
  .rt)))))
def a149 : AF := ⟨c149, [.ca 4 2, .t 5], 2, 33⟩
theorem m149 : mF Tryd.prog gl drD Tryd.f149 a149 = true := by kernel_rfl
theorem s149 {l : List AV} {r : AV} (hl : l.length = 2) (hi : idsL l = []) (h : wpA (SpH Tryd.prog gl) c149 (postA [.ca 4 2, .t 5] r) ⟨initE 0 l, [], []⟩) : Sp Tryd.prog gl 149 l r :=
  @fun_sp Tryd.prog gl drD 149 Tryd.f149 a149 Tryd.func149 m149 (dok _) l r hl hi h
theorem h149 {d : Nat} {I : In} {O : Out} (hl : I.vs.length = 2) (h : wpA (SpH Tryd.prog gl) c149 (postH d [.ca 4 2, .t 5] O) (inSt I)) : SpH Tryd.prog gl 149 d I O :=
  @fun_spH Tryd.prog gl drD 149 Tryd.f149 a149 Tryd.func149 m149 (dok _) d I O hl h
/-- firebell/firebellref01.Plus -/
def c150 : AC :=
 (.sq (.rg [.mv 4 (.c .nils)])
  (.sq (.rg [.bs 9 1 [],
   .mo 5 9])
  (.sq (.rg [.mv 6 (.c (.int .i64 0))])
  (.sq (.sq (.rg [.mv 7 (.c (.int .i64 0))])
  (.bl 0 (.lp (.sq (.sq (.rg [.mv 10 (.s 7),
   .mv 11 (.s 0),
   .ln 12 (.s 11),
   .bi 13 .lss (.s 10) (.s 12),
   .mv 14 (.s 13),
   .gd 14 false 15 (.mv 15 (.s 7)),
   .gd 14 false 16 (.mv 16 (.s 1)),
   .gd 14 false 17 (.ln 17 (.s 16)),
   .gd 14 false 18 (.bi 18 .lss (.s 15) (.s 17)),
   .pk 19 (.s 14) (.c (.bool true)) (.s 18),
   .mv 20 (.s 19),
   .gd 20 false 21 (.mv 21 (.s 6)),
   .gd 20 false 22 (.bi 22 .gtr (.s 21) (.c (.int .i64 0))),
   .pk 23 (.s 20) (.c (.bool true)) (.s 22)])
  (.cd (.s 23) .sk (.ex 0)))
  (.sq (.bl 1 (.sq (.rg [.mv 26 (.s 0),
   .mv 27 (.s 7),
   .cl 28 180 [(.s 26), (.s 27)],
   .mv 29 (.s 1),
   .mv 30 (.s 7),
   .cl 31 180 [(.s 29), (.s 30)],
   .bi 32 .add (.s 28) (.s 31),
   .mv 33 (.s 6),
   .bi 34 .add (.s 32) (.s 33),
   .mv 8 (.s 34)])
  (.sq (.rg [.mo 35 5,
   .mv 36 (.s 8),
   .bi 37 .rem (.s 36) (.c (.int .i64 2)),
   .bi 38 .eql (.s 37) (.c (.int .i64 1)),
   .bs 39 1 [(.s 38)],
   .ap 40 1 1 (.s 35) (.s 39),
   .mo 5 40])
  (.rg [.mv 41 (.s 8),
   .bi 42 .quo (.s 41) (.c (.int .i64 2)),
   .mv 6 (.s 42)]))))
  (.rg [.mv 24 (.s 7),
   .bi 25 .add (.s 24) (.c (.int .i64 1)),
   .mv 7 (.s 25)]))))))
  (.sq (.rg [.mv 43 (.s 5),
   .mv 4 (.s 43)])
  .rt)))))
def a150 : AF := ⟨c150, [.t 4], 2, 44⟩
theorem m150 : mF Tryd.prog gl drD Tryd.f150 a150 = true := by kernel_rfl
theorem s150 {l : List AV} {r : AV} (hl : l.length = 2) (hi : idsL l = []) (h : wpA (SpH Tryd.prog gl) c150 (postA [.t 4] r) ⟨initE 0 l, [], []⟩) : Sp Tryd.prog gl 150 l r :=
  @fun_sp Tryd.prog gl drD 150 Tryd.f150 a150 Tryd.func150 m150 (dok _) l r hl hi h
theorem h150 {d : Nat} {I : In} {O : Out} (hl : I.vs.length = 2) (h : wpA (SpH Tryd.prog gl) c150 (postH d [.t 4] O) (inSt I)) : SpH Tryd.prog gl 150 d I O :=
  @fun_spH Tryd.prog gl drD 150 Tryd.f150 a150 Tryd.func150 m150 (dok _) d I O hl h
/-- firebell/firebellref01.Times -/
def c151 : AC :=
 (.sq (.rg [.mv 4 (.c .nils)])
  (.sq (.rg [.bs 8 1 [],
   .mv 5 (.s 8)])
  (.sq (.rg [.bs 9 1 [],
   .mv 10 (.s 0),
   .ap 11 1 1 (.s 9) (.s 10),
   .mv 6 (.s 11)])
  (.sq (.sq (.rg [.mv 7 (.c (.int .i64 0))])
  (.bl 0 (.lp (.sq (.sq (.rg [.mv 12 (.s 7),
   .mv 13 (.s 1),
   .ln 14 (.s 13),
   .bi 15 .lss (.s 12) (.s 14)])
  (.cd (.s 15) .sk (.ex 0)))
  (.sq (.bl 1 (.sq (.sq (.rg [.mv 18 (.s 1),
   .mv 19 (.s 7),
   .ia 20 1 (.s 18) (.s 19),
   .lds 21 (.s 20)])
  (.cd (.s 21) (.rg [.mv 22 (.s 5),
   .mv 23 (.s 6),
   .cl 24 150 [(.s 22), (.s 23)],
   .mv 5 (.s 24)]) .sk))
  (.rg [.bs 25 1 [(.c (.bool false))],
   .mv 26 (.s 6),
   .ap 27 1 1 (.s 25) (.s 26),
   .mv 6 (.s 27)])))
  (.rg [.mv 16 (.s 7),
   .bi 17 .add (.s 16) (.c (.int .i64 1)),
   .mv 7 (.s 17)]))))))
  (.sq (.rg [.mv 28 (.s 5),
   .mv 4 (.s 28)])
  .rt)))))
def a151 : AF := ⟨c151, [.t 4], 2, 29⟩
theorem m151 : mF Tryd.prog gl drD Tryd.f151 a151 = true := by kernel_rfl
theorem s151 {l : List AV} {r : AV} (hl : l.length = 2) (hi : idsL l = []) (h : wpA (SpH Tryd.prog gl) c151 (postA [.t 4] r) ⟨initE 0 l, [], []⟩) : Sp Tryd.prog gl 151 l r :=
  @fun_sp Tryd.prog gl drD 151 Tryd.f151 a151 Tryd.func151 m151 (dok _) l r hl hi h
theorem h151 {d : Nat} {I : In} {O : Out} (hl : I.vs.length = 2) (h : wpA (SpH Tryd.prog gl) c151 (postH d [.t 4] O) (inSt I)) : SpH Tryd.prog gl 151 d I O :=
  @fun_spH Tryd.prog gl drD 151 Tryd.f151 a151 Tryd.func151 m151 (dok _) d I O hl h
/-- firebell/firebellref01.Bits -/
def c152 : AC :=
 (.sq (.rg [.bx 1 (.s 0),
   .mv 2 (.c .nils)])
  (.sq (.rg [.bs 6 1 [],
   .mo 3 6])
  (.sq (.sq (.rg [.mv 4 (.c (.int .i64 0))])
  (.bl 0 (.lp (.sq (.sq (.rg [.mv 7 (.s 4),
   .bi 8 .lss (.s 7) (.c (.int .i64 128))])
  (.cd (.s 8) .sk (.ex 0)))
  (.sq (.bl 1 (.sq (.rg [.fa 11 (.s 1) 1,
   .lds 12 (.s 11),
   .mv 5 (.s 12)])
  (.sq (.sq (.rg [.mv 13 (.s 4),
   .bi 14 .geq (.s 13) (.c (.int .i64 64))])
  (.cd (.s 14) (.rg [.fa 15 (.s 1) 0,
   .lds 16 (.s 15),
   .mv 5 (.s 16)]) .sk))
  (.rg [.mo 17 3,
   .mv 18 (.s 5),
   .mv 19 (.s 4),
   .bi 20 .rem (.s 19) (.c (.int .i64 64)),
   .cv 21 .u64 (.s 20),
   .bi 22 .shr (.s 18) (.s 21),
   .bi 23 .rem (.s 22) (.c (.int .u64 2)),
   .bi 24 .eql (.s 23) (.c (.int .u64 1)),
   .bs 25 1 [(.s 24)],
   .ap 26 1 1 (.s 17) (.s 25),
   .mo 3 26]))))
  (.rg [.mv 9 (.s 4),
   .bi 10 .add (.s 9) (.c (.int .i64 1)),
   .mv 4 (.s 10)]))))))
  (.sq (.rg [.mv 27 (.s 3),
   .mv 2 (.s 27)])
  .rt))))
def a152 : AF := ⟨c152, [.t 2], 1, 28⟩
theorem m152 : mF Tryd.prog gl drD Tryd.f152 a152 = true := by kernel_rfl
theorem s152 {l : List AV} {r : AV} (hl : l.length = 1) (hi : idsL l = []) (h : wpA (SpH Tryd.prog gl) c152 (postA [.t 2] r) ⟨initE 0 l, [], []⟩) : Sp Tryd.prog gl 152 l r :=
  @fun_sp Tryd.prog gl drD 152 Tryd.f152 a152 Tryd.func152 m152 (dok _) l r hl hi h
theorem h152 {d : Nat} {I : In} {O : Out} (hl : I.vs.length = 1) (h : wpA (SpH Tryd.prog gl) c152 (postH d [.t 2] O) (inSt I)) : SpH Tryd.prog gl 152 d I O :=
  @fun_spH Tryd.prog gl drD 152 Tryd.f152 a152 Tryd.func152 m152 (dok _) d I O hl h
/-- firebell/firebellref01.Of -/
def c153 : AC :=
 (.sq (.rg [.al 2 [(.int .u64 0), (.int .u64 0)],
   .mv 3 (.c (.bool false))])
  (.sq (.rg [.bd 6 [(.int .u64 0), (.int .u64 0)] [],
   .al 4 [(.int .u64 0), (.int .u64 0)],
   .st 2 (.s 4) (.s 6)])
  (.sq (.sq (.rg [.mv 5 (.c (.int .i64 0))])
  (.bl 0 (.lp (.sq (.sq (.rg [.mv 7 (.s 5),
   .mv 8 (.s 0),
   .ln 9 (.s 8),
   .bi 10 .lss (.s 7) (.s 9)])
  (.cd (.s 10) .sk (.ex 0)))
  (.sq (.bl 1 (.sq (.sq (.rg [.mv 13 (.s 0),
   .mv 14 (.s 5),
   .ia 15 1 (.s 13) (.s 14),
   .lds 16 (.s 15),
   .un 17 .not (.s 16)])
  (.cd (.s 17) (.ex 1) .sk))
  (.sq (.sq (.rg [.mv 18 (.s 5),
   .bi 19 .geq (.s 18) (.c (.int .i64 128))])
  (.cd (.s 19) (.sq (.rg [.bd 20 [(.int .u64 0), (.int .u64 0)] [],
   .st 2 (.s 2) (.s 20),
   .mv 3 (.c (.bool false))])
  .rt) .sk))
  (.sq (.rg [.mv 21 (.s 5),
   .bi 22 .geq (.s 21) (.c (.int .i64 64))])
  (.cd (.s 22) (.rg [.fa 23 (.s 4) 0,
   .lds 24 (.s 23),
   .mv 25 (.s 5),
   .bi 26 .sub (.s 25) (.c (.int .i64 64)),
   .cv 27 .u64 (.s 26),
   .bi 28 .shl (.c (.int .u64 1)) (.s 27),
   .bi 29 .add (.s 24) (.s 28),
   .fa 30 (.s 4) 0,
   .st 1 (.s 30) (.s 29)]) (.rg [.fa 31 (.s 4) 1,
   .lds 32 (.s 31),
   .mv 33 (.s 5),
   .cv 34 .u64 (.s 33),
   .bi 35 .shl (.c (.int .u64 1)) (.s 34),
   .bi 36 .add (.s 32) (.s 35),
   .fa 37 (.s 4) 1,
   .st 1 (.s 37) (.s 36)]))))))
  (.rg [.mv 11 (.s 5),
   .bi 12 .add (.s 11) (.c (.int .i64 1)),
   .mv 5 (.s 12)]))))))
  (.sq (.rg [.lda 38 2 (.s 4),
   .st 2 (.s 2) (.s 38),
   .mv 3 (.c (.bool true))])
  .rt))))
def a153 : AF := ⟨c153, [.ca 2 2, .t 3], 1, 39⟩
theorem m153 : mF Tryd.prog gl drD Tryd.f153 a153 = true := by kernel_rfl
theorem s153 {l : List AV} {r : AV} (hl : l.length = 1) (hi : idsL l = []) (h : wpA (SpH Tryd.prog gl) c153 (postA [.ca 2 2, .t 3] r) ⟨initE 0 l, [], []⟩) : Sp Tryd.prog gl 153 l r :=
  @fun_sp Tryd.prog gl drD 153 Tryd.f153 a153 Tryd.func153 m153 (dok _) l r hl hi h
theorem h153 {d : Nat} {I : In} {O : Out} (hl : I.vs.length = 1) (h : wpA (SpH Tryd.prog gl) c153 (postH d [.ca 2 2, .t 3] O) (inSt I)) : SpH Tryd.prog gl 153 d I O :=
  @fun_spH Tryd.prog gl drD 153 Tryd.f153 a153 Tryd.func153 m153 (dok _) d I O hl h
/-- firebell/firebellref01.Digits -/
def c154 : AC :=
 (.sq (.rg [.mv 2 (.c (.str []))])
  (.sq (.rg [.bd 9 [(.int .u64 0), (.int .u64 0)] [(1, 1, (.c (.int .u64 10)))],
   .cl 10 152 [(.s 9)],
   .mv 3 (.s 10)])
  (.sq (.rg [.mv 4 (.c (.str []))])
  (.bl 0 (.lp (.bl 1 (.sq (.rg [.mv 12 (.s 0),
   .mv 13 (.s 3),
   .cl 14 181 [(.s 12), (.s 13)],
   .mv 11 (.s 14),
   .exq 15 (.s 11) 0,
   .exq 16 (.s 11) 1,
   .mv 5 (.s 15),
   .mv 6 (.s 16)])
  (.sq (.rg [.mv 18 (.s 6),
   .cl 19 153 [(.s 18)],
   .mv 17 (.s 19),
   .exq 20 (.s 17) 0,
   .exq 21 (.s 17) 1,
   .al 7 [(.int .u64 0), (.int .u64 0)],
   .st 2 (.s 7) (.s 20),
   .mv 8 (.s 21)])
  (.sq (.rg [.fa 22 (.s 7) 1,
   .lds 23 (.s 22),
   .cv 24 .u8 (.s 23),
   .bi 25 .add (.c (.int .u8 48)) (.s 24),
   .bs 26 1 [(.s 25)],
   .b2s 27 (.s 26),
   .mv 28 (.s 4),
   .bi 29 .add (.s 27) (.s 28),
   .mv 4 (.s 29)])
  (.sq (.sq (.rg [.mv 30 (.s 5),
   .cl 31 182 [(.s 30), (.c .nils)],
   .bi 32 .eql (.s 31) (.c (.int .i64 0))])
  (.cd (.s 32) (.sq (.rg [.mv 33 (.s 4),
   .mv 2 (.s 33)])
  .rt) .sk))
  (.rg [.mv 34 (.s 5),
   .mv 0 (.s 34)])))))))))))
def a154 : AF := ⟨c154, [.t 2], 1, 35⟩
theorem m154 : mF Tryd.prog gl drD Tryd.f154 a154 = true := by kernel_rfl
theorem s154 {l : List AV} {r : AV} (hl : l.length = 1) (hi : idsL l = []) (h : wpA (SpH Tryd.prog gl) c154 (postA [.t 2] r) ⟨initE 0 l, [], []⟩) : Sp Tryd.prog gl 154 l r :=
  @fun_sp Tryd.prog gl drD 154 Tryd.f154 a154 Tryd.func154 m154 (dok _) l r hl hi h
theorem h154 {d : Nat} {I : In} {O : Out} (hl : I.vs.length = 1) (h : wpA (SpH Tryd.prog gl) c154 (postH d [.t 2] O) (inSt I)) : SpH Tryd.prog gl 154 d I O :=
  @fun_spH Tryd.prog gl drD 154 Tryd.f154 a154 Tryd.func154 m154 (dok _) d I O hl h
/-- firebell/show.RightRule -/
def c164 : AC :=
 (.sq (.rg [.bx 2 (.s 0),
   .mv 4 (.c (.bool false))])
  (.sq (.rg [.mv 6 (.s 1),
   .bi 7 .gtr (.s 6) (.c (.int .i64 0)),
   .mv 8 (.s 7),
   .gd 8 true 9 (.fa 9 (.s 2) 3),
   .gd 8 true 10 (.lds 10 (.s 9)),
   .gd 8 true 11 (.fa 11 (.s 2) 2),
   .gd 8 true 12 (.lds 12 (.s 11)),
   .gd 8 true 13 (.cl 13 95 [(.s 10), (.c (.int .i64 1)), (.s 12)]),
   .pk 14 (.s 8) (.s 13) (.c (.bool false)),
   .mv 15 (.s 14),
   .gd 15 true 16 (.fa 16 (.s 2) 2),
   .gd 15 true 17 (.lds 17 (.s 16)),
   .gd 15 true 18 (.cl 18 95 [(.s 17), (.c (.int .i64 1)), (.c (.int .i64 34560000))]),
   .pk 19 (.s 15) (.s 18) (.c (.bool false)),
   .mv 5 (.s 19)])
  (.sq (.rg [.mv 20 (.s 5),
   .mv 21 (.s 20),
   .gd 21 true 22 (.fa 22 (.s 2) 0),
   .gd 21 true 23 (.lds 23 (.s 22)),
   .gd 21 true 24 (.cl 24 88 [(.s 23)]),
   .pk 25 (.s 21) (.s 24) (.c (.bool false)),
   .mv 26 (.s 25),
   .gd 26 true 27 (.fa 27 (.s 2) 2),
   .gd 26 true 28 (.lds 28 (.s 27)),
   .gd 26 true 29 (.mv 29 (.s 1)),
   .gd 26 true 30 (.bi 30 .rem (.s 28) (.s 29)),
   .gd 26 true 31 (.bi 31 .eql (.s 30) (.c (.int .i64 0))),
   .pk 32 (.s 26) (.s 31) (.c (.bool false)),
   .mv 33 (.s 32),
   .gd 33 true 34 (.fa 34 (.s 2) 3),
   .gd 33 true 35 (.lds 35 (.s 34)),
   .gd 33 true 36 (.mv 36 (.s 1)),
   .gd 33 true 37 (.bi 37 .rem (.s 35) (.s 36)),
   .gd 33 true 38 (.bi 38 .eql (.s 37) (.c (.int .i64 0))),
   .pk 39 (.s 33) (.s 38) (.c (.bool false)),
   .mv 40 (.s 39),
   .gd 40 true 41 (.fa 41 (.s 2) 4),
   .gd 40 true 42 (.lds 42 (.s 41)),
   .gd 40 true 43 (.cl 43 189 [(.s 42), (.c (.int .u64 1)), (.c (.int .u64 1000000))]),
   .pk 44 (.s 40) (.s 43) (.c (.bool false)),
   .mv 45 (.s 44),
   .gd 45 true 46 (.fa 46 (.s 2) 5),
   .gd 45 true 47 (.lds 47 (.s 46)),
   .gd 45 true 48 (.cl 48 95 [(.s 47), (.c (.int .i64 0)), (.c (.int .i64 604800))]),
   .pk 49 (.s 45) (.s 48) (.c (.bool false)),
   .mv 50 (.s 49),
   .gd 50 true 51 (.fa 51 (.s 2) 6),
   .gd 50 true 52 (.lds 52 (.s 51)),
   .gd 50 true 53 (.cl 53 95 [(.s 52), (.c (.int .i64 0)), (.c (.int .i64 604800))]),
   .pk 54 (.s 50) (.s 53) (.c (.bool false)),
   .mv 4 (.s 54)])
  .rt)))
def a164 : AF := ⟨c164, [.t 4], 2, 55⟩
theorem m164 : mF Tryd.prog gl drD Tryd.f164 a164 = true := by kernel_rfl
theorem s164 {l : List AV} {r : AV} (hl : l.length = 2) (hi : idsL l = []) (h : wpA (SpH Tryd.prog gl) c164 (postA [.t 4] r) ⟨initE 0 l, [], []⟩) : Sp Tryd.prog gl 164 l r :=
  @fun_sp Tryd.prog gl drD 164 Tryd.f164 a164 Tryd.func164 m164 (dok _) l r hl hi h
theorem h164 {d : Nat} {I : In} {O : Out} (hl : I.vs.length = 2) (h : wpA (SpH Tryd.prog gl) c164 (postH d [.t 4] O) (inSt I)) : SpH Tryd.prog gl 164 d I O :=
  @fun_spH Tryd.prog gl drD 164 Tryd.f164 a164 Tryd.func164 m164 (dok _) d I O hl h
/-- firebell/exact.Times -/
def c178 : AC :=
 (.sq (.rg [.al 4 [(.int .u64 0), (.int .u64 0)]])
  (.sq (.rg [.mv 8 (.s 0),
   .mv 9 (.s 1),
   .cl 10 196 [(.s 8), (.s 9)],
   .mv 7 (.s 10),
   .exq 11 (.s 7) 0,
   .exq 12 (.s 7) 1,
   .mv 5 (.s 11),
   .mv 6 (.s 12)])
  (.sq (.rg [.mv 13 (.s 5),
   .mv 14 (.s 6),
   .bd 15 [(.int .u64 0), (.int .u64 0)] [(0, 1, (.s 13)), (1, 1, (.s 14))],
   .st 2 (.s 4) (.s 15)])
  .rt)))
def a178 : AF := ⟨c178, [.ca 4 2], 2, 16⟩
theorem m178 : mF Tryd.prog gl drD Tryd.f178 a178 = true := by kernel_rfl
theorem s178 {l : List AV} {r : AV} (hl : l.length = 2) (hi : idsL l = []) (h : wpA (SpH Tryd.prog gl) c178 (postA [.ca 4 2] r) ⟨initE 0 l, [], []⟩) : Sp Tryd.prog gl 178 l r :=
  @fun_sp Tryd.prog gl drD 178 Tryd.f178 a178 Tryd.func178 m178 (dok _) l r hl hi h
theorem h178 {d : Nat} {I : In} {O : Out} (hl : I.vs.length = 2) (h : wpA (SpH Tryd.prog gl) c178 (postH d [.ca 4 2] O) (inSt I)) : SpH Tryd.prog gl 178 d I O :=
  @fun_spH Tryd.prog gl drD 178 Tryd.f178 a178 Tryd.func178 m178 (dok _) d I O hl h
/-- firebell/firebellref01.at -/
def c180 : AC :=
 (.sq (.rg [.mv 4 (.c (.int .i64 0))])
  (.sq (.sq (.rg [.mv 5 (.s 1),
   .mv 6 (.s 0),
   .ln 7 (.s 6),
   .bi 8 .lss (.s 5) (.s 7),
   .mv 9 (.s 8),
   .gd 9 true 10 (.mv 10 (.s 0)),
   .gd 9 true 11 (.mv 11 (.s 1)),
   .gd 9 true 12 (.ia 12 1 (.s 10) (.s 11)),
   .gd 9 true 13 (.lds 13 (.s 12)),
   .pk 14 (.s 9) (.s 13) (.c (.bool false))])
  (.cd (.s 14) (.sq (.rg [.mv 4 (.c (.int .i64 1))])
  .rt) .sk))
  (.sq (.rg [.mv 4 (.c (.int .i64 0))])
  .rt)))
def a180 : AF := ⟨c180, [.t 4], 2, 15⟩
theorem m180 : mF Tryd.prog gl drD Tryd.f180 a180 = true := by kernel_rfl
theorem s180 {l : List AV} {r : AV} (hl : l.length = 2) (hi : idsL l = []) (h : wpA (SpH Tryd.prog gl) c180 (postA [.t 4] r) ⟨initE 0 l, [], []⟩) : Sp Tryd.prog gl 180 l r :=
  @fun_sp Tryd.prog gl drD 180 Tryd.f180 a180 Tryd.func180 m180 (dok _) l r hl hi h
theorem h180 {d : Nat} {I : In} {O : Out} (hl : I.vs.length = 2) (h : wpA (SpH Tryd.prog gl) c180 (postH d [.t 4] O) (inSt I)) : SpH Tryd.prog gl 180 d I O :=
  @fun_spH Tryd.prog gl drD 180 Tryd.f180 a180 Tryd.func180 m180 (dok _) d I O hl h
/-- firebell/firebellref01.Divide -/
def c181 : AC :=
 (.sq (.rg [.mv 4 (.c .nils),
   .mv 5 (.c .nils)])
  (.sq (.rg [.mv 9 (.s 0),
   .ln 10 (.s 9),
   .mkm 11 1 1 [(.bool false)] (.s 10) (.s 10),
   .mv 6 (.s 11)])
  (.sq (.rg [.bs 12 1 [],
   .mv 7 (.s 12)])
  (.sq (.sq (.rg [.mv 13 (.s 0),
   .ln 14 (.s 13),
   .bi 15 .sub (.s 14) (.c (.int .i64 1)),
   .mv 8 (.s 15)])
  (.bl 0 (.lp (.sq (.sq (.rg [.mv 16 (.s 8),
   .bi 17 .geq (.s 16) (.c (.int .i64 0))])
  (.cd (.s 17) .sk (.ex 0)))
  (.sq (.bl 1 (.sq (.rg [.mv 20 (.s 0),
   .mv 21 (.s 8),
   .ia 22 1 (.s 20) (.s 21),
   .lds 23 (.s 22),
   .bs 24 1 [(.s 23)],
   .mv 25 (.s 7),
   .ap 26 1 1 (.s 24) (.s 25),
   .mv 7 (.s 26)])
  (.sq (.rg [.mv 27 (.s 7),
   .mv 28 (.s 1),
   .cl 29 182 [(.s 27), (.s 28)],
   .bi 30 .geq (.s 29) (.c (.int .i64 0))])
  (.cd (.s 30) (.sq (.rg [.mv 31 (.s 7),
   .mv 32 (.s 1),
   .cl 33 197 [(.s 31), (.s 32)],
   .mv 7 (.s 33)])
  (.rg [.mv 34 (.s 6),
   .mv 35 (.s 8),
   .ia 36 1 (.s 34) (.s 35),
   .st 1 (.s 36) (.c (.bool true))])) .sk))))
  (.rg [.mv 18 (.s 8),
   .bi 19 .sub (.s 18) (.c (.int .i64 1)),
   .mv 8 (.s 19)]))))))
  (.sq (.rg [.mv 37 (.s 6),
   .mv 38 (.s 7),
   .mv 4 (.s 37),
   .mv 5 (.s 38)])
  .rt)))))
def a181 : AF := ⟨c181, [.t 4, .t 5], 2, 39⟩
theorem m181 : mF Tryd.prog gl drD Tryd.f181 a181 = true := by kernel_rfl
theorem s181 {l : List AV} {r : AV} (hl : l.length = 2) (hi : idsL l = []) (h : wpA (SpH Tryd.prog gl) c181 (postF [.t 4, .t 5] r) ⟨initE 0 l, [], []⟩) : Sp Tryd.prog gl 181 l r :=
  @fun_spF Tryd.prog gl drD 181 Tryd.f181 a181 Tryd.func181 m181 (dok _) l r hl hi h
theorem h181 {d : Nat} {I : In} {O : Out} (hl : I.vs.length = 2) (h : wpA (SpH Tryd.prog gl) c181 (postH d [.t 4, .t 5] O) (inSt I)) : SpH Tryd.prog gl 181 d I O :=
  @fun_spH Tryd.prog gl drD 181 Tryd.f181 a181 Tryd.func181 m181 (dok _) d I O hl h
/-- firebell/firebellref01.Compare -/
def c182 : AC :=
 (.sq (.rg [.mv 4 (.c (.int .i64 0))])
  (.sq (.rg [.mv 7 (.s 0),
   .ln 8 (.s 7),
   .mv 5 (.s 8)])
  (.sq (.sq (.rg [.mv 9 (.s 1),
   .ln 10 (.s 9),
   .mv 11 (.s 5),
   .bi 12 .gtr (.s 10) (.s 11)])
  (.cd (.s 12) (.rg [.mv 13 (.s 1),
   .ln 14 (.s 13),
   .mv 5 (.s 14)]) .sk))
  (.sq (.sq (.rg [.mv 15 (.s 5),
   .bi 16 .sub (.s 15) (.c (.int .i64 1)),
   .mv 6 (.s 16)])
  (.bl 0 (.lp (.sq (.sq (.rg [.mv 17 (.s 6),
   .bi 18 .geq (.s 17) (.c (.int .i64 0))])
  (.cd (.s 18) .sk (.ex 0)))
  (.sq (.bl 1 (.sq (.rg [.mv 21 (.s 0),
   .mv 22 (.s 6),
   .cl 23 180 [(.s 21), (.s 22)],
   .mv 24 (.s 1),
   .mv 25 (.s 6),
   .cl 26 180 [(.s 24), (.s 25)],
   .bi 27 .neq (.s 23) (.s 26)])
  (.cd (.s 27) (.sq (.rg [.mv 28 (.s 0),
   .mv 29 (.s 6),
   .cl 30 180 [(.s 28), (.s 29)],
   .mv 31 (.s 1),
   .mv 32 (.s 6),
   .cl 33 180 [(.s 31), (.s 32)],
   .bi 34 .sub (.s 30) (.s 33),
   .mv 4 (.s 34)])
  .rt) .sk)))
  (.rg [.mv 19 (.s 6),
   .bi 20 .sub (.s 19) (.c (.int .i64 1)),
   .mv 6 (.s 20)]))))))
  (.sq (.rg [.mv 4 (.c (.int .i64 0))])
  .rt)))))
def a182 : AF := ⟨c182, [.t 4], 2, 35⟩
theorem m182 : mF Tryd.prog gl drD Tryd.f182 a182 = true := by kernel_rfl
theorem s182 {l : List AV} {r : AV} (hl : l.length = 2) (hi : idsL l = []) (h : wpA (SpH Tryd.prog gl) c182 (postA [.t 4] r) ⟨initE 0 l, [], []⟩) : Sp Tryd.prog gl 182 l r :=
  @fun_sp Tryd.prog gl drD 182 Tryd.f182 a182 Tryd.func182 m182 (dok _) l r hl hi h
theorem h182 {d : Nat} {I : In} {O : Out} (hl : I.vs.length = 2) (h : wpA (SpH Tryd.prog gl) c182 (postH d [.t 4] O) (inSt I)) : SpH Tryd.prog gl 182 d I O :=
  @fun_spH Tryd.prog gl drD 182 Tryd.f182 a182 Tryd.func182 m182 (dok _) d I O hl h
/-- math/bits.Mul64 -/
def c196 : AC :=
 (.sq (.rg [.mv 4 (.c (.int .u64 0)),
   .mv 5 (.c (.int .u64 0))])
  (.sq (.rg [.mv 14 (.s 0),
   .bi 15 .and (.s 14) (.c (.int .u64 4294967295)),
   .mv 6 (.s 15)])
  (.sq (.rg [.mv 16 (.s 0),
   .bi 17 .shr (.s 16) (.c (.int .u64 32)),
   .mv 7 (.s 17)])
  (.sq (.rg [.mv 18 (.s 1),
   .bi 19 .and (.s 18) (.c (.int .u64 4294967295)),
   .mv 8 (.s 19)])
  (.sq (.rg [.mv 20 (.s 1),
   .bi 21 .shr (.s 20) (.c (.int .u64 32)),
   .mv 9 (.s 21)])
  (.sq (.rg [.mv 22 (.s 6),
   .mv 23 (.s 8),
   .bi 24 .mul (.s 22) (.s 23),
   .mv 10 (.s 24)])
  (.sq (.rg [.mv 25 (.s 7),
   .mv 26 (.s 8),
   .bi 27 .mul (.s 25) (.s 26),
   .mv 28 (.s 10),
   .bi 29 .shr (.s 28) (.c (.int .u64 32)),
   .bi 30 .add (.s 27) (.s 29),
   .mv 11 (.s 30)])
  (.sq (.rg [.mv 31 (.s 11),
   .bi 32 .and (.s 31) (.c (.int .u64 4294967295)),
   .mv 12 (.s 32)])
  (.sq (.rg [.mv 33 (.s 11),
   .bi 34 .shr (.s 33) (.c (.int .u64 32)),
   .mv 13 (.s 34)])
  (.sq (.rg [.mv 35 (.s 12),
   .mv 36 (.s 6),
   .mv 37 (.s 9),
   .bi 38 .mul (.s 36) (.s 37),
   .bi 39 .add (.s 35) (.s 38),
   .mv 12 (.s 39)])
  (.sq (.rg [.mv 40 (.s 7),
   .mv 41 (.s 9),
   .bi 42 .mul (.s 40) (.s 41),
   .mv 43 (.s 13),
   .bi 44 .add (.s 42) (.s 43),
   .mv 45 (.s 12),
   .bi 46 .shr (.s 45) (.c (.int .u64 32)),
   .bi 47 .add (.s 44) (.s 46),
   .mv 4 (.s 47)])
  (.sq (.rg [.mv 48 (.s 0),
   .mv 49 (.s 1),
   .bi 50 .mul (.s 48) (.s 49),
   .mv 5 (.s 50)])
  .rt))))))))))))
def a196 : AF := ⟨c196, [.t 4, .t 5], 2, 51⟩
theorem m196 : mF Tryd.prog gl drD Tryd.f196 a196 = true := by kernel_rfl
theorem s196 {l : List AV} {r : AV} (hl : l.length = 2) (hi : idsL l = []) (h : wpA (SpH Tryd.prog gl) c196 (postA [.t 4, .t 5] r) ⟨initE 0 l, [], []⟩) : Sp Tryd.prog gl 196 l r :=
  @fun_sp Tryd.prog gl drD 196 Tryd.f196 a196 Tryd.func196 m196 (dok _) l r hl hi h
theorem h196 {d : Nat} {I : In} {O : Out} (hl : I.vs.length = 2) (h : wpA (SpH Tryd.prog gl) c196 (postH d [.t 4, .t 5] O) (inSt I)) : SpH Tryd.prog gl 196 d I O :=
  @fun_spH Tryd.prog gl drD 196 Tryd.f196 a196 Tryd.func196 m196 (dok _) d I O hl h
/-- firebell/firebellref01.Minus -/
def c197 : AC :=
 (.sq (.rg [.mv 4 (.c .nils)])
  (.sq (.rg [.bs 9 1 [],
   .mo 5 9])
  (.sq (.rg [.mv 6 (.c (.int .i64 0))])
  (.sq (.sq (.rg [.mv 7 (.c (.int .i64 0))])
  (.bl 0 (.lp (.sq (.sq (.rg [.mv 10 (.s 7),
   .mv 11 (.s 0),
   .ln 12 (.s 11),
   .bi 13 .lss (.s 10) (.s 12)])
  (.cd (.s 13) .sk (.ex 0)))
  (.sq (.bl 1 (.sq (.rg [.mv 16 (.s 0),
   .mv 17 (.s 7),
   .cl 18 180 [(.s 16), (.s 17)],
   .mv 19 (.s 1),
   .mv 20 (.s 7),
   .cl 21 180 [(.s 19), (.s 20)],
   .bi 22 .sub (.s 18) (.s 21),
   .mv 23 (.s 6),
   .bi 24 .sub (.s 22) (.s 23),
   .mv 8 (.s 24)])
  (.sq (.rg [.mv 6 (.c (.int .i64 0))])
  (.sq (.sq (.rg [.mv 25 (.s 8),
   .bi 26 .lss (.s 25) (.c (.int .i64 0))])
  (.cd (.s 26) (.sq (.rg [.mv 27 (.s 8),
   .bi 28 .add (.s 27) (.c (.int .i64 2)),
   .mv 8 (.s 28)])
  (.rg [.mv 6 (.c (.int .i64 1))])) .sk))
  (.rg [.mo 29 5,
   .mv 30 (.s 8),
   .bi 31 .eql (.s 30) (.c (.int .i64 1)),
   .bs 32 1 [(.s 31)],
   .ap 33 1 1 (.s 29) (.s 32),
   .mo 5 33])))))
  (.rg [.mv 14 (.s 7),
   .bi 15 .add (.s 14) (.c (.int .i64 1)),
   .mv 7 (.s 15)]))))))
  (.sq (.rg [.mv 34 (.s 5),
   .mv 4 (.s 34)])
  .rt)))))
def a197 : AF := ⟨c197, [.t 4], 2, 35⟩
theorem m197 : mF Tryd.prog gl drD Tryd.f197 a197 = true := by kernel_rfl
theorem s197 {l : List AV} {r : AV} (hl : l.length = 2) (hi : idsL l = []) (h : wpA (SpH Tryd.prog gl) c197 (postA [.t 4] r) ⟨initE 0 l, [], []⟩) : Sp Tryd.prog gl 197 l r :=
  @fun_sp Tryd.prog gl drD 197 Tryd.f197 a197 Tryd.func197 m197 (dok _) l r hl hi h
theorem h197 {d : Nat} {I : In} {O : Out} (hl : I.vs.length = 2) (h : wpA (SpH Tryd.prog gl) c197 (postH d [.t 4] O) (inSt I)) : SpH Tryd.prog gl 197 d I O :=
  @fun_spH Tryd.prog gl drD 197 Tryd.f197 a197 Tryd.func197 m197 (dok _) d I O hl h
end Go.Ai
