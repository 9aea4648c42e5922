/- YtcdomokjdfmnlaaDoorCode: part of the abstract interpreter library (values, rules, soundness against the model) or of what a function of the seat computes. Conditions: as each theorem says. -/
import Derived.Test.YtcdomokjdfmnlaaDoorAiUse
import Derived.Test.YtcdomokjdfmnlaaDoorAiExt
import Derived.Test.YtcdomokjdfmnlaaDoorAiFunH
import Derived.Test.YtcdomokjdfmnlaaDoorProg
namespace Go.Ai
open Go.Proofs
theorem mix : Tryd.prog.follows .mixedOrders = true := by kernel_rfl
def gl : List (Nat × List Value) := [(2, [Value.int .u8 240, Value.int .u8 240, Value.int .u8 240, Value.int .u8 240, Value.int .u8 240, Value.int .u8 240, Value.int .u8 240, Value.int .u8 240, Value.int .u8 240, Value.int .u8 240, Value.int .u8 240, Value.int .u8 240, Value.int .u8 240, Value.int .u8 240, Value.int .u8 240, Value.int .u8 240, Value.int .u8 240, Value.int .u8 240, Value.int .u8 240, Value.int .u8 240, Value.int .u8 240, Value.int .u8 240, Value.int .u8 240, Value.int .u8 240, Value.int .u8 240, Value.int .u8 240, Value.int .u8 240, Value.int .u8 240, Value.int .u8 240, Value.int .u8 240, Value.int .u8 240, Value.int .u8 240, Value.int .u8 240, Value.int .u8 240, Value.int .u8 240, Value.int .u8 240, Value.int .u8 240, Value.int .u8 240, Value.int .u8 240, Value.int .u8 240, Value.int .u8 240, Value.int .u8 240, Value.int .u8 240, Value.int .u8 240, Value.int .u8 240, Value.int .u8 240, Value.int .u8 240, Value.int .u8 240, Value.int .u8 240, Value.int .u8 240, Value.int .u8 240, Value.int .u8 240, Value.int .u8 240, Value.int .u8 240, Value.int .u8 240, Value.int .u8 240, Value.int .u8 240, Value.int .u8 240, Value.int .u8 240, Value.int .u8 240, Value.int .u8 240, Value.int .u8 240, Value.int .u8 240, Value.int .u8 240, Value.int .u8 240, Value.int .u8 240, Value.int .u8 240, Value.int .u8 240, Value.int .u8 240, Value.int .u8 240, Value.int .u8 240, Value.int .u8 240, Value.int .u8 240, Value.int .u8 240, Value.int .u8 240, Value.int .u8 240, Value.int .u8 240, Value.int .u8 240, Value.int .u8 240, Value.int .u8 240, Value.int .u8 240, Value.int .u8 240, Value.int .u8 240, Value.int .u8 240, Value.int .u8 240, Value.int .u8 240, Value.int .u8 240, Value.int .u8 240, Value.int .u8 240, Value.int .u8 240, Value.int .u8 240, Value.int .u8 240, Value.int .u8 240, Value.int .u8 240, Value.int .u8 240, Value.int .u8 240, Value.int .u8 240, Value.int .u8 240, Value.int .u8 240, Value.int .u8 240, Value.int .u8 240, Value.int .u8 240, Value.int .u8 240, Value.int .u8 240, Value.int .u8 240, Value.int .u8 240, Value.int .u8 240, Value.int .u8 240, Value.int .u8 240, Value.int .u8 240, Value.int .u8 240, Value.int .u8 240, Value.int .u8 240, Value.int .u8 240, Value.int .u8 240, Value.int .u8 240, Value.int .u8 240, Value.int .u8 240, Value.int .u8 240, Value.int .u8 240, Value.int .u8 240, Value.int .u8 240, Value.int .u8 240, Value.int .u8 240, Value.int .u8 240, Value.int .u8 240, Value.int .u8 240, Value.int .u8 240, Value.int .u8 241, Value.int .u8 241, Value.int .u8 241, Value.int .u8 241, Value.int .u8 241, Value.int .u8 241, Value.int .u8 241, Value.int .u8 241, Value.int .u8 241, Value.int .u8 241, Value.int .u8 241, Value.int .u8 241, Value.int .u8 241, Value.int .u8 241, Value.int .u8 241, Value.int .u8 241, Value.int .u8 241, Value.int .u8 241, Value.int .u8 241, Value.int .u8 241, Value.int .u8 241, Value.int .u8 241, Value.int .u8 241, Value.int .u8 241, Value.int .u8 241, Value.int .u8 241, Value.int .u8 241, Value.int .u8 241, Value.int .u8 241, Value.int .u8 241, Value.int .u8 241, Value.int .u8 241, Value.int .u8 241, Value.int .u8 241, Value.int .u8 241, Value.int .u8 241, Value.int .u8 241, Value.int .u8 241, Value.int .u8 241, Value.int .u8 241, Value.int .u8 241, Value.int .u8 241, Value.int .u8 241, Value.int .u8 241, Value.int .u8 241, Value.int .u8 241, Value.int .u8 241, Value.int .u8 241, Value.int .u8 241, Value.int .u8 241, Value.int .u8 241, Value.int .u8 241, Value.int .u8 241, Value.int .u8 241, Value.int .u8 241, Value.int .u8 241, Value.int .u8 241, Value.int .u8 241, Value.int .u8 241, Value.int .u8 241, Value.int .u8 241, Value.int .u8 241, Value.int .u8 241, Value.int .u8 241, Value.int .u8 241, Value.int .u8 241, Value.int .u8 2, Value.int .u8 2, Value.int .u8 2, Value.int .u8 2, Value.int .u8 2, Value.int .u8 2, Value.int .u8 2, Value.int .u8 2, Value.int .u8 2, Value.int .u8 2, Value.int .u8 2, Value.int .u8 2, Value.int .u8 2, Value.int .u8 2, Value.int .u8 2, Value.int .u8 2, Value.int .u8 2, Value.int .u8 2, Value.int .u8 2, Value.int .u8 2, Value.int .u8 2, Value.int .u8 2, Value.int .u8 2, Value.int .u8 2, Value.int .u8 2, Value.int .u8 2, Value.int .u8 2, Value.int .u8 2, Value.int .u8 2, Value.int .u8 2, Value.int .u8 19, Value.int .u8 3, Value.int .u8 3, Value.int .u8 3, Value.int .u8 3, Value.int .u8 3, Value.int .u8 3, Value.int .u8 3, Value.int .u8 3, Value.int .u8 3, Value.int .u8 3, Value.int .u8 3, Value.int .u8 3, Value.int .u8 35, Value.int .u8 3, Value.int .u8 3, Value.int .u8 52, Value.int .u8 4, Value.int .u8 4, Value.int .u8 4, Value.int .u8 68, Value.int .u8 241, Value.int .u8 241, Value.int .u8 241, Value.int .u8 241, Value.int .u8 241, Value.int .u8 241, Value.int .u8 241, Value.int .u8 241, Value.int .u8 241, Value.int .u8 241, Value.int .u8 241]), (3, [Value.int .u8 128, Value.int .u8 191, Value.int .u8 160, Value.int .u8 191, Value.int .u8 128, Value.int .u8 159, Value.int .u8 144, Value.int .u8 191, Value.int .u8 128, Value.int .u8 143, Value.int .u8 0, Value.int .u8 0, Value.int .u8 0, Value.int .u8 0, Value.int .u8 0, Value.int .u8 0, Value.int .u8 0, Value.int .u8 0, Value.int .u8 0, Value.int .u8 0, Value.int .u8 0, Value.int .u8 0, Value.int .u8 0, Value.int .u8 0, Value.int .u8 0, Value.int .u8 0, Value.int .u8 0, Value.int .u8 0, Value.int .u8 0, Value.int .u8 0, Value.int .u8 0, Value.int .u8 0])]
theorem dok (N : Nat) : DrawsOk Tryd.prog gl N drD := draws_ok mix
/-- firebell/firebelllaw25.KeyBytes -/
def c3 : AC :=
 (.sq (.rg [.bx 2 (.s 0),
   .mv 4 (.c (.bool false))])
  (.sq (.sq (.rg [.cl 13 8 [],
   .un 14 .not (.s 13)])
  (.cd (.s 14) (.sq (.rg [.mv 4 (.c (.bool false))])
  .rt) .sk))
  (.sq (.sq (.rg [.lda 15 5 (.s 2),
   .cl 16 9 [(.s 15)],
   .mv 17 (.s 16),
   .gd 17 false 18 (.mv 18 (.s 1)),
   .gd 17 false 19 (.ln 19 (.s 18)),
   .gd 17 false 20 (.bi 20 .gtr (.s 19) (.c (.int .i64 500))),
   .pk 21 (.s 17) (.c (.bool true)) (.s 20)])
  (.cd (.s 21) (.sq (.rg [.mv 4 (.c (.bool true))])
  .rt) .sk))
  (.sq (.rg [.bs 22 1 [(.c (.int .u8 9))],
   .lda 23 5 (.s 2),
   .ca 24 10 (some (.s 22)) [(.s 23)],
   .mv 5 (.s 24)])
  (.sq (.rg [.mv 25 (.s 5),
   .slc 26 1 (.s 25) (some (.c (.int .i64 1))) none,
   .ce 27 11 [(.s 26)],
   .mv 6 (.s 27)])
  (.sq (.rg [.mv 28 (.s 6),
   .ce 29 12 [(.s 28)],
   .al 7 [(.str []), (.str []), (.bool false), (.int .u64 0), (.bool false)],
   .st 5 (.s 7) (.s 29)])
  (.sq (.sq (.rd [[], [], [], [], [], [], [], [], [], [], [], [], []] [.mv 30 (.s 5),
   .ia 31 1 (.s 30) (.c (.int .i64 0)),
   .lds 32 (.s 31),
   .bi 33 .neq (.s 32) (.c (.int .u8 9)),
   .mv 34 (.s 33),
   .gd 34 false 35 (.mv 35 (.s 5)),
   .gd 34 false 36 (.slc 36 1 (.s 35) (some (.c (.int .i64 1))) none),
   .gd 34 false 37 (.bq 37 (.s 36)),
   .gd 34 false 38 (.lda 38 5 (.s 2)),
   .gd 34 false 39 (.cl 39 13 [(.s 38)]),
   .gd 34 false 40 (.bq 40 (.s 39)),
   .gd 34 false 41 (.bi 41 .neq (.s 37) (.s 40)),
   .pk 42 (.s 34) (.c (.bool true)) (.s 41)])
  (.cd (.s 42) (.sq (.rg [.mv 4 (.c (.bool false))])
  .rt) .sk))
  (.sq (.sq (.rg [.lda 43 5 (.s 2),
   .cl 44 14 [(.s 43)],
   .mv 45 (.s 44),
   .gd 45 true 46 (.lda 46 5 (.s 7)),
   .gd 45 true 47 (.lda 47 5 (.s 2)),
   .gd 45 true 48 (.ea 48 true [.s, .s, .b, .i, .b] (.s 46) (.s 47)),
   .gd 45 true 49 (.mv 49 (.s 48)),
   .gd 49 false 50 (.mv 50 (.s 6)),
   .gd 49 false 51 (.ce 51 15 [(.s 50)]),
   .gd 49 false 52 (.bi 52 .neq (.s 51) (.c (.int .i64 0))),
   .gd 45 true 53 (.pk 53 (.s 49) (.c (.bool true)) (.s 52)),
   .pk 54 (.s 45) (.s 53) (.c (.bool false)),
   .mv 55 (.s 54),
   .gd 55 false 56 (.lda 56 5 (.s 2)),
   .gd 55 false 57 (.cl 57 14 [(.s 56)]),
   .gd 55 false 58 (.un 58 .not (.s 57)),
   .gd 55 false 59 (.mv 59 (.s 58)),
   .gd 59 true 60 (.lda 60 5 (.s 7)),
   .gd 59 true 61 (.bd 61 [(.str []), (.str []), (.bool false), (.int .u64 0), (.bool false)] []),
   .gd 59 true 62 (.ea 62 true [.s, .s, .b, .i, .b] (.s 60) (.s 61)),
   .gd 59 true 63 (.mv 63 (.s 62)),
   .gd 63 false 64 (.mv 64 (.s 6)),
   .gd 63 false 65 (.ce 65 16 [(.s 64)]),
   .gd 63 false 66 (.un 66 .not (.s 65)),
   .gd 59 true 67 (.pk 67 (.s 63) (.c (.bool true)) (.s 66)),
   .gd 55 false 68 (.pk 68 (.s 59) (.s 67) (.c (.bool false))),
   .pk 69 (.s 55) (.c (.bool true)) (.s 68)])
  (.cd (.s 69) (.sq (.rg [.mv 4 (.c (.bool false))])
  .rt) .sk))
  (.sq (.rg [.mv 70 (.s 1),
   .ce 71 11 [(.s 70)],
   .mv 8 (.s 71)])
  (.sq (.rg [.mv 72 (.s 8),
   .ce 73 12 [(.s 72)],
   .al 9 [(.str []), (.str []), (.bool false), (.int .u64 0), (.bool false)],
   .st 5 (.s 9) (.s 73)])
  (.sq (.rg [.mv 75 (.s 1),
   .cl 76 17 [(.s 75), (.c (.int .i64 0))],
   .mv 74 (.s 76),
   .exq 77 (.s 74) 0,
   .exq 78 (.s 74) 1,
   .exq 79 (.s 74) 2,
   .al 10 [(.str []), (.str []), (.bool false), (.int .u64 0), (.bool false)],
   .st 5 (.s 10) (.s 77),
   .mv 11 (.s 78),
   .mv 12 (.s 79)])
  (.sq (.sq (.rg [.mv 80 (.s 12),
   .un 81 .not (.s 80)])
  (.cd (.s 81) (.sq (.rg [.lda 82 5 (.s 9),
   .bd 83 [(.str []), (.str []), (.bool false), (.int .u64 0), (.bool false)] [],
   .ea 84 false [.s, .s, .b, .i, .b] (.s 82) (.s 83),
   .mv 85 (.s 84),
   .gd 85 true 86 (.mv 86 (.s 8)),
   .gd 85 true 87 (.ce 87 16 [(.s 86)]),
   .pk 88 (.s 85) (.s 87) (.c (.bool false)),
   .mv 4 (.s 88)])
  .rt) .sk))
  (.sq (.rg [.lda 89 5 (.s 9),
   .lda 90 5 (.s 10),
   .ea 91 false [.s, .s, .b, .i, .b] (.s 89) (.s 90),
   .mv 92 (.s 91),
   .gd 92 true 93 (.mv 93 (.s 8)),
   .gd 92 true 94 (.ce 94 16 [(.s 93)]),
   .gd 92 true 95 (.un 95 .not (.s 94)),
   .pk 96 (.s 92) (.s 95) (.c (.bool false)),
   .mv 97 (.s 96),
   .gd 97 true 98 (.mv 98 (.s 8)),
   .gd 97 true 99 (.ce 99 18 [(.s 98)]),
   .gd 97 true 100 (.mv 100 (.s 1)),
   .gd 97 true 101 (.ln 101 (.s 100)),
   .gd 97 true 102 (.mv 102 (.s 11)),
   .gd 97 true 103 (.bi 103 .sub (.s 101) (.s 102)),
   .gd 97 true 104 (.bi 104 .eql (.s 99) (.s 103)),
   .pk 105 (.s 97) (.s 104) (.c (.bool false)),
   .mv 4 (.s 105)])
  .rt)))))))))))))
def a3 : AF := ⟨c3, [.t 4], 2, 106⟩
theorem m3 : mF Tryd.prog gl drD Tryd.f3 a3 = true := by kernel_rfl
theorem s3 {l : List AV} {r : AV} (hl : l.length = 2) (hi : idsL l = []) (h : wpA (SpH Tryd.prog gl) c3 (postA [.t 4] r) ⟨initE 0 l, [], []⟩) : Sp Tryd.prog gl 3 l r :=
  @fun_sp Tryd.prog gl drD 3 Tryd.f3 a3 Tryd.func3 m3 (dok _) l r hl hi h
theorem h3 {d : Nat} {I : In} {O : Out} (hl : I.vs.length = 2) (h : wpA (SpH Tryd.prog gl) c3 (postH d [.t 4] O) (inSt I)) : SpH Tryd.prog gl 3 d I O :=
  @fun_spH Tryd.prog gl drD 3 Tryd.f3 a3 Tryd.func3 m3 (dok _) d I O hl h
/-- firebell/firebelllaw18.ChangeBack -/
def c4 : AC :=
 (.sq (.rg [.bx 2 (.s 0),
   .bx 3 (.s 1),
   .mv 4 (.c (.bool false))])
  (.sq (.sq (.rg [.cl 16 19 [],
   .un 17 .not (.s 16)])
  (.cd (.s 17) (.sq (.rg [.mv 4 (.c (.bool false))])
  .rt) .sk))
  (.sq (.sq (.rg [.lda 18 6 (.s 2),
   .cl 19 20 [(.s 18)],
   .mv 20 (.s 19),
   .gd 20 false 21 (.lda 21 6 (.s 3)),
   .gd 20 false 22 (.cl 22 20 [(.s 21)]),
   .pk 23 (.s 20) (.c (.bool true)) (.s 22),
   .mv 24 (.s 23),
   .gd 24 false 25 (.lda 25 6 (.s 2)),
   .gd 24 false 26 (.cl 26 21 [(.s 25)]),
   .gd 24 false 27 (.un 27 .not (.s 26)),
   .pk 28 (.s 24) (.c (.bool true)) (.s 27),
   .mv 29 (.s 28),
   .gd 29 false 30 (.lda 30 6 (.s 3)),
   .gd 29 false 31 (.cl 31 21 [(.s 30)]),
   .gd 29 false 32 (.un 32 .not (.s 31)),
   .pk 33 (.s 29) (.c (.bool true)) (.s 32)])
  (.cd (.s 33) (.sq (.rg [.mv 4 (.c (.bool true))])
  .rt) .sk))
  (.sq (.rg [.lda 35 6 (.s 2),
   .lda 36 6 (.s 3),
   .cl 37 22 [(.s 35), (.s 36)],
   .mv 34 (.s 37),
   .exq 38 (.s 34) 0,
   .exq 39 (.s 34) 1,
   .mv 5 (.s 38),
   .mv 6 (.s 39)])
  (.sq (.rg [.lda 41 6 (.s 3),
   .lda 42 6 (.s 2),
   .cl 43 22 [(.s 41), (.s 42)],
   .mv 40 (.s 43),
   .exq 44 (.s 40) 0,
   .exq 45 (.s 40) 1,
   .mv 7 (.s 44),
   .mv 8 (.s 45)])
  (.sq (.rg [.lda 47 6 (.s 2),
   .lda 48 6 (.s 2),
   .cl 49 22 [(.s 47), (.s 48)],
   .mv 46 (.s 49),
   .exq 50 (.s 46) 0,
   .exq 51 (.s 46) 1,
   .mv 9 (.s 50),
   .mv 10 (.s 51)])
  (.sq (.sq (.rg [.mv 52 (.s 6),
   .bi 53 .neq (.s 52) (.c (.int .i64 0)),
   .mv 54 (.s 53),
   .gd 54 false 55 (.mv 55 (.s 8)),
   .gd 54 false 56 (.bi 56 .neq (.s 55) (.c (.int .i64 0))),
   .pk 57 (.s 54) (.c (.bool true)) (.s 56),
   .mv 58 (.s 57),
   .gd 58 false 59 (.mv 59 (.s 10)),
   .gd 58 false 60 (.bi 60 .neq (.s 59) (.c (.int .i64 0))),
   .pk 61 (.s 58) (.c (.bool true)) (.s 60),
   .mv 62 (.s 61),
   .gd 62 false 63 (.mv 63 (.s 5)),
   .gd 62 false 64 (.ln 64 (.s 63)),
   .gd 62 false 65 (.mv 65 (.s 7)),
   .gd 62 false 66 (.ln 66 (.s 65)),
   .gd 62 false 67 (.bi 67 .neq (.s 64) (.s 66)),
   .pk 68 (.s 62) (.c (.bool true)) (.s 67)])
  (.cd (.s 68) (.sq (.rg [.mv 4 (.c (.bool false))])
  .rt) .sk))
  (.sq (.rg [.bs 69 1 [(.c (.int .i64 0)), (.c (.int .i64 4)), (.c (.int .i64 2)), (.c (.int .i64 3)), (.c (.int .i64 1))],
   .mv 11 (.s 69)])
  (.sq (.sq (.rg [.mv 12 (.c (.int .i64 0))])
  (.bl 0 (.lp (.sq (.sq (.rg [.mv 70 (.s 12),
   .mv 71 (.s 5),
   .ln 72 (.s 71),
   .bi 73 .lss (.s 70) (.s 72)])
  (.cd (.s 73) .sk (.ex 0)))
  (.sq (.bl 1 (.sq (.rd [[], [], [], [], [], [], [], [], [], [], [], [], [], [], [], [], [], [], [], [], [], [], [], [], [], [], [], [], [], [], [], [], [], [], [], [], []] [.mv 76 (.s 5),
   .mv 77 (.s 12),
   .ia 78 3 (.s 76) (.s 77),
   .fa 79 (.s 78) 2,
   .lds 80 (.s 79),
   .bi 81 .lss (.s 80) (.c (.int .i64 1)),
   .mv 82 (.s 81),
   .gd 82 false 83 (.mv 83 (.s 5)),
   .gd 82 false 84 (.mv 84 (.s 12)),
   .gd 82 false 85 (.ia 85 3 (.s 83) (.s 84)),
   .gd 82 false 86 (.fa 86 (.s 85) 2),
   .gd 82 false 87 (.lds 87 (.s 86)),
   .gd 82 false 88 (.bi 88 .gtr (.s 87) (.c (.int .i64 4))),
   .pk 89 (.s 82) (.c (.bool true)) (.s 88),
   .mv 90 (.s 89),
   .gd 90 false 91 (.mv 91 (.s 7)),
   .gd 90 false 92 (.mv 92 (.s 5)),
   .gd 90 false 93 (.mv 93 (.s 12)),
   .gd 90 false 94 (.ia 94 3 (.s 92) (.s 93)),
   .gd 90 false 95 (.fa 95 (.s 94) 0),
   .gd 90 false 96 (.lds 96 (.s 95)),
   .gd 90 false 97 (.mv 97 (.s 5)),
   .gd 90 false 98 (.mv 98 (.s 12)),
   .gd 90 false 99 (.ia 99 3 (.s 97) (.s 98)),
   .gd 90 false 100 (.fa 100 (.s 99) 1),
   .gd 90 false 101 (.lds 101 (.s 100)),
   .gd 90 false 102 (.cl 102 23 [(.s 91), (.s 96), (.s 101)]),
   .gd 90 false 103 (.mv 103 (.s 11)),
   .gd 90 false 104 (.mv 104 (.s 5)),
   .gd 90 false 105 (.mv 105 (.s 12)),
   .gd 90 false 106 (.ia 106 3 (.s 104) (.s 105)),
   .gd 90 false 107 (.fa 107 (.s 106) 2),
   .gd 90 false 108 (.lds 108 (.s 107)),
   .gd 90 false 109 (.ia 109 1 (.s 103) (.s 108)),
   .gd 90 false 110 (.lds 110 (.s 109)),
   .gd 90 false 111 (.bi 111 .neq (.s 102) (.s 110)),
   .pk 112 (.s 90) (.c (.bool true)) (.s 111)])
  (.cd (.s 112) (.sq (.rg [.mv 4 (.c (.bool false))])
  .rt) .sk)))
  (.rg [.mv 74 (.s 12),
   .bi 75 .add (.s 74) (.c (.int .i64 1)),
   .mv 12 (.s 75)]))))))
  (.sq (.rg [.fa 113 (.s 2) 0,
   .lds 114 (.s 113),
   .ln 115 (.s 114),
   .mv 13 (.s 115)])
  (.sq (.sq (.rg [.mv 14 (.c (.int .i64 0))])
  (.bl 2 (.lp (.sq (.sq (.rg [.mv 116 (.s 14),
   .fa 117 (.s 2) 0,
   .lds 118 (.s 117),
   .ln 119 (.s 118),
   .bi 120 .lss (.s 116) (.s 119)])
  (.cd (.s 120) .sk (.ex 2)))
  (.sq (.bl 3 (.rg [.mv 123 (.s 13),
   .fa 124 (.s 2) 0,
   .lds 125 (.s 124),
   .mv 126 (.s 14),
   .ia 127 8 (.s 125) (.s 126),
   .fa 128 (.s 127) 7,
   .lds 129 (.s 128),
   .ln 130 (.s 129),
   .bi 131 .add (.s 123) (.s 130),
   .mv 13 (.s 131)]))
  (.rg [.mv 121 (.s 14),
   .bi 122 .add (.s 121) (.c (.int .i64 1)),
   .mv 14 (.s 122)]))))))
  (.sq (.sq (.rg [.mv 15 (.c (.int .i64 0))])
  (.bl 4 (.lp (.sq (.sq (.rg [.mv 132 (.s 15),
   .mv 133 (.s 9),
   .ln 134 (.s 133),
   .bi 135 .lss (.s 132) (.s 134)])
  (.cd (.s 135) .sk (.ex 4)))
  (.sq (.bl 5 (.sq (.rg [.mv 138 (.s 9),
   .mv 139 (.s 15),
   .ia 140 3 (.s 138) (.s 139),
   .fa 141 (.s 140) 2,
   .lds 142 (.s 141),
   .bi 143 .neq (.s 142) (.c (.int .i64 2))])
  (.cd (.s 143) (.sq (.rg [.mv 4 (.c (.bool false))])
  .rt) .sk)))
  (.rg [.mv 136 (.s 15),
   .bi 137 .add (.s 136) (.c (.int .i64 1)),
   .mv 15 (.s 137)]))))))
  (.sq (.rg [.mv 144 (.s 9),
   .ln 145 (.s 144),
   .mv 146 (.s 13),
   .bi 147 .eql (.s 145) (.s 146),
   .mv 4 (.s 147)])
  .rt)))))))))))))
def a4 : AF := ⟨c4, [.t 4], 2, 148⟩
theorem m4 : mF Tryd.prog gl drD Tryd.f4 a4 = true := by kernel_rfl
theorem s4 {l : List AV} {r : AV} (hl : l.length = 2) (hi : idsL l = []) (h : wpA (SpH Tryd.prog gl) c4 (postA [.t 4] r) ⟨initE 0 l, [], []⟩) : Sp Tryd.prog gl 4 l r :=
  @fun_sp Tryd.prog gl drD 4 Tryd.f4 a4 Tryd.func4 m4 (dok _) l r hl hi h
theorem h4 {d : Nat} {I : In} {O : Out} (hl : I.vs.length = 2) (h : wpA (SpH Tryd.prog gl) c4 (postH d [.t 4] O) (inSt I)) : SpH Tryd.prog gl 4 d I O :=
  @fun_spH Tryd.prog gl drD 4 Tryd.f4 a4 Tryd.func4 m4 (dok _) d I O hl h
/-- firebell/firebelllaw18.ChangeWindows -/
def c5 : AC :=
 (.sq (.rg [.bx 1 (.s 0),
   .mv 2 (.c (.bool false))])
  (.sq (.sq (.rg [.cl 5 19 [],
   .un 6 .not (.s 5)])
  (.cd (.s 6) (.sq (.rg [.mv 2 (.c (.bool false))])
  .rt) .sk))
  (.sq (.sq (.rg [.lda 7 8 (.s 1),
   .cl 8 24 [(.s 7)]])
  (.cd (.s 8) (.sq (.rg [.mv 2 (.c (.bool true))])
  .rt) .sk))
  (.sq (.rg [.lda 9 8 (.s 1),
   .cl 10 25 [(.s 9)],
   .mv 3 (.s 10)])
  (.sq (.sq (.rg [.mv 11 (.s 3),
   .lda 12 8 (.s 1),
   .cl 13 27 [(.s 12)],
   .cl 14 26 [(.s 11), (.s 13)],
   .un 15 .not (.s 14)])
  (.cd (.s 15) (.sq (.rg [.mv 2 (.c (.bool false))])
  .rt) .sk))
  (.sq (.sq (.rg [.mv 4 (.c (.int .i64 1))])
  (.bl 0 (.lp (.sq (.sq (.rg [.mv 16 (.s 4),
   .mv 17 (.s 3),
   .ln 18 (.s 17),
   .bi 19 .lss (.s 16) (.s 18)])
  (.cd (.s 19) .sk (.ex 0)))
  (.sq (.bl 1 (.sq (.rd [[], [], [], [], [], [], [], [], [], []] [.mv 22 (.s 3),
   .mv 23 (.s 4),
   .bi 24 .sub (.s 23) (.c (.int .i64 1)),
   .ia 25 1 (.s 22) (.s 24),
   .lds 26 (.s 25),
   .mv 27 (.s 3),
   .mv 28 (.s 4),
   .ia 29 1 (.s 27) (.s 28),
   .lds 30 (.s 29),
   .bi 31 .geq (.s 26) (.s 30)])
  (.cd (.s 31) (.sq (.rg [.mv 2 (.c (.bool false))])
  .rt) .sk)))
  (.rg [.mv 20 (.s 4),
   .bi 21 .add (.s 20) (.c (.int .i64 1)),
   .mv 4 (.s 21)]))))))
  (.sq (.rg [.mv 2 (.c (.bool true))])
  .rt)))))))
def a5 : AF := ⟨c5, [.t 2], 1, 32⟩
theorem m5 : mF Tryd.prog gl drD Tryd.f5 a5 = true := by kernel_rfl
theorem s5 {l : List AV} {r : AV} (hl : l.length = 1) (hi : idsL l = []) (h : wpA (SpH Tryd.prog gl) c5 (postA [.t 2] r) ⟨initE 0 l, [], []⟩) : Sp Tryd.prog gl 5 l r :=
  @fun_sp Tryd.prog gl drD 5 Tryd.f5 a5 Tryd.func5 m5 (dok _) l r hl hi h
theorem h5 {d : Nat} {I : In} {O : Out} (hl : I.vs.length = 1) (h : wpA (SpH Tryd.prog gl) c5 (postH d [.t 2] O) (inSt I)) : SpH Tryd.prog gl 5 d I O :=
  @fun_spH Tryd.prog gl drD 5 Tryd.f5 a5 Tryd.func5 m5 (dok _) d I O hl h
/-- firebell/firebelllaw18.ChangePlans -/
def c6 : AC :=
 (.sq (.rg [.bx 4 (.s 0),
   .bx 5 (.s 1),
   .mv 8 (.c (.bool false))])
  (.sq (.sq (.rg [.cl 13 19 [],
   .un 14 .not (.s 13)])
  (.cd (.s 14) (.sq (.rg [.mv 8 (.c (.bool false))])
  .rt) .sk))
  (.sq (.sq (.rg [.lda 15 6 (.s 4),
   .cl 16 20 [(.s 15)],
   .mv 17 (.s 16),
   .gd 17 false 18 (.lda 18 6 (.s 5)),
   .gd 17 false 19 (.cl 19 20 [(.s 18)]),
   .pk 20 (.s 17) (.c (.bool true)) (.s 19),
   .mv 21 (.s 20),
   .gd 21 false 22 (.mv 22 (.s 2)),
   .gd 21 false 23 (.lns 23 (.s 22)),
   .gd 21 false 24 (.bi 24 .gtr (.s 23) (.c (.int .i64 2000))),
   .pk 25 (.s 21) (.c (.bool true)) (.s 24),
   .mv 26 (.s 25),
   .gd 26 false 27 (.mv 27 (.s 3)),
   .gd 26 false 28 (.lns 28 (.s 27)),
   .gd 26 false 29 (.bi 29 .gtr (.s 28) (.c (.int .i64 2000))),
   .pk 30 (.s 26) (.c (.bool true)) (.s 29)])
  (.cd (.s 30) (.sq (.rg [.mv 8 (.c (.bool true))])
  .rt) .sk))
  (.sq (.rg [.lda 32 6 (.s 4),
   .lda 33 6 (.s 5),
   .cl 34 22 [(.s 32), (.s 33)],
   .mv 31 (.s 34),
   .exq 35 (.s 31) 0,
   .exq 36 (.s 31) 1,
   .mv 9 (.s 35),
   .mv 10 (.s 36)])
  (.sq (.sq (.rg [.lda 37 6 (.s 4),
   .cl 38 21 [(.s 37)],
   .un 39 .not (.s 38),
   .mv 40 (.s 39),
   .gd 40 false 41 (.lda 41 6 (.s 5)),
   .gd 40 false 42 (.cl 42 21 [(.s 41)]),
   .gd 40 false 43 (.un 43 .not (.s 42)),
   .pk 44 (.s 40) (.c (.bool true)) (.s 43)])
  (.cd (.s 44) (.sq (.rg [.mv 45 (.s 9),
   .ln 46 (.s 45),
   .bi 47 .eql (.s 46) (.c (.int .i64 0)),
   .mv 48 (.s 47),
   .gd 48 true 49 (.mv 49 (.s 10)),
   .gd 48 true 50 (.bi 50 .eql (.s 49) (.c (.int .i64 2))),
   .pk 51 (.s 48) (.s 50) (.c (.bool false)),
   .mv 8 (.s 51)])
  .rt) .sk))
  (.sq (.rg [.lda 52 6 (.s 4),
   .lda 53 6 (.s 5),
   .cl 54 28 [(.s 52), (.s 53)],
   .mv 11 (.s 54)])
  (.sq (.sq (.rg [.mv 55 (.s 10),
   .bi 56 .neq (.s 55) (.c (.int .i64 0)),
   .mv 57 (.s 56),
   .gd 57 false 58 (.mv 58 (.s 9)),
   .gd 57 false 59 (.mv 59 (.s 11)),
   .gd 57 false 60 (.cl 60 29 [(.s 58), (.s 59)]),
   .gd 57 false 61 (.un 61 .not (.s 60)),
   .pk 62 (.s 57) (.c (.bool true)) (.s 61),
   .mv 63 (.s 62),
   .gd 63 false 64 (.mv 64 (.s 9)),
   .gd 63 false 65 (.mv 65 (.s 2)),
   .gd 63 false 66 (.mv 66 (.s 3)),
   .gd 63 false 67 (.cl 67 30 [(.s 64), (.s 65), (.s 66)]),
   .gd 63 false 68 (.mv 68 (.s 11)),
   .gd 63 false 69 (.mv 69 (.s 2)),
   .gd 63 false 70 (.mv 70 (.s 3)),
   .gd 63 false 71 (.cl 71 23 [(.s 68), (.s 69), (.s 70)]),
   .gd 63 false 72 (.bi 72 .neq (.s 67) (.s 71)),
   .pk 73 (.s 63) (.c (.bool true)) (.s 72)])
  (.cd (.s 73) (.sq (.rg [.mv 8 (.c (.bool false))])
  .rt) .sk))
  (.sq (.sq (.rg [.mv 12 (.c (.int .i64 0))])
  (.bl 0 (.lp (.sq (.sq (.rg [.mv 74 (.s 12),
   .mv 75 (.s 11),
   .ln 76 (.s 75),
   .bi 77 .lss (.s 74) (.s 76)])
  (.cd (.s 77) .sk (.ex 0)))
  (.sq (.bl 1 (.sq (.rd [[], [], [], [], [], [], [], [], [], [], [], [], [], [], [], [], [], []] [.mv 80 (.s 9),
   .mv 81 (.s 11),
   .mv 82 (.s 12),
   .ia 83 3 (.s 81) (.s 82),
   .fa 84 (.s 83) 0,
   .lds 85 (.s 84),
   .mv 86 (.s 11),
   .mv 87 (.s 12),
   .ia 88 3 (.s 86) (.s 87),
   .fa 89 (.s 88) 1,
   .lds 90 (.s 89),
   .cl 91 30 [(.s 80), (.s 85), (.s 90)],
   .mv 92 (.s 11),
   .mv 93 (.s 12),
   .ia 94 3 (.s 92) (.s 93),
   .fa 95 (.s 94) 2,
   .lds 96 (.s 95),
   .bi 97 .neq (.s 91) (.s 96)])
  (.cd (.s 97) (.sq (.rg [.mv 8 (.c (.bool false))])
  .rt) .sk)))
  (.rg [.mv 78 (.s 12),
   .bi 79 .add (.s 78) (.c (.int .i64 1)),
   .mv 12 (.s 79)]))))))
  (.sq (.rg [.mv 8 (.c (.bool true))])
  .rt)))))))))
def a6 : AF := ⟨c6, [.t 8], 4, 98⟩
theorem m6 : mF Tryd.prog gl drD Tryd.f6 a6 = true := by kernel_rfl
theorem s6 {l : List AV} {r : AV} (hl : l.length = 4) (hi : idsL l = []) (h : wpA (SpH Tryd.prog gl) c6 (postA [.t 8] r) ⟨initE 0 l, [], []⟩) : Sp Tryd.prog gl 6 l r :=
  @fun_sp Tryd.prog gl drD 6 Tryd.f6 a6 Tryd.func6 m6 (dok _) l r hl hi h
theorem h6 {d : Nat} {I : In} {O : Out} (hl : I.vs.length = 4) (h : wpA (SpH Tryd.prog gl) c6 (postH d [.t 8] O) (inSt I)) : SpH Tryd.prog gl 6 d I O :=
  @fun_spH Tryd.prog gl drD 6 Tryd.f6 a6 Tryd.func6 m6 (dok _) d I O hl h
/-- firebell/firebelllaw30.BundlePrints -/
def c7 : AC :=
 (.sq (.rg [.bx 2 (.s 0),
   .mv 4 (.c (.bool false))])
  (.sq (.sq (.rg [.cl 13 31 [],
   .un 14 .not (.s 13)])
  (.cd (.s 14) (.sq (.rg [.mv 4 (.c (.bool false))])
  .rt) .sk))
  (.sq (.sq (.rg [.fa 15 (.s 2) 2,
   .lds 16 (.s 15),
   .cl 17 32 [(.s 16)],
   .mv 18 (.s 17),
   .gd 18 false 19 (.fa 19 (.s 2) 0),
   .gd 18 false 20 (.lds 20 (.s 19)),
   .gd 18 false 21 (.lns 21 (.s 20)),
   .gd 18 false 22 (.bi 22 .gtr (.s 21) (.c (.int .i64 500))),
   .pk 23 (.s 18) (.c (.bool true)) (.s 22),
   .mv 24 (.s 23),
   .gd 24 false 25 (.mv 25 (.s 1)),
   .gd 24 false 26 (.lns 26 (.s 25)),
   .gd 24 false 27 (.bi 27 .gtr (.s 26) (.c (.int .i64 3000))),
   .pk 28 (.s 24) (.c (.bool true)) (.s 27)])
  (.cd (.s 28) (.sq (.rg [.mv 4 (.c (.bool true))])
  .rt) .sk))
  (.sq (.rg [.lda 30 3 (.s 2),
   .cl 31 33 [(.s 30)],
   .mv 29 (.s 31),
   .exq 32 (.s 29) 0,
   .exq 33 (.s 29) 1,
   .mv 5 (.s 32),
   .mv 6 (.s 33)])
  (.sq (.rg [.mv 35 (.s 1),
   .cl 36 34 [(.s 35)],
   .mv 34 (.s 36),
   .exq 37 (.s 34) 0,
   .exq 38 (.s 34) 1,
   .al 7 [(.str []), (.bool false), .nils],
   .st 3 (.s 7) (.s 37),
   .mv 8 (.s 38)])
  (.sq (.rg [.mv 40 (.s 1),
   .cl 41 35 [(.s 40)],
   .mv 39 (.s 41),
   .exq 42 (.s 39) 0,
   .exq 43 (.s 39) 1,
   .al 9 [(.str []), (.bool false), .nils],
   .st 3 (.s 9) (.s 42),
   .mv 10 (.s 43)])
  (.sq (.sq (.rd [[], [], [], [], [], [], [], [], [], [], [], [], [], [], [], [], [], [], [], [], [], [], [], [], []] [.lda 44 3 (.s 2),
   .cl 45 36 [(.s 44)],
   .lda 46 3 (.s 2),
   .cl 47 37 [(.s 46)],
   .bb 48 true (.s 45) (.s 47),
   .mv 49 (.s 48),
   .gd 49 false 50 (.lda 50 3 (.s 7)),
   .gd 49 false 51 (.lda 51 3 (.s 9)),
   .gd 49 false 52 (.cl 52 38 [(.s 50), (.s 51)]),
   .gd 49 false 53 (.un 53 .not (.s 52)),
   .pk 54 (.s 49) (.c (.bool true)) (.s 53),
   .mv 55 (.s 54),
   .gd 55 false 56 (.mv 56 (.s 10)),
   .gd 55 false 57 (.mv 57 (.s 8)),
   .gd 55 false 58 (.bi 58 .eql (.s 57) (.c (.int .i64 0))),
   .gd 55 false 59 (.bb 59 true (.s 56) (.s 58)),
   .pk 60 (.s 55) (.c (.bool true)) (.s 59),
   .mv 61 (.s 60),
   .gd 61 false 62 (.mv 62 (.s 10)),
   .gd 61 false 63 (.un 63 .not (.s 62)),
   .gd 61 false 64 (.mv 64 (.s 63)),
   .gd 64 true 65 (.mv 65 (.s 8)),
   .gd 64 true 66 (.bi 66 .neq (.s 65) (.c (.int .i64 5))),
   .gd 61 false 67 (.pk 67 (.s 64) (.s 66) (.c (.bool false))),
   .pk 68 (.s 61) (.c (.bool true)) (.s 67)])
  (.cd (.s 68) (.sq (.rg [.mv 4 (.c (.bool false))])
  .rt) .sk))
  (.sq (.sq (.rg [.lda 69 3 (.s 2),
   .cl 70 37 [(.s 69)],
   .un 71 .not (.s 70)])
  (.cd (.s 71) (.sq (.rg [.mv 72 (.s 5),
   .bi 73 .eql (.s 72) (.c (.str [])),
   .mv 74 (.s 73),
   .gd 74 true 75 (.mv 75 (.s 6)),
   .gd 74 true 76 (.bi 76 .eql (.s 75) (.c (.int .i64 6))),
   .pk 77 (.s 74) (.s 76) (.c (.bool false)),
   .mv 4 (.s 77)])
  .rt) .sk))
  (.sq (.rg [.mv 79 (.s 5),
   .cl 80 34 [(.s 79)],
   .mv 78 (.s 80),
   .exq 81 (.s 78) 0,
   .exq 82 (.s 78) 1,
   .al 11 [(.str []), (.bool false), .nils],
   .st 3 (.s 11) (.s 81),
   .mv 12 (.s 82)])
  (.sq (.rg [.mv 83 (.s 5),
   .lda 84 3 (.s 2),
   .cl 85 39 [(.s 84)],
   .bi 86 .eql (.s 83) (.s 85),
   .mv 87 (.s 86),
   .gd 87 true 88 (.mv 88 (.s 6)),
   .gd 87 true 89 (.bi 89 .eql (.s 88) (.c (.int .i64 0))),
   .pk 90 (.s 87) (.s 89) (.c (.bool false)),
   .mv 91 (.s 90),
   .gd 91 true 92 (.mv 92 (.s 12)),
   .gd 91 true 93 (.bi 93 .eql (.s 92) (.c (.int .i64 0))),
   .pk 94 (.s 91) (.s 93) (.c (.bool false)),
   .mv 95 (.s 94),
   .gd 95 true 96 (.lda 96 3 (.s 11)),
   .gd 95 true 97 (.lda 97 3 (.s 2)),
   .gd 95 true 98 (.cl 98 38 [(.s 96), (.s 97)]),
   .pk 99 (.s 95) (.s 98) (.c (.bool false)),
   .mv 4 (.s 99)])
  .rt))))))))))
def a7 : AF := ⟨c7, [.t 4], 2, 100⟩
theorem m7 : mF Tryd.prog gl drD Tryd.f7 a7 = true := by kernel_rfl
theorem s7 {l : List AV} {r : AV} (hl : l.length = 2) (hi : idsL l = []) (h : wpA (SpH Tryd.prog gl) c7 (postA [.t 4] r) ⟨initE 0 l, [], []⟩) : Sp Tryd.prog gl 7 l r :=
  @fun_sp Tryd.prog gl drD 7 Tryd.f7 a7 Tryd.func7 m7 (dok _) l r hl hi h
theorem h7 {d : Nat} {I : In} {O : Out} (hl : I.vs.length = 2) (h : wpA (SpH Tryd.prog gl) c7 (postH d [.t 4] O) (inSt I)) : SpH Tryd.prog gl 7 d I O :=
  @fun_spH Tryd.prog gl drD 7 Tryd.f7 a7 Tryd.func7 m7 (dok _) d I O hl h
/-- firebell/firebelllaw25.awake -/
def c8 : AC :=
 (.sq (.rg [.mv 0 (.c (.bool false))])
  (.sq (.rg [.bd 1 [(.str []), (.str []), (.bool false), (.int .u64 0), (.bool false)] [(0, 1, (.c (.str [97, 112, 105]))), (1, 1, (.c (.str [102, 97, 115, 116]))), (2, 1, (.c (.bool true))), (3, 1, (.c (.int .u64 3)))],
   .cl 2 40 [(.s 1)],
   .bi 3 .eql (.s 2) (.c (.str [97, 112, 105, 47, 102, 97, 115, 116, 47, 112, 97, 103, 101, 47, 51, 47, 102, 105, 114, 101])),
   .mv 0 (.s 3)])
  .rt))
def a8 : AF := ⟨c8, [.t 0], 0, 4⟩
theorem m8 : mF Tryd.prog gl drD Tryd.f8 a8 = true := by kernel_rfl
theorem s8 {l : List AV} {r : AV} (hl : l.length = 0) (hi : idsL l = []) (h : wpA (SpH Tryd.prog gl) c8 (postA [.t 0] r) ⟨initE 0 l, [], []⟩) : Sp Tryd.prog gl 8 l r :=
  @fun_sp Tryd.prog gl drD 8 Tryd.f8 a8 Tryd.func8 m8 (dok _) l r hl hi h
theorem h8 {d : Nat} {I : In} {O : Out} (hl : I.vs.length = 0) (h : wpA (SpH Tryd.prog gl) c8 (postH d [.t 0] O) (inSt I)) : SpH Tryd.prog gl 8 d I O :=
  @fun_spH Tryd.prog gl drD 8 Tryd.f8 a8 Tryd.func8 m8 (dok _) d I O hl h
/-- firebell/firebellref25.Heavy -/
def c9 : AC :=
 (.sq (.rg [.bx 1 (.s 0),
   .mv 2 (.c (.bool false))])
  (.sq (.rg [.fa 3 (.s 1) 0,
   .lds 4 (.s 3),
   .lns 5 (.s 4),
   .bi 6 .gtr (.s 5) (.c (.int .i64 500)),
   .mv 7 (.s 6),
   .gd 7 false 8 (.fa 8 (.s 1) 1),
   .gd 7 false 9 (.lds 9 (.s 8)),
   .gd 7 false 10 (.lns 10 (.s 9)),
   .gd 7 false 11 (.bi 11 .gtr (.s 10) (.c (.int .i64 500))),
   .pk 12 (.s 7) (.c (.bool true)) (.s 11),
   .mv 2 (.s 12)])
  .rt))
def a9 : AF := ⟨c9, [.t 2], 1, 13⟩
theorem m9 : mF Tryd.prog gl drD Tryd.f9 a9 = true := by kernel_rfl
theorem s9 {l : List AV} {r : AV} (hl : l.length = 1) (hi : idsL l = []) (h : wpA (SpH Tryd.prog gl) c9 (postA [.t 2] r) ⟨initE 0 l, [], []⟩) : Sp Tryd.prog gl 9 l r :=
  @fun_sp Tryd.prog gl drD 9 Tryd.f9 a9 Tryd.func9 m9 (dok _) l r hl hi h
theorem h9 {d : Nat} {I : In} {O : Out} (hl : I.vs.length = 1) (h : wpA (SpH Tryd.prog gl) c9 (postH d [.t 2] O) (inSt I)) : SpH Tryd.prog gl 9 d I O :=
  @fun_spH Tryd.prog gl drD 9 Tryd.f9 a9 Tryd.func9 m9 (dok _) d I O hl h
/-- firebell/key.Put -/
def c10 : AC :=
 (.sq (.rg [.bx 3 (.s 1),
   .mv 4 (.c .nils)])
  (.sq (.rd [[], [], [], [], [], [], [], [], [], [], []] [.mo 5 0,
   .fa 6 (.s 3) 0,
   .lds 7 (.s 6),
   .ca 8 42 (some (.s 5)) [(.s 7)],
   .fa 9 (.s 3) 1,
   .lds 10 (.s 9),
   .ca 11 42 (some (.s 8)) [(.s 10)],
   .fa 12 (.s 3) 2,
   .lds 13 (.s 12),
   .ca 14 41 (some (.s 11)) [(.s 13)],
   .mo 0 14])
  (.sq (.rd [[], [], [], [], [], [], [], []] [.mo 15 0,
   .fa 16 (.s 3) 3,
   .lds 17 (.s 16),
   .ca 18 43 (some (.s 15)) [(.s 17)],
   .fa 19 (.s 3) 4,
   .lds 20 (.s 19),
   .ca 21 41 (some (.s 18)) [(.s 20)],
   .mo 4 21])
  .rt)))
def a10 : AF := ⟨c10, [.t 4], 2, 22⟩
theorem m10 : mF Tryd.prog gl drD Tryd.f10 a10 = true := by kernel_rfl
theorem s10 {l : List AV} {r : AV} (hl : l.length = 2) (hi : idsL l = []) (h : wpA (SpH Tryd.prog gl) c10 (postA [.t 4] r) ⟨initE 0 l, [], []⟩) : Sp Tryd.prog gl 10 l r :=
  @fun_sp Tryd.prog gl drD 10 Tryd.f10 a10 Tryd.func10 m10 (dok _) l r hl hi h
theorem h10 {d : Nat} {I : In} {O : Out} (hl : I.vs.length = 2) (h : wpA (SpH Tryd.prog gl) c10 (postH d [.t 4] O) (inSt I)) : SpH Tryd.prog gl 10 d I O :=
  @fun_spH Tryd.prog gl drD 10 Tryd.f10 a10 Tryd.func10 m10 (dok _) d I O hl h
/-- firebell/key.Get -/
def c12 : AC :=
 (.sq (.rg [.al 2 [(.str []), (.str []), (.bool false), (.int .u64 0), (.bool false)]])
  (.sq (.rg [.al 3 [(.str []), (.str []), (.bool false), (.int .u64 0), (.bool false)]])
  (.sq (.rg [.mv 4 (.s 0),
   .ce 5 44 [(.s 4), (.c (.int .i64 96))],
   .fa 6 (.s 3) 0,
   .st 1 (.s 6) (.s 5)])
  (.sq (.rg [.mv 7 (.s 0),
   .ce 8 44 [(.s 7), (.c (.int .i64 96))],
   .fa 9 (.s 3) 1,
   .st 1 (.s 9) (.s 8)])
  (.sq (.rg [.mv 10 (.s 0),
   .ce 11 45 [(.s 10)],
   .fa 12 (.s 3) 2,
   .st 1 (.s 12) (.s 11)])
  (.sq (.rg [.mv 13 (.s 0),
   .ce 14 46 [(.s 13)],
   .fa 15 (.s 3) 3,
   .st 1 (.s 15) (.s 14)])
  (.sq (.rg [.mv 16 (.s 0),
   .ce 17 45 [(.s 16)],
   .fa 18 (.s 3) 4,
   .st 1 (.s 18) (.s 17)])
  (.sq (.sq (.rg [.mv 19 (.s 0),
   .ce 20 16 [(.s 19)],
   .mv 21 (.s 20),
   .gd 21 false 22 (.lda 22 5 (.s 3)),
   .gd 21 false 23 (.cl 23 47 [(.s 22)]),
   .gd 21 false 24 (.un 24 .not (.s 23)),
   .pk 25 (.s 21) (.c (.bool true)) (.s 24)])
  (.cd (.s 25) (.sq (.rg [.mv 26 (.s 0),
   .ce 27 48 [(.s 26), (.c (.int .i64 (-1)))]])
  (.sq (.rg [.bd 28 [(.str []), (.str []), (.bool false), (.int .u64 0), (.bool false)] [],
   .st 5 (.s 2) (.s 28)])
  .rt)) .sk))
  (.sq (.rg [.lda 29 5 (.s 3),
   .st 5 (.s 2) (.s 29)])
  .rt)))))))))
def a12 : AF := ⟨c12, [.ca 2 5], 1, 30⟩
theorem m12 : mF Tryd.prog gl drD Tryd.f12 a12 = true := by kernel_rfl
theorem s12 {l : List AV} {r : AV} (hl : l.length = 1) (hi : idsL l = []) (h : wpA (SpH Tryd.prog gl) c12 (postA [.ca 2 5] r) ⟨initE 0 l, [], []⟩) : Sp Tryd.prog gl 12 l r :=
  @fun_sp Tryd.prog gl drD 12 Tryd.f12 a12 Tryd.func12 m12 (dok _) l r hl hi h
theorem h12 {d : Nat} {I : In} {O : Out} (hl : I.vs.length = 1) (h : wpA (SpH Tryd.prog gl) c12 (postH d [.ca 2 5] O) (inSt I)) : SpH Tryd.prog gl 12 d I O :=
  @fun_spH Tryd.prog gl drD 12 Tryd.f12 a12 Tryd.func12 m12 (dok _) d I O hl h
/-- firebell/firebellref25.Get -/
def c17 : AC :=
 (.sq (.rg [.al 4 [(.str []), (.str []), (.bool false), (.int .u64 0), (.bool false)],
   .mv 5 (.c (.int .i64 0)),
   .mv 6 (.c (.bool false))])
  (.sq (.rg [.bd 14 [(.int .i64 0), (.int .i64 0)] [(0, 1, (.c (.int .i64 2))), (1, 1, (.c (.int .i64 96)))],
   .bd 15 [(.int .i64 0), (.int .i64 0)] [(0, 1, (.c (.int .i64 2))), (1, 1, (.c (.int .i64 96)))],
   .bd 16 [(.int .i64 0), (.int .i64 0)] [(0, 1, (.c (.int .i64 3)))],
   .bd 17 [(.int .i64 0), (.int .i64 0)] [],
   .bd 18 [(.int .i64 0), (.int .i64 0)] [(0, 1, (.c (.int .i64 3)))],
   .bs 19 2 [(.s 14), (.s 15), (.s 16), (.s 17), (.s 18)],
   .mv 7 (.s 19)])
  (.sq (.rg [.bs 20 4 [],
   .mo 8 20])
  (.sq (.sq (.rg [.mv 9 (.c (.int .i64 0))])
  (.bl 0 (.lp (.sq (.sq (.rg [.mv 21 (.s 9),
   .bi 22 .lss (.s 21) (.c (.int .i64 5))])
  (.cd (.s 22) .sk (.ex 0)))
  (.sq (.bl 1 (.sq (.rg [.mv 26 (.s 0),
   .mv 27 (.s 1),
   .mv 28 (.s 7),
   .mv 29 (.s 9),
   .ia 30 2 (.s 28) (.s 29),
   .lda 31 2 (.s 30),
   .cl 32 53 [(.s 26), (.s 27), (.s 31)],
   .mv 25 (.s 32),
   .exq 33 (.s 25) 0,
   .exq 34 (.s 25) 1,
   .exq 35 (.s 25) 2,
   .al 10 [(.int .u64 0), (.int .i64 0), (.str []), (.bool false)],
   .st 4 (.s 10) (.s 33),
   .mv 11 (.s 34),
   .mv 12 (.s 35)])
  (.sq (.sq (.rg [.mv 36 (.s 12),
   .un 37 .not (.s 36)])
  (.cd (.s 37) (.sq (.rg [.bd 38 [(.str []), (.str []), (.bool false), (.int .u64 0), (.bool false)] [],
   .st 5 (.s 4) (.s 38),
   .mv 5 (.c (.int .i64 0)),
   .mv 6 (.c (.bool false))])
  .rt) .sk))
  (.sq (.rg [.mo 39 8,
   .lda 40 4 (.s 10),
   .bs 41 4 [(.s 40)],
   .ap 42 4 40 (.s 39) (.s 41),
   .mo 8 42])
  (.rg [.mv 43 (.s 11),
   .mv 1 (.s 43)])))))
  (.rg [.mv 23 (.s 9),
   .bi 24 .add (.s 23) (.c (.int .i64 1)),
   .mv 9 (.s 24)]))))))
  (.sq (.rd [[], [], [], [], [], [], [], [], [], [], [], [], [], [], [], [], [], [], [], [], [], [3, 7, 11, 15, 19], []] [.mv 44 (.s 8),
   .ia 45 4 (.s 44) (.c (.int .i64 0)),
   .fa 46 (.s 45) 2,
   .lds 47 (.s 46),
   .mv 48 (.s 8),
   .ia 49 4 (.s 48) (.c (.int .i64 1)),
   .fa 50 (.s 49) 2,
   .lds 51 (.s 50),
   .mv 52 (.s 8),
   .ia 53 4 (.s 52) (.c (.int .i64 2)),
   .fa 54 (.s 53) 3,
   .lds 55 (.s 54),
   .mv 56 (.s 8),
   .ia 57 4 (.s 56) (.c (.int .i64 3)),
   .fa 58 (.s 57) 0,
   .lds 59 (.s 58),
   .mv 60 (.s 8),
   .ia 61 4 (.s 60) (.c (.int .i64 4)),
   .fa 62 (.s 61) 3,
   .lds 63 (.s 62),
   .bd 64 [(.str []), (.str []), (.bool false), (.int .u64 0), (.bool false)] [(0, 1, (.s 47)), (1, 1, (.s 51)), (2, 1, (.s 55)), (3, 1, (.s 59)), (4, 1, (.s 63))],
   .al 13 [(.str []), (.str []), (.bool false), (.int .u64 0), (.bool false)],
   .st 5 (.s 13) (.s 64)])
  (.sq (.rd [[], [], [], [], [], [], []] [.lda 65 5 (.s 13),
   .mv 66 (.s 1),
   .lda 67 5 (.s 13),
   .cl 68 14 [(.s 67)],
   .st 5 (.s 4) (.s 65),
   .mv 5 (.s 66),
   .mv 6 (.s 68)])
  .rt))))))
def a17 : AF := ⟨c17, [.ca 4 5, .t 5, .t 6], 2, 69⟩
theorem m17 : mF Tryd.prog gl drD Tryd.f17 a17 = true := by kernel_rfl
theorem s17 {l : List AV} {r : AV} (hl : l.length = 2) (hi : idsL l = []) (h : wpA (SpH Tryd.prog gl) c17 (postA [.ca 4 5, .t 5, .t 6] r) ⟨initE 0 l, [], []⟩) : Sp Tryd.prog gl 17 l r :=
  @fun_sp Tryd.prog gl drD 17 Tryd.f17 a17 Tryd.func17 m17 (dok _) l r hl hi h
theorem h17 {d : Nat} {I : In} {O : Out} (hl : I.vs.length = 2) (h : wpA (SpH Tryd.prog gl) c17 (postH d [.ca 4 5, .t 5, .t 6] O) (inSt I)) : SpH Tryd.prog gl 17 d I O :=
  @fun_spH Tryd.prog gl drD 17 Tryd.f17 a17 Tryd.func17 m17 (dok _) d I O hl h
/-- firebell/firebelllaw18.awake -/
def c19 : AC :=
 (.sq (.rg [.mv 0 (.c (.bool false))])
  (.sq (.rg [.bd 6 [(.int .i64 0), (.int .i64 0), (.int .i64 0), (.int .i64 0), (.int .i64 0)] [(0, 1, (.c (.int .i64 1))), (2, 1, (.c (.int .i64 1))), (3, 1, (.c (.int .i64 1)))],
   .al 1 [(.int .i64 0), (.int .i64 0), (.int .i64 0), (.int .i64 0), (.int .i64 0)],
   .st 5 (.s 1) (.s 6)])
  (.sq (.rg [.bd 7 [(.str []), (.bool false), (.int .i64 0), (.int .i64 0), (.int .u64 0), (.int .i64 0), (.int .i64 0)] [(0, 1, (.c (.str [114]))), (2, 1, (.c (.int .i64 120))), (3, 1, (.c (.int .i64 60))), (4, 1, (.c (.int .u64 1)))],
   .bs 8 7 [(.s 7)],
   .bd 9 [(.str []), (.int .u32 0), (.int .i64 0), (.int .i64 0), (.int .i64 0), (.int .i64 0), .nils, .nils] [(0, 1, (.c (.str [97]))), (1, 1, (.c (.int .u32 5))), (2, 1, (.c (.int .i64 60))), (7, 1, (.s 8))],
   .al 2 [(.str []), (.int .u32 0), (.int .i64 0), (.int .i64 0), (.int .i64 0), (.int .i64 0), .nils, .nils],
   .st 8 (.s 2) (.s 9)])
  (.sq (.rg [.lda 10 8 (.s 2),
   .al 3 [(.str []), (.int .u32 0), (.int .i64 0), (.int .i64 0), (.int .i64 0), (.int .i64 0), .nils, .nils],
   .st 8 (.s 3) (.s 10)])
  (.sq (.rg [.fa 11 (.s 3) 1,
   .st 1 (.s 11) (.c (.int .u32 6))])
  (.sq (.rg [.lda 13 8 (.s 2),
   .bs 14 8 [(.s 13)],
   .lda 15 5 (.s 1),
   .bd 16 [.nils, (.int .i64 0), (.int .i64 0), (.int .i64 0), (.int .i64 0), (.int .i64 0)] [(0, 1, (.s 14)), (1, 5, (.s 15))],
   .lda 17 8 (.s 3),
   .bs 18 8 [(.s 17)],
   .lda 19 5 (.s 1),
   .bd 20 [.nils, (.int .i64 0), (.int .i64 0), (.int .i64 0), (.int .i64 0), (.int .i64 0)] [(0, 1, (.s 18)), (1, 5, (.s 19))],
   .cl 21 22 [(.s 16), (.s 20)],
   .mv 12 (.s 21),
   .exq 22 (.s 12) 0,
   .exq 23 (.s 12) 1,
   .mv 4 (.s 22),
   .mv 5 (.s 23)])
  (.sq (.rg [.mv 24 (.s 5),
   .bi 25 .eql (.s 24) (.c (.int .i64 0)),
   .mv 26 (.s 25),
   .gd 26 true 27 (.mv 27 (.s 4)),
   .gd 26 true 28 (.ln 28 (.s 27)),
   .gd 26 true 29 (.bi 29 .eql (.s 28) (.c (.int .i64 2))),
   .pk 30 (.s 26) (.s 29) (.c (.bool false)),
   .mv 31 (.s 30),
   .gd 31 true 32 (.mv 32 (.s 4)),
   .gd 31 true 33 (.ia 33 3 (.s 32) (.c (.int .i64 0))),
   .gd 31 true 34 (.lda 34 3 (.s 33)),
   .gd 31 true 35 (.bd 35 [(.str []), (.str []), (.int .i64 0)] [(0, 1, (.c (.str [97]))), (2, 1, (.c (.int .i64 2)))]),
   .gd 31 true 36 (.ea 36 false [.s, .s, .i] (.s 34) (.s 35)),
   .pk 37 (.s 31) (.s 36) (.c (.bool false)),
   .mv 38 (.s 37),
   .gd 38 true 39 (.mv 39 (.s 4)),
   .gd 38 true 40 (.ia 40 3 (.s 39) (.c (.int .i64 1))),
   .gd 38 true 41 (.lda 41 3 (.s 40)),
   .gd 38 true 42 (.bd 42 [(.str []), (.str []), (.int .i64 0)] [(0, 1, (.c (.str [97]))), (1, 1, (.c (.str [114]))), (2, 1, (.c (.int .i64 2)))]),
   .gd 38 true 43 (.ea 43 false [.s, .s, .i] (.s 41) (.s 42)),
   .pk 44 (.s 38) (.s 43) (.c (.bool false)),
   .mv 0 (.s 44)])
  .rt)))))))
def a19 : AF := ⟨c19, [.t 0], 0, 45⟩
theorem m19 : mF Tryd.prog gl drD Tryd.f19 a19 = true := by kernel_rfl
theorem s19 {l : List AV} {r : AV} (hl : l.length = 0) (hi : idsL l = []) (h : wpA (SpH Tryd.prog gl) c19 (postA [.t 0] r) ⟨initE 0 l, [], []⟩) : Sp Tryd.prog gl 19 l r :=
  @fun_sp Tryd.prog gl drD 19 Tryd.f19 a19 Tryd.func19 m19 (dok _) l r hl hi h
theorem h19 {d : Nat} {I : In} {O : Out} (hl : I.vs.length = 0) (h : wpA (SpH Tryd.prog gl) c19 (postH d [.t 0] O) (inSt I)) : SpH Tryd.prog gl 19 d I O :=
  @fun_spH Tryd.prog gl drD 19 Tryd.f19 a19 Tryd.func19 m19 (dok _) d I O hl h
/-- firebell/firebellref17.Heavy -/
def c20 : AC :=
 (.sq (.rg [.bx 1 (.s 0),
   .mv 2 (.c (.bool false))])
  (.sq (.sq (.rg [.fa 4 (.s 1) 0,
   .lds 5 (.s 4),
   .ln 6 (.s 5),
   .bi 7 .gtr (.s 6) (.c (.int .i64 10))])
  (.cd (.s 7) (.sq (.rg [.mv 2 (.c (.bool true))])
  .rt) .sk))
  (.sq (.sq (.rg [.mv 3 (.c (.int .i64 0))])
  (.bl 0 (.lp (.sq (.sq (.rg [.mv 8 (.s 3),
   .fa 9 (.s 1) 0,
   .lds 10 (.s 9),
   .ln 11 (.s 10),
   .bi 12 .lss (.s 8) (.s 11)])
  (.cd (.s 12) .sk (.ex 0)))
  (.sq (.bl 1 (.sq (.rg [.fa 15 (.s 1) 0,
   .lds 16 (.s 15),
   .mv 17 (.s 3),
   .ia 18 8 (.s 16) (.s 17),
   .lda 19 8 (.s 18),
   .cl 20 24 [(.s 19)]])
  (.cd (.s 20) (.sq (.rg [.mv 2 (.c (.bool true))])
  .rt) .sk)))
  (.rg [.mv 13 (.s 3),
   .bi 14 .add (.s 13) (.c (.int .i64 1)),
   .mv 3 (.s 14)]))))))
  (.sq (.rg [.mv 2 (.c (.bool false))])
  .rt))))
def a20 : AF := ⟨c20, [.t 2], 1, 21⟩
theorem m20 : mF Tryd.prog gl drD Tryd.f20 a20 = true := by kernel_rfl
theorem s20 {l : List AV} {r : AV} (hl : l.length = 1) (hi : idsL l = []) (h : wpA (SpH Tryd.prog gl) c20 (postA [.t 2] r) ⟨initE 0 l, [], []⟩) : Sp Tryd.prog gl 20 l r :=
  @fun_sp Tryd.prog gl drD 20 Tryd.f20 a20 Tryd.func20 m20 (dok _) l r hl hi h
theorem h20 {d : Nat} {I : In} {O : Out} (hl : I.vs.length = 1) (h : wpA (SpH Tryd.prog gl) c20 (postH d [.t 2] O) (inSt I)) : SpH Tryd.prog gl 20 d I O :=
  @fun_spH Tryd.prog gl drD 20 Tryd.f20 a20 Tryd.func20 m20 (dok _) d I O hl h
/-- firebell/firebellref17.Right -/
def c21 : AC :=
 (.sq (.rg [.bx 1 (.s 0),
   .mv 2 (.c (.bool false))])
  (.sq (.sq (.rg [.fa 6 (.s 1) 0,
   .lds 7 (.s 6),
   .ln 8 (.s 7),
   .bi 9 .gtr (.s 8) (.c (.int .i64 6))])
  (.cd (.s 9) (.sq (.rg [.mv 2 (.c (.bool false))])
  .rt) .sk))
  (.sq (.sq (.rg [.mv 3 (.c (.int .i64 0))])
  (.bl 0 (.lp (.sq (.sq (.rg [.mv 10 (.s 3),
   .fa 11 (.s 1) 0,
   .lds 12 (.s 11),
   .ln 13 (.s 12),
   .bi 14 .lss (.s 10) (.s 13)])
  (.cd (.s 14) .sk (.ex 0)))
  (.sq (.bl 1 (.sq (.sq (.rg [.fa 17 (.s 1) 0,
   .lds 18 (.s 17),
   .mv 19 (.s 3),
   .ia 20 8 (.s 18) (.s 19),
   .lda 21 8 (.s 20),
   .cl 22 54 [(.s 21)],
   .un 23 .not (.s 22)])
  (.cd (.s 23) (.sq (.rg [.mv 2 (.c (.bool false))])
  .rt) .sk))
  (.sq (.rg [.mv 4 (.c (.int .i64 0))])
  (.bl 2 (.lp (.sq (.sq (.rg [.mv 24 (.s 4),
   .mv 25 (.s 3),
   .bi 26 .lss (.s 24) (.s 25)])
  (.cd (.s 26) .sk (.ex 2)))
  (.sq (.bl 3 (.sq (.rd [[], [], [], [], [], [], [], [], [], [], [], [], []] [.fa 29 (.s 1) 0,
   .lds 30 (.s 29),
   .mv 31 (.s 4),
   .ia 32 8 (.s 30) (.s 31),
   .fa 33 (.s 32) 0,
   .lds 34 (.s 33),
   .fa 35 (.s 1) 0,
   .lds 36 (.s 35),
   .mv 37 (.s 3),
   .ia 38 8 (.s 36) (.s 37),
   .fa 39 (.s 38) 0,
   .lds 40 (.s 39),
   .bi 41 .eql (.s 34) (.s 40)])
  (.cd (.s 41) (.sq (.rg [.mv 2 (.c (.bool false))])
  .rt) .sk)))
  (.rg [.mv 27 (.s 4),
   .bi 28 .add (.s 27) (.c (.int .i64 1)),
   .mv 4 (.s 28)]))))))))
  (.rg [.mv 15 (.s 3),
   .bi 16 .add (.s 15) (.c (.int .i64 1)),
   .mv 3 (.s 16)]))))))
  (.sq (.rg [.fa 42 (.s 1) 1,
   .lda 43 5 (.s 42),
   .al 5 [(.int .i64 0), (.int .i64 0), (.int .i64 0), (.int .i64 0), (.int .i64 0)],
   .st 5 (.s 5) (.s 43)])
  (.sq (.rg [.fa 44 (.s 5) 0,
   .lds 45 (.s 44),
   .bi 46 .geq (.s 45) (.c (.int .i64 1)),
   .mv 47 (.s 46),
   .gd 47 true 48 (.fa 48 (.s 5) 0),
   .gd 47 true 49 (.lds 49 (.s 48)),
   .gd 47 true 50 (.bi 50 .leq (.s 49) (.c (.int .i64 64))),
   .pk 51 (.s 47) (.s 50) (.c (.bool false)),
   .mv 52 (.s 51),
   .gd 52 true 53 (.fa 53 (.s 5) 1),
   .gd 52 true 54 (.lds 54 (.s 53)),
   .gd 52 true 55 (.bi 55 .geq (.s 54) (.c (.int .i64 0))),
   .pk 56 (.s 52) (.s 55) (.c (.bool false)),
   .mv 57 (.s 56),
   .gd 57 true 58 (.fa 58 (.s 5) 1),
   .gd 57 true 59 (.lds 59 (.s 58)),
   .gd 57 true 60 (.fa 60 (.s 5) 0),
   .gd 57 true 61 (.lds 61 (.s 60)),
   .gd 57 true 62 (.bi 62 .leq (.s 59) (.s 61)),
   .pk 63 (.s 57) (.s 62) (.c (.bool false)),
   .mv 64 (.s 63),
   .gd 64 true 65 (.fa 65 (.s 5) 2),
   .gd 64 true 66 (.lds 66 (.s 65)),
   .gd 64 true 67 (.cl 67 55 [(.s 66), (.c (.int .i64 1)), (.c (.int .i64 86400))]),
   .pk 68 (.s 64) (.s 67) (.c (.bool false)),
   .mv 69 (.s 68),
   .gd 69 true 70 (.fa 70 (.s 5) 3),
   .gd 69 true 71 (.lds 71 (.s 70)),
   .gd 69 true 72 (.cl 72 55 [(.s 71), (.c (.int .i64 1)), (.c (.int .i64 604800))]),
   .pk 73 (.s 69) (.s 72) (.c (.bool false)),
   .mv 74 (.s 73),
   .gd 74 true 75 (.fa 75 (.s 5) 3),
   .gd 74 true 76 (.lds 76 (.s 75)),
   .gd 74 true 77 (.fa 77 (.s 5) 2),
   .gd 74 true 78 (.lds 78 (.s 77)),
   .gd 74 true 79 (.bi 79 .geq (.s 76) (.s 78)),
   .pk 80 (.s 74) (.s 79) (.c (.bool false)),
   .mv 81 (.s 80),
   .gd 81 true 82 (.fa 82 (.s 5) 4),
   .gd 81 true 83 (.lds 83 (.s 82)),
   .gd 81 true 84 (.cl 84 55 [(.s 83), (.c (.int .i64 0)), (.c (.int .i64 2592000))]),
   .pk 85 (.s 81) (.s 84) (.c (.bool false)),
   .mv 2 (.s 85)])
  .rt)))))
def a21 : AF := ⟨c21, [.t 2], 1, 86⟩
theorem m21 : mF Tryd.prog gl drD Tryd.f21 a21 = true := by kernel_rfl
theorem s21 {l : List AV} {r : AV} (hl : l.length = 1) (hi : idsL l = []) (h : wpA (SpH Tryd.prog gl) c21 (postA [.t 2] r) ⟨initE 0 l, [], []⟩) : Sp Tryd.prog gl 21 l r :=
  @fun_sp Tryd.prog gl drD 21 Tryd.f21 a21 Tryd.func21 m21 (dok _) l r hl hi h
theorem h21 {d : Nat} {I : In} {O : Out} (hl : I.vs.length = 1) (h : wpA (SpH Tryd.prog gl) c21 (postH d [.t 2] O) (inSt I)) : SpH Tryd.prog gl 21 d I O :=
  @fun_spH Tryd.prog gl drD 21 Tryd.f21 a21 Tryd.func21 m21 (dok _) d I O hl h
/-- firebell/change.Plan -/
def c22 : AC :=
 (.sq (.rg [.bx 2 (.s 0),
   .bx 3 (.s 1),
   .mv 4 (.c .nils),
   .mv 5 (.c (.int .i64 0))])
  (.sq (.sq (.rg [.lda 15 6 (.s 2),
   .cl 16 56 [(.s 15)],
   .un 17 .not (.s 16),
   .mv 18 (.s 17),
   .gd 18 false 19 (.lda 19 6 (.s 3)),
   .gd 18 false 20 (.cl 20 56 [(.s 19)]),
   .gd 18 false 21 (.un 21 .not (.s 20)),
   .pk 22 (.s 18) (.c (.bool true)) (.s 21)])
  (.cd (.s 22) (.sq (.rg [.mv 4 (.c .nils),
   .mv 5 (.c (.int .i64 2))])
  .rt) .sk))
  (.sq (.rg [.bd 23 [.nils] [],
   .bx 24 (.s 23),
   .mv 6 (.s 24)])
  (.sq (.sq (.rg [.fa 25 (.s 3) 0,
   .lds 26 (.s 25),
   .ln 27 (.s 26),
   .mv 28 (.c (.int .i64 0))])
  (.bl 0 (.lp (.sq (.rg [.bi 29 .lss (.s 28) (.s 27)])
  (.sq (.cd (.s 29) .sk (.ex 0))
  (.sq (.bl 1 (.sq (.rg [.ia 30 8 (.s 26) (.s 28),
   .lda 31 8 (.s 30),
   .al 8 [(.str []), (.int .u32 0), (.int .i64 0), (.int .i64 0), (.int .i64 0), (.int .i64 0), .nils, .nils],
   .st 8 (.s 8) (.s 31)])
  (.sq (.rg [.lda 33 6 (.s 2),
   .fa 34 (.s 8) 0,
   .lds 35 (.s 34),
   .cl 36 57 [(.s 33), (.s 35)],
   .mv 32 (.s 36),
   .exq 37 (.s 32) 0,
   .exq 38 (.s 32) 1,
   .al 9 [(.str []), (.int .u32 0), (.int .i64 0), (.int .i64 0), (.int .i64 0), (.int .i64 0), .nils, .nils],
   .st 8 (.s 9) (.s 37),
   .mv 10 (.s 38)])
  (.rg [.mv 39 (.s 6),
   .lda 40 8 (.s 8),
   .lda 41 8 (.s 9),
   .mv 42 (.s 10),
   .ce 43 58 [(.s 39), (.s 40), (.s 41), (.s 42)]]))))
  (.rg [.bi 44 .add (.s 28) (.c (.int .i64 1)),
   .mv 28 (.s 44)])))))))
  (.sq (.sq (.rg [.fa 45 (.s 2) 0,
   .lds 46 (.s 45),
   .ln 47 (.s 46),
   .mv 48 (.c (.int .i64 0))])
  (.bl 2 (.lp (.sq (.rg [.bi 49 .lss (.s 48) (.s 47)])
  (.sq (.cd (.s 49) .sk (.ex 2))
  (.sq (.bl 3 (.sq (.rg [.ia 50 8 (.s 46) (.s 48),
   .lda 51 8 (.s 50),
   .al 12 [(.str []), (.int .u32 0), (.int .i64 0), (.int .i64 0), (.int .i64 0), (.int .i64 0), .nils, .nils],
   .st 8 (.s 12) (.s 51)])
  (.sq (.rg [.lda 53 6 (.s 3),
   .fa 54 (.s 12) 0,
   .lds 55 (.s 54),
   .cl 56 57 [(.s 53), (.s 55)],
   .mv 52 (.s 56),
   .exq 57 (.s 52) 0,
   .exq 58 (.s 52) 1,
   .al 13 [(.str []), (.int .u32 0), (.int .i64 0), (.int .i64 0), (.int .i64 0), (.int .i64 0), .nils, .nils],
   .st 8 (.s 13) (.s 57),
   .mv 14 (.s 58)])
  (.sq (.rg [.mv 59 (.s 14),
   .un 60 .not (.s 59)])
  (.cd (.s 60) (.sq (.rg [.mv 61 (.s 6),
   .fa 62 (.s 12) 0,
   .lds 63 (.s 62),
   .ce 64 59 [(.s 61), (.s 63), (.c (.str [])), (.c (.int .i64 4))]])
  (.rg [.mv 65 (.s 6),
   .lda 66 8 (.s 12),
   .bd 67 [(.str []), (.int .u32 0), (.int .i64 0), (.int .i64 0), (.int .i64 0), (.int .i64 0), .nils, .nils] [],
   .ce 68 60 [(.s 65), (.s 66), (.s 67)]])) .sk)))))
  (.rg [.bi 69 .add (.s 48) (.c (.int .i64 1)),
   .mv 48 (.s 69)])))))))
  (.sq (.rg [.mv 70 (.s 6),
   .nc 71 (.s 70),
   .fa 72 (.s 71) 0,
   .lds 73 (.s 72),
   .mv 4 (.s 73),
   .mv 5 (.c (.int .i64 0))])
  .rt))))))
def a22 : AF := ⟨c22, [.t 4, .t 5], 2, 74⟩
theorem m22 : mF Tryd.prog gl drD Tryd.f22 a22 = true := by kernel_rfl
theorem s22 {l : List AV} {r : AV} (hl : l.length = 2) (hi : idsL l = []) (h : wpA (SpH Tryd.prog gl) c22 (postA [.t 4, .t 5] r) ⟨initE 0 l, [], []⟩) : Sp Tryd.prog gl 22 l r :=
  @fun_sp Tryd.prog gl drD 22 Tryd.f22 a22 Tryd.func22 m22 (dok _) l r hl hi h
theorem h22 {d : Nat} {I : In} {O : Out} (hl : I.vs.length = 2) (h : wpA (SpH Tryd.prog gl) c22 (postH d [.t 4, .t 5] O) (inSt I)) : SpH Tryd.prog gl 22 d I O :=
  @fun_spH Tryd.prog gl drD 22 Tryd.f22 a22 Tryd.func22 m22 (dok _) d I O hl h
/-- firebell/firebellref18.Find -/
def c23 : AC :=
 (.sq (.rg [.mv 6 (.c (.int .i64 0))])
  (.sq (.sq (.rg [.mv 7 (.c (.int .i64 0))])
  (.bl 0 (.lp (.sq (.sq (.rg [.mv 8 (.s 7),
   .mv 9 (.s 0),
   .ln 10 (.s 9),
   .bi 11 .lss (.s 8) (.s 10)])
  (.cd (.s 11) .sk (.ex 0)))
  (.sq (.bl 1 (.sq (.rg [.mv 14 (.s 0),
   .mv 15 (.s 7),
   .ia 16 3 (.s 14) (.s 15),
   .fa 17 (.s 16) 0,
   .lds 18 (.s 17),
   .mv 19 (.s 1),
   .bi 20 .eql (.s 18) (.s 19),
   .mv 21 (.s 20),
   .gd 21 true 22 (.mv 22 (.s 0)),
   .gd 21 true 23 (.mv 23 (.s 7)),
   .gd 21 true 24 (.ia 24 3 (.s 22) (.s 23)),
   .gd 21 true 25 (.fa 25 (.s 24) 1),
   .gd 21 true 26 (.lds 26 (.s 25)),
   .gd 21 true 27 (.mv 27 (.s 2)),
   .gd 21 true 28 (.bi 28 .eql (.s 26) (.s 27)),
   .pk 29 (.s 21) (.s 28) (.c (.bool false))])
  (.cd (.s 29) (.sq (.rg [.mv 30 (.s 0),
   .mv 31 (.s 7),
   .ia 32 3 (.s 30) (.s 31),
   .fa 33 (.s 32) 2,
   .lds 34 (.s 33),
   .mv 6 (.s 34)])
  .rt) .sk)))
  (.rg [.mv 12 (.s 7),
   .bi 13 .add (.s 12) (.c (.int .i64 1)),
   .mv 7 (.s 13)]))))))
  (.sq (.rg [.mv 6 (.c (.int .i64 0))])
  .rt)))
def a23 : AF := ⟨c23, [.t 6], 3, 35⟩
theorem m23 : mF Tryd.prog gl drD Tryd.f23 a23 = true := by kernel_rfl
theorem s23 {l : List AV} {r : AV} (hl : l.length = 3) (hi : idsL l = []) (h : wpA (SpH Tryd.prog gl) c23 (postA [.t 6] r) ⟨initE 0 l, [], []⟩) : Sp Tryd.prog gl 23 l r :=
  @fun_sp Tryd.prog gl drD 23 Tryd.f23 a23 Tryd.func23 m23 (dok _) l r hl hi h
theorem h23 {d : Nat} {I : In} {O : Out} (hl : I.vs.length = 3) (h : wpA (SpH Tryd.prog gl) c23 (postH d [.t 6] O) (inSt I)) : SpH Tryd.prog gl 23 d I O :=
  @fun_spH Tryd.prog gl drD 23 Tryd.f23 a23 Tryd.func23 m23 (dok _) d I O hl h
/-- firebell/firebellref17.HeavyGoal -/
def c24 : AC :=
 (.sq (.rg [.bx 1 (.s 0),
   .mv 2 (.c (.bool false))])
  (.sq (.sq (.rg [.fa 5 (.s 1) 0,
   .lds 6 (.s 5),
   .lns 7 (.s 6),
   .bi 8 .gtr (.s 7) (.c (.int .i64 2000)),
   .mv 9 (.s 8),
   .gd 9 false 10 (.fa 10 (.s 1) 6),
   .gd 9 false 11 (.lds 11 (.s 10)),
   .gd 9 false 12 (.ln 12 (.s 11)),
   .gd 9 false 13 (.bi 13 .gtr (.s 12) (.c (.int .i64 10))),
   .pk 14 (.s 9) (.c (.bool true)) (.s 13),
   .mv 15 (.s 14),
   .gd 15 false 16 (.fa 16 (.s 1) 7),
   .gd 15 false 17 (.lds 17 (.s 16)),
   .gd 15 false 18 (.ln 18 (.s 17)),
   .gd 15 false 19 (.bi 19 .gtr (.s 18) (.c (.int .i64 10))),
   .pk 20 (.s 15) (.c (.bool true)) (.s 19)])
  (.cd (.s 20) (.sq (.rg [.mv 2 (.c (.bool true))])
  .rt) .sk))
  (.sq (.sq (.rg [.mv 3 (.c (.int .i64 0))])
  (.bl 0 (.lp (.sq (.sq (.rg [.mv 21 (.s 3),
   .fa 22 (.s 1) 6,
   .lds 23 (.s 22),
   .ln 24 (.s 23),
   .bi 25 .lss (.s 21) (.s 24)])
  (.cd (.s 25) .sk (.ex 0)))
  (.sq (.bl 1 (.sq (.rg [.fa 28 (.s 1) 6,
   .lds 29 (.s 28),
   .mv 30 (.s 3),
   .ia 31 2 (.s 29) (.s 30),
   .fa 32 (.s 31) 0,
   .lds 33 (.s 32),
   .lns 34 (.s 33),
   .bi 35 .gtr (.s 34) (.c (.int .i64 2000)),
   .mv 36 (.s 35),
   .gd 36 false 37 (.fa 37 (.s 1) 6),
   .gd 36 false 38 (.lds 38 (.s 37)),
   .gd 36 false 39 (.mv 39 (.s 3)),
   .gd 36 false 40 (.ia 40 2 (.s 38) (.s 39)),
   .gd 36 false 41 (.fa 41 (.s 40) 1),
   .gd 36 false 42 (.lds 42 (.s 41)),
   .gd 36 false 43 (.lns 43 (.s 42)),
   .gd 36 false 44 (.bi 44 .gtr (.s 43) (.c (.int .i64 2000))),
   .pk 45 (.s 36) (.c (.bool true)) (.s 44)])
  (.cd (.s 45) (.sq (.rg [.mv 2 (.c (.bool true))])
  .rt) .sk)))
  (.rg [.mv 26 (.s 3),
   .bi 27 .add (.s 26) (.c (.int .i64 1)),
   .mv 3 (.s 27)]))))))
  (.sq (.sq (.rg [.mv 4 (.c (.int .i64 0))])
  (.bl 2 (.lp (.sq (.sq (.rg [.mv 46 (.s 4),
   .fa 47 (.s 1) 7,
   .lds 48 (.s 47),
   .ln 49 (.s 48),
   .bi 50 .lss (.s 46) (.s 49)])
  (.cd (.s 50) .sk (.ex 2)))
  (.sq (.bl 3 (.sq (.rg [.fa 53 (.s 1) 7,
   .lds 54 (.s 53),
   .mv 55 (.s 4),
   .ia 56 7 (.s 54) (.s 55),
   .fa 57 (.s 56) 0,
   .lds 58 (.s 57),
   .lns 59 (.s 58),
   .bi 60 .gtr (.s 59) (.c (.int .i64 2000))])
  (.cd (.s 60) (.sq (.rg [.mv 2 (.c (.bool true))])
  .rt) .sk)))
  (.rg [.mv 51 (.s 4),
   .bi 52 .add (.s 51) (.c (.int .i64 1)),
   .mv 4 (.s 52)]))))))
  (.sq (.rg [.mv 2 (.c (.bool false))])
  .rt)))))
def a24 : AF := ⟨c24, [.t 2], 1, 61⟩
theorem m24 : mF Tryd.prog gl drD Tryd.f24 a24 = true := by kernel_rfl
theorem s24 {l : List AV} {r : AV} (hl : l.length = 1) (hi : idsL l = []) (h : wpA (SpH Tryd.prog gl) c24 (postA [.t 2] r) ⟨initE 0 l, [], []⟩) : Sp Tryd.prog gl 24 l r :=
  @fun_sp Tryd.prog gl drD 24 Tryd.f24 a24 Tryd.func24 m24 (dok _) l r hl hi h
theorem h24 {d : Nat} {I : In} {O : Out} (hl : I.vs.length = 1) (h : wpA (SpH Tryd.prog gl) c24 (postH d [.t 2] O) (inSt I)) : SpH Tryd.prog gl 24 d I O :=
  @fun_spH Tryd.prog gl drD 24 Tryd.f24 a24 Tryd.func24 m24 (dok _) d I O hl h
/-- firebell/change.Windows -/
def c25 : AC :=
 (.sq (.rg [.bx 1 (.s 0),
   .mv 2 (.c .nils)])
  (.sq (.rg [.mv 3 (.c .nils)])
  (.sq (.sq (.rg [.fa 6 (.s 1) 7,
   .lds 7 (.s 6),
   .ln 8 (.s 7),
   .mv 9 (.c (.int .i64 0))])
  (.bl 0 (.lp (.sq (.rg [.bi 10 .lss (.s 9) (.s 8)])
  (.sq (.cd (.s 10) .sk (.ex 0))
  (.sq (.bl 1 (.sq (.rg [.ia 11 7 (.s 7) (.s 9),
   .lda 12 7 (.s 11),
   .al 5 [(.str []), (.bool false), (.int .i64 0), (.int .i64 0), (.int .u64 0), (.int .i64 0), (.int .i64 0)],
   .st 7 (.s 5) (.s 12)])
  (.rg [.mo 13 3,
   .fa 14 (.s 5) 2,
   .lds 15 (.s 14),
   .fa 16 (.s 5) 3,
   .lds 17 (.s 16),
   .bsn 18 1 [(.s 15), (.s 17)],
   .apm 19 1 8 (.s 13) (.s 18),
   .mo 3 19])))
  (.rg [.bi 20 .add (.s 9) (.c (.int .i64 1)),
   .mv 9 (.s 20)])))))))
  (.sq (.sq (.rg [.fa 21 (.s 1) 4,
   .lds 22 (.s 21),
   .bi 23 .neq (.s 22) (.c (.int .i64 0))])
  (.cd (.s 23) (.rg [.mo 24 3,
   .fa 25 (.s 1) 4,
   .lds 26 (.s 25),
   .bsn 27 1 [(.s 26)],
   .apm 28 1 8 (.s 24) (.s 27),
   .mo 3 28]) .sk))
  (.sq (.rg [.mv 29 (.s 3),
   .ce 30 61 [(.s 29)]])
  (.sq (.rg [.mv 31 (.s 3),
   .ce 32 62 [(.s 31)],
   .mv 2 (.s 32)])
  .rt))))))
def a25 : AF := ⟨c25, [.t 2], 1, 33⟩
theorem m25 : mF Tryd.prog gl drD Tryd.f25 a25 = true := by kernel_rfl
theorem s25 {l : List AV} {r : AV} (hl : l.length = 1) (hi : idsL l = []) (h : wpA (SpH Tryd.prog gl) c25 (postF [.t 2] r) ⟨initE 0 l, [], []⟩) : Sp Tryd.prog gl 25 l r :=
  @fun_spF Tryd.prog gl drD 25 Tryd.f25 a25 Tryd.func25 m25 (dok _) l r hl hi h
theorem h25 {d : Nat} {I : In} {O : Out} (hl : I.vs.length = 1) (h : wpA (SpH Tryd.prog gl) c25 (postH d [.t 2] O) (inSt I)) : SpH Tryd.prog gl 25 d I O :=
  @fun_spH Tryd.prog gl drD 25 Tryd.f25 a25 Tryd.func25 m25 (dok _) d I O hl h
/-- firebell/firebellref18.Same -/
def c26 : AC :=
 (.sq (.rg [.mv 4 (.c (.bool false))])
  (.sq (.sq (.rg [.mv 6 (.s 0),
   .ln 7 (.s 6),
   .mv 8 (.s 1),
   .ln 9 (.s 8),
   .bi 10 .neq (.s 7) (.s 9)])
  (.cd (.s 10) (.sq (.rg [.mv 4 (.c (.bool false))])
  .rt) .sk))
  (.sq (.sq (.rg [.mv 5 (.c (.int .i64 0))])
  (.bl 0 (.lp (.sq (.sq (.rg [.mv 11 (.s 5),
   .mv 12 (.s 0),
   .ln 13 (.s 12),
   .bi 14 .lss (.s 11) (.s 13)])
  (.cd (.s 14) .sk (.ex 0)))
  (.sq (.bl 1 (.sq (.rd [[], [], [], [], [], [], [], [], []] [.mv 17 (.s 0),
   .mv 18 (.s 5),
   .ia 19 1 (.s 17) (.s 18),
   .lds 20 (.s 19),
   .mv 21 (.s 1),
   .mv 22 (.s 5),
   .ia 23 1 (.s 21) (.s 22),
   .lds 24 (.s 23),
   .bi 25 .neq (.s 20) (.s 24)])
  (.cd (.s 25) (.sq (.rg [.mv 4 (.c (.bool false))])
  .rt) .sk)))
  (.rg [.mv 15 (.s 5),
   .bi 16 .add (.s 15) (.c (.int .i64 1)),
   .mv 5 (.s 16)]))))))
  (.sq (.rg [.mv 4 (.c (.bool true))])
  .rt))))
def a26 : AF := ⟨c26, [.t 4], 2, 26⟩
theorem m26 : mF Tryd.prog gl drD Tryd.f26 a26 = true := by kernel_rfl
theorem s26 {l : List AV} {r : AV} (hl : l.length = 2) (hi : idsL l = []) (h : wpA (SpH Tryd.prog gl) c26 (postA [.t 4] r) ⟨initE 0 l, [], []⟩) : Sp Tryd.prog gl 26 l r :=
  @fun_sp Tryd.prog gl drD 26 Tryd.f26 a26 Tryd.func26 m26 (dok _) l r hl hi h
theorem h26 {d : Nat} {I : In} {O : Out} (hl : I.vs.length = 2) (h : wpA (SpH Tryd.prog gl) c26 (postH d [.t 4] O) (inSt I)) : SpH Tryd.prog gl 26 d I O :=
  @fun_spH Tryd.prog gl drD 26 Tryd.f26 a26 Tryd.func26 m26 (dok _) d I O hl h
/-- firebell/firebellref18.Windows -/
def c27 : AC :=
 (.sq (.rg [.bx 1 (.s 0),
   .mv 2 (.c .nils)])
  (.sq (.rg [.bs 8 1 [],
   .mo 3 8])
  (.sq (.sq (.rg [.mv 4 (.c (.int .i64 0))])
  (.bl 0 (.lp (.sq (.sq (.rg [.mv 9 (.s 4),
   .fa 10 (.s 1) 7,
   .lds 11 (.s 10),
   .ln 12 (.s 11),
   .bi 13 .lss (.s 9) (.s 12)])
  (.cd (.s 13) .sk (.ex 0)))
  (.sq (.bl 1 (.sq (.rg [.mo 16 3,
   .fa 17 (.s 1) 7,
   .lds 18 (.s 17),
   .mv 19 (.s 4),
   .ia 20 7 (.s 18) (.s 19),
   .fa 21 (.s 20) 2,
   .lds 22 (.s 21),
   .bs 23 1 [(.s 22)],
   .ap 24 1 8 (.s 16) (.s 23),
   .mo 3 24])
  (.rg [.mo 25 3,
   .fa 26 (.s 1) 7,
   .lds 27 (.s 26),
   .mv 28 (.s 4),
   .ia 29 7 (.s 27) (.s 28),
   .fa 30 (.s 29) 3,
   .lds 31 (.s 30),
   .bs 32 1 [(.s 31)],
   .ap 33 1 8 (.s 25) (.s 32),
   .mo 3 33])))
  (.rg [.mv 14 (.s 4),
   .bi 15 .add (.s 14) (.c (.int .i64 1)),
   .mv 4 (.s 15)]))))))
  (.sq (.sq (.rg [.fa 34 (.s 1) 4,
   .lds 35 (.s 34),
   .bi 36 .neq (.s 35) (.c (.int .i64 0))])
  (.cd (.s 36) (.rg [.mo 37 3,
   .fa 38 (.s 1) 4,
   .lds 39 (.s 38),
   .bs 40 1 [(.s 39)],
   .ap 41 1 8 (.s 37) (.s 40),
   .mo 3 41]) .sk))
  (.sq (.rg [.bs 42 1 [],
   .mo 5 42])
  (.bl 2 (.lp (.bl 3 (.sq (.rg [.mv 6 (.c (.int .i64 (-1)))])
  (.sq (.sq (.rg [.mv 7 (.c (.int .i64 0))])
  (.bl 4 (.lp (.sq (.sq (.rg [.mv 43 (.s 7),
   .mv 44 (.s 3),
   .ln 45 (.s 44),
   .bi 46 .lss (.s 43) (.s 45)])
  (.cd (.s 46) .sk (.ex 4)))
  (.sq (.bl 5 (.sq (.rd [[], [], [], [], [], [], [], [], [], [], [], [], [], [], [], [], [], [], [], [], [], [], [], [], [], [], [], [], [], [], []] [.mv 49 (.s 5),
   .ln 50 (.s 49),
   .bi 51 .eql (.s 50) (.c (.int .i64 0)),
   .mv 52 (.s 51),
   .gd 52 false 53 (.mv 53 (.s 3)),
   .gd 52 false 54 (.mv 54 (.s 7)),
   .gd 52 false 55 (.ia 55 1 (.s 53) (.s 54)),
   .gd 52 false 56 (.lds 56 (.s 55)),
   .gd 52 false 57 (.mv 57 (.s 5)),
   .gd 52 false 58 (.mv 58 (.s 5)),
   .gd 52 false 59 (.ln 59 (.s 58)),
   .gd 52 false 60 (.bi 60 .sub (.s 59) (.c (.int .i64 1))),
   .gd 52 false 61 (.ia 61 1 (.s 57) (.s 60)),
   .gd 52 false 62 (.lds 62 (.s 61)),
   .gd 52 false 63 (.bi 63 .gtr (.s 56) (.s 62)),
   .pk 64 (.s 52) (.c (.bool true)) (.s 63),
   .mv 65 (.s 64),
   .gd 65 true 66 (.mv 66 (.s 6)),
   .gd 65 true 67 (.bi 67 .lss (.s 66) (.c (.int .i64 0))),
   .gd 65 true 68 (.mv 68 (.s 67)),
   .gd 68 false 69 (.mv 69 (.s 3)),
   .gd 68 false 70 (.mv 70 (.s 7)),
   .gd 68 false 71 (.ia 71 1 (.s 69) (.s 70)),
   .gd 68 false 72 (.lds 72 (.s 71)),
   .gd 68 false 73 (.mv 73 (.s 3)),
   .gd 68 false 74 (.mv 74 (.s 6)),
   .gd 68 false 75 (.ia 75 1 (.s 73) (.s 74)),
   .gd 68 false 76 (.lds 76 (.s 75)),
   .gd 68 false 77 (.bi 77 .lss (.s 72) (.s 76)),
   .gd 65 true 78 (.pk 78 (.s 68) (.c (.bool true)) (.s 77)),
   .pk 79 (.s 65) (.s 78) (.c (.bool false))])
  (.cd (.s 79) (.rg [.mv 80 (.s 7),
   .mv 6 (.s 80)]) .sk)))
  (.rg [.mv 47 (.s 7),
   .bi 48 .add (.s 47) (.c (.int .i64 1)),
   .mv 7 (.s 48)]))))))
  (.sq (.sq (.rg [.mv 81 (.s 6),
   .bi 82 .lss (.s 81) (.c (.int .i64 0))])
  (.cd (.s 82) (.sq (.rg [.mv 83 (.s 5),
   .mv 2 (.s 83)])
  .rt) .sk))
  (.rg [.mo 84 5,
   .mv 85 (.s 3),
   .mv 86 (.s 6),
   .ia 87 1 (.s 85) (.s 86),
   .lds 88 (.s 87),
   .bs 89 1 [(.s 88)],
   .ap 90 1 8 (.s 84) (.s 89),
   .mo 5 90]))))))))))))
def a27 : AF := ⟨c27, [.t 2], 1, 91⟩
theorem m27 : mF Tryd.prog gl drD Tryd.f27 a27 = true := by kernel_rfl
theorem s27 {l : List AV} {r : AV} (hl : l.length = 1) (hi : idsL l = []) (h : wpA (SpH Tryd.prog gl) c27 (postA [.t 2] r) ⟨initE 0 l, [], []⟩) : Sp Tryd.prog gl 27 l r :=
  @fun_sp Tryd.prog gl drD 27 Tryd.f27 a27 Tryd.func27 m27 (dok _) l r hl hi h
theorem h27 {d : Nat} {I : In} {O : Out} (hl : I.vs.length = 1) (h : wpA (SpH Tryd.prog gl) c27 (postH d [.t 2] O) (inSt I)) : SpH Tryd.prog gl 27 d I O :=
  @fun_spH Tryd.prog gl drD 27 Tryd.f27 a27 Tryd.func27 m27 (dok _) d I O hl h
/-- firebell/firebellref18.Plan -/
def c28 : AC :=
 (.sq (.rg [.bx 2 (.s 0),
   .bx 3 (.s 1),
   .mv 4 (.c .nils)])
  (.sq (.rg [.bs 19 3 [],
   .mo 5 19])
  (.sq (.sq (.rg [.mv 6 (.c (.int .i64 0))])
  (.bl 0 (.lp (.sq (.sq (.rg [.mv 20 (.s 6),
   .fa 21 (.s 3) 0,
   .lds 22 (.s 21),
   .ln 23 (.s 22),
   .bi 24 .lss (.s 20) (.s 23)])
  (.cd (.s 24) .sk (.ex 0)))
  (.sq (.bl 1 (.sq (.rg [.fa 27 (.s 3) 0,
   .lds 28 (.s 27),
   .mv 29 (.s 6),
   .ia 30 8 (.s 28) (.s 29),
   .lda 31 8 (.s 30),
   .al 7 [(.str []), (.int .u32 0), (.int .i64 0), (.int .i64 0), (.int .i64 0), (.int .i64 0), .nils, .nils],
   .st 8 (.s 7) (.s 31)])
  (.sq (.rg [.lda 32 6 (.s 2),
   .fa 33 (.s 7) 0,
   .lds 34 (.s 33),
   .cl 35 63 [(.s 32), (.s 34)],
   .mv 8 (.s 35)])
  (.sq (.sq (.rg [.mv 36 (.s 8),
   .bi 37 .lss (.s 36) (.c (.int .i64 0))])
  (.cd (.s 37) (.sq (.rg [.mo 38 5,
   .fa 39 (.s 7) 0,
   .lds 40 (.s 39),
   .bd 41 [(.str []), (.str []), (.int .i64 0)] [(0, 1, (.s 40)), (2, 1, (.c (.int .i64 1)))],
   .bs 42 3 [(.s 41)],
   .ap 43 3 40 (.s 38) (.s 42),
   .mo 5 43])
  (.sq (.sq (.rg [.mv 9 (.c (.int .i64 0))])
  (.bl 2 (.lp (.sq (.sq (.rg [.mv 44 (.s 9),
   .fa 45 (.s 7) 7,
   .lds 46 (.s 45),
   .ln 47 (.s 46),
   .bi 48 .lss (.s 44) (.s 47)])
  (.cd (.s 48) .sk (.ex 2)))
  (.sq (.bl 3 (.rd [[], [], [], [], [], [], [], [], [], [], [], [], []] [.mo 51 5,
   .fa 52 (.s 7) 0,
   .lds 53 (.s 52),
   .fa 54 (.s 7) 7,
   .lds 55 (.s 54),
   .mv 56 (.s 9),
   .ia 57 7 (.s 55) (.s 56),
   .fa 58 (.s 57) 0,
   .lds 59 (.s 58),
   .bd 60 [(.str []), (.str []), (.int .i64 0)] [(0, 1, (.s 53)), (1, 1, (.s 59)), (2, 1, (.c (.int .i64 1)))],
   .bs 61 3 [(.s 60)],
   .ap 62 3 40 (.s 51) (.s 61),
   .mo 5 62]))
  (.rg [.mv 49 (.s 9),
   .bi 50 .add (.s 49) (.c (.int .i64 1)),
   .mv 9 (.s 50)]))))))
  (.ex 1))) .sk))
  (.sq (.rg [.fa 63 (.s 2) 0,
   .lds 64 (.s 63),
   .mv 65 (.s 8),
   .ia 66 8 (.s 64) (.s 65),
   .lda 67 8 (.s 66),
   .al 10 [(.str []), (.int .u32 0), (.int .i64 0), (.int .i64 0), (.int .i64 0), (.int .i64 0), .nils, .nils],
   .st 8 (.s 10) (.s 67)])
  (.sq (.rg [.mv 11 (.c (.int .i64 3))])
  (.sq (.sq (.rg [.lda 68 8 (.s 10),
   .lda 69 8 (.s 7),
   .cl 70 64 [(.s 68), (.s 69)]])
  (.cd (.s 70) (.rg [.mv 11 (.c (.int .i64 2))]) .sk))
  (.sq (.rg [.mo 71 5,
   .fa 72 (.s 7) 0,
   .lds 73 (.s 72),
   .mv 74 (.s 11),
   .bd 75 [(.str []), (.str []), (.int .i64 0)] [(0, 1, (.s 73)), (2, 1, (.s 74))],
   .bs 76 3 [(.s 75)],
   .ap 77 3 40 (.s 71) (.s 76),
   .mo 5 77])
  (.sq (.sq (.rg [.mv 12 (.c (.int .i64 0))])
  (.bl 4 (.lp (.sq (.sq (.rg [.mv 78 (.s 12),
   .fa 79 (.s 7) 7,
   .lds 80 (.s 79),
   .ln 81 (.s 80),
   .bi 82 .lss (.s 78) (.s 81)])
  (.cd (.s 82) .sk (.ex 4)))
  (.sq (.bl 5 (.sq (.rd [[], [], [], [], [], [], [], [], []] [.lda 85 8 (.s 10),
   .fa 86 (.s 7) 7,
   .lds 87 (.s 86),
   .mv 88 (.s 12),
   .ia 89 7 (.s 87) (.s 88),
   .fa 90 (.s 89) 0,
   .lds 91 (.s 90),
   .cl 92 65 [(.s 85), (.s 91)],
   .mv 13 (.s 92)])
  (.sq (.rg [.mv 14 (.c (.int .i64 3))])
  (.sq (.sq (.rg [.mv 93 (.s 13),
   .bi 94 .lss (.s 93) (.c (.int .i64 0))])
  (.cd (.s 94) (.rg [.mv 14 (.c (.int .i64 1))]) (.sq (.rd [[], [], [], [], [], [], [], [], [], [], [], [], [], [], []] [.mv 95 (.s 11),
   .bi 96 .eql (.s 95) (.c (.int .i64 2)),
   .mv 97 (.s 96),
   .gd 97 true 98 (.fa 98 (.s 10) 7),
   .gd 97 true 99 (.lds 99 (.s 98)),
   .gd 97 true 100 (.mv 100 (.s 13)),
   .gd 97 true 101 (.ia 101 7 (.s 99) (.s 100)),
   .gd 97 true 102 (.lda 102 7 (.s 101)),
   .gd 97 true 103 (.fa 103 (.s 7) 7),
   .gd 97 true 104 (.lds 104 (.s 103)),
   .gd 97 true 105 (.mv 105 (.s 12)),
   .gd 97 true 106 (.ia 106 7 (.s 104) (.s 105)),
   .gd 97 true 107 (.lda 107 7 (.s 106)),
   .gd 97 true 108 (.ea 108 false [.s, .b, .i, .i, .i, .i, .i] (.s 102) (.s 107)),
   .pk 109 (.s 97) (.s 108) (.c (.bool false))])
  (.cd (.s 109) (.rg [.mv 14 (.c (.int .i64 2))]) .sk))))
  (.rd [[], [], [], [], [], [], [], [], [], [], [], [], [], []] [.mo 110 5,
   .fa 111 (.s 7) 0,
   .lds 112 (.s 111),
   .fa 113 (.s 7) 7,
   .lds 114 (.s 113),
   .mv 115 (.s 12),
   .ia 116 7 (.s 114) (.s 115),
   .fa 117 (.s 116) 0,
   .lds 118 (.s 117),
   .mv 119 (.s 14),
   .bd 120 [(.str []), (.str []), (.int .i64 0)] [(0, 1, (.s 112)), (1, 1, (.s 118)), (2, 1, (.s 119))],
   .bs 121 3 [(.s 120)],
   .ap 122 3 40 (.s 110) (.s 121),
   .mo 5 122])))))
  (.rg [.mv 83 (.s 12),
   .bi 84 .add (.s 83) (.c (.int .i64 1)),
   .mv 12 (.s 84)]))))))
  (.sq (.rg [.mv 15 (.c (.int .i64 0))])
  (.bl 6 (.lp (.sq (.sq (.rg [.mv 123 (.s 15),
   .fa 124 (.s 10) 7,
   .lds 125 (.s 124),
   .ln 126 (.s 125),
   .bi 127 .lss (.s 123) (.s 126)])
  (.cd (.s 127) .sk (.ex 6)))
  (.sq (.bl 7 (.sq (.rd [[], [], [], [], [], [], [], [], []] [.lda 130 8 (.s 7),
   .fa 131 (.s 10) 7,
   .lds 132 (.s 131),
   .mv 133 (.s 15),
   .ia 134 7 (.s 132) (.s 133),
   .fa 135 (.s 134) 0,
   .lds 136 (.s 135),
   .cl 137 65 [(.s 130), (.s 136)],
   .bi 138 .lss (.s 137) (.c (.int .i64 0))])
  (.cd (.s 138) (.rd [[], [], [], [], [], [], [], [], [], [], [], [], []] [.mo 139 5,
   .fa 140 (.s 7) 0,
   .lds 141 (.s 140),
   .fa 142 (.s 10) 7,
   .lds 143 (.s 142),
   .mv 144 (.s 15),
   .ia 145 7 (.s 143) (.s 144),
   .fa 146 (.s 145) 0,
   .lds 147 (.s 146),
   .bd 148 [(.str []), (.str []), (.int .i64 0)] [(0, 1, (.s 141)), (1, 1, (.s 147)), (2, 1, (.c (.int .i64 4)))],
   .bs 149 3 [(.s 148)],
   .ap 150 3 40 (.s 139) (.s 149),
   .mo 5 150]) .sk)))
  (.rg [.mv 128 (.s 15),
   .bi 129 .add (.s 128) (.c (.int .i64 1)),
   .mv 15 (.s 129)])))))))))))))))
  (.rg [.mv 25 (.s 6),
   .bi 26 .add (.s 25) (.c (.int .i64 1)),
   .mv 6 (.s 26)]))))))
  (.sq (.sq (.rg [.mv 16 (.c (.int .i64 0))])
  (.bl 8 (.lp (.sq (.sq (.rg [.mv 151 (.s 16),
   .fa 152 (.s 2) 0,
   .lds 153 (.s 152),
   .ln 154 (.s 153),
   .bi 155 .lss (.s 151) (.s 154)])
  (.cd (.s 155) .sk (.ex 8)))
  (.sq (.bl 9 (.sq (.rg [.fa 158 (.s 2) 0,
   .lds 159 (.s 158),
   .mv 160 (.s 16),
   .ia 161 8 (.s 159) (.s 160),
   .lda 162 8 (.s 161),
   .al 17 [(.str []), (.int .u32 0), (.int .i64 0), (.int .i64 0), (.int .i64 0), (.int .i64 0), .nils, .nils],
   .st 8 (.s 17) (.s 162)])
  (.sq (.sq (.rg [.lda 163 6 (.s 3),
   .fa 164 (.s 17) 0,
   .lds 165 (.s 164),
   .cl 166 63 [(.s 163), (.s 165)],
   .bi 167 .geq (.s 166) (.c (.int .i64 0))])
  (.cd (.s 167) (.ex 9) .sk))
  (.sq (.rg [.mo 168 5,
   .fa 169 (.s 17) 0,
   .lds 170 (.s 169),
   .bd 171 [(.str []), (.str []), (.int .i64 0)] [(0, 1, (.s 170)), (2, 1, (.c (.int .i64 4)))],
   .bs 172 3 [(.s 171)],
   .ap 173 3 40 (.s 168) (.s 172),
   .mo 5 173])
  (.sq (.rg [.mv 18 (.c (.int .i64 0))])
  (.bl 10 (.lp (.sq (.sq (.rg [.mv 174 (.s 18),
   .fa 175 (.s 17) 7,
   .lds 176 (.s 175),
   .ln 177 (.s 176),
   .bi 178 .lss (.s 174) (.s 177)])
  (.cd (.s 178) .sk (.ex 10)))
  (.sq (.bl 11 (.rd [[], [], [], [], [], [], [], [], [], [], [], [], []] [.mo 181 5,
   .fa 182 (.s 17) 0,
   .lds 183 (.s 182),
   .fa 184 (.s 17) 7,
   .lds 185 (.s 184),
   .mv 186 (.s 18),
   .ia 187 7 (.s 185) (.s 186),
   .fa 188 (.s 187) 0,
   .lds 189 (.s 188),
   .bd 190 [(.str []), (.str []), (.int .i64 0)] [(0, 1, (.s 183)), (1, 1, (.s 189)), (2, 1, (.c (.int .i64 4)))],
   .bs 191 3 [(.s 190)],
   .ap 192 3 40 (.s 181) (.s 191),
   .mo 5 192]))
  (.rg [.mv 179 (.s 18),
   .bi 180 .add (.s 179) (.c (.int .i64 1)),
   .mv 18 (.s 180)]))))))))))
  (.rg [.mv 156 (.s 16),
   .bi 157 .add (.s 156) (.c (.int .i64 1)),
   .mv 16 (.s 157)]))))))
  (.sq (.rg [.mv 193 (.s 5),
   .mv 4 (.s 193)])
  .rt)))))
def a28 : AF := ⟨c28, [.t 4], 2, 194⟩
theorem m28 : mF Tryd.prog gl drD Tryd.f28 a28 = true := by kernel_rfl
theorem s28 {l : List AV} {r : AV} (hl : l.length = 2) (hi : idsL l = []) (h : wpA (SpH Tryd.prog gl) c28 (postA [.t 4] r) ⟨initE 0 l, [], []⟩) : Sp Tryd.prog gl 28 l r :=
  @fun_sp Tryd.prog gl drD 28 Tryd.f28 a28 Tryd.func28 m28 (dok _) l r hl hi h
theorem h28 {d : Nat} {I : In} {O : Out} (hl : I.vs.length = 2) (h : wpA (SpH Tryd.prog gl) c28 (postH d [.t 4] O) (inSt I)) : SpH Tryd.prog gl 28 d I O :=
  @fun_spH Tryd.prog gl drD 28 Tryd.f28 a28 Tryd.func28 m28 (dok _) d I O hl h
/-- firebell/firebellref18.SameTurns -/
def c29 : AC :=
 (.sq (.rg [.mv 4 (.c (.bool false))])
  (.sq (.sq (.rg [.mv 6 (.s 0),
   .ln 7 (.s 6),
   .mv 8 (.s 1),
   .ln 9 (.s 8),
   .bi 10 .neq (.s 7) (.s 9)])
  (.cd (.s 10) (.sq (.rg [.mv 4 (.c (.bool false))])
  .rt) .sk))
  (.sq (.sq (.rg [.mv 5 (.c (.int .i64 0))])
  (.bl 0 (.lp (.sq (.sq (.rg [.mv 11 (.s 5),
   .mv 12 (.s 0),
   .ln 13 (.s 12),
   .bi 14 .lss (.s 11) (.s 13)])
  (.cd (.s 14) .sk (.ex 0)))
  (.sq (.bl 1 (.sq (.rd [[], [], [], [], [], [], [], [], []] [.mv 17 (.s 0),
   .mv 18 (.s 5),
   .ia 19 3 (.s 17) (.s 18),
   .lda 20 3 (.s 19),
   .mv 21 (.s 1),
   .mv 22 (.s 5),
   .ia 23 3 (.s 21) (.s 22),
   .lda 24 3 (.s 23),
   .ea 25 true [.s, .s, .i] (.s 20) (.s 24)])
  (.cd (.s 25) (.sq (.rg [.mv 4 (.c (.bool false))])
  .rt) .sk)))
  (.rg [.mv 15 (.s 5),
   .bi 16 .add (.s 15) (.c (.int .i64 1)),
   .mv 5 (.s 16)]))))))
  (.sq (.rg [.mv 4 (.c (.bool true))])
  .rt))))
def a29 : AF := ⟨c29, [.t 4], 2, 26⟩
theorem m29 : mF Tryd.prog gl drD Tryd.f29 a29 = true := by kernel_rfl
theorem s29 {l : List AV} {r : AV} (hl : l.length = 2) (hi : idsL l = []) (h : wpA (SpH Tryd.prog gl) c29 (postA [.t 4] r) ⟨initE 0 l, [], []⟩) : Sp Tryd.prog gl 29 l r :=
  @fun_sp Tryd.prog gl drD 29 Tryd.f29 a29 Tryd.func29 m29 (dok _) l r hl hi h
theorem h29 {d : Nat} {I : In} {O : Out} (hl : I.vs.length = 2) (h : wpA (SpH Tryd.prog gl) c29 (postH d [.t 4] O) (inSt I)) : SpH Tryd.prog gl 29 d I O :=
  @fun_spH Tryd.prog gl drD 29 Tryd.f29 a29 Tryd.func29 m29 (dok _) d I O hl h
/-- firebell/change.Find -/
def c30 : AC :=
 (.sq (.rg [.bx 4 (.s 1),
   .bx 5 (.s 2),
   .mv 6 (.c (.int .i64 0))])
  (.sq (.rg [.mv 8 (.s 0),
   .mf 9 67 [(.s 4), (.s 5)],
   .ce 10 66 [(.s 8), (.s 9)],
   .mv 7 (.s 10)])
  (.sq (.sq (.rg [.mv 11 (.s 7),
   .bi 12 .lss (.s 11) (.c (.int .i64 0))])
  (.cd (.s 12) (.sq (.rg [.mv 6 (.c (.int .i64 0))])
  .rt) .sk))
  (.sq (.rg [.mv 13 (.s 0),
   .mv 14 (.s 7),
   .ia 15 3 (.s 13) (.s 14),
   .fa 16 (.s 15) 2,
   .lds 17 (.s 16),
   .mv 6 (.s 17)])
  .rt))))
def a30 : AF := ⟨c30, [.t 6], 3, 18⟩
theorem m30 : mF Tryd.prog gl drD Tryd.f30 a30 = true := by kernel_rfl
theorem s30 {l : List AV} {r : AV} (hl : l.length = 3) (hi : idsL l = []) (h : wpA (SpH Tryd.prog gl) c30 (postA [.t 6] r) ⟨initE 0 l, [], []⟩) : Sp Tryd.prog gl 30 l r :=
  @fun_sp Tryd.prog gl drD 30 Tryd.f30 a30 Tryd.func30 m30 (dok _) l r hl hi h
theorem h30 {d : Nat} {I : In} {O : Out} (hl : I.vs.length = 3) (h : wpA (SpH Tryd.prog gl) c30 (postH d [.t 6] O) (inSt I)) : SpH Tryd.prog gl 30 d I O :=
  @fun_spH Tryd.prog gl drD 30 Tryd.f30 a30 Tryd.func30 m30 (dok _) d I O hl h
/-- firebell/firebelllaw30.awake -/
def c31 : AC :=
 (.sq (.rg [.mv 0 (.c (.bool false))])
  (.sq (.rg [.bd 2 [(.str []), (.str []), (.bool false), (.int .u64 0), (.bool false)] [(0, 1, (.c (.str [97]))), (1, 1, (.c (.str [114]))), (3, 1, (.c (.int .u64 1)))],
   .bd 3 [(.str []), (.str []), (.bool false), (.int .u64 0), (.bool false)] [(0, 1, (.c (.str [98]))), (1, 1, (.c (.str [114]))), (2, 1, (.c (.bool true))), (3, 1, (.c (.int .u64 2)))],
   .bd 4 [(.str []), (.str []), (.bool false), (.int .u64 0), (.bool false)] [(0, 1, (.c (.str [97]))), (1, 1, (.c (.str [115]))), (3, 1, (.c (.int .u64 3)))],
   .bs 5 5 [(.s 2), (.s 3), (.s 4)],
   .cl 6 68 [(.s 5)],
   .mv 1 (.s 6)])
  (.sq (.rg [.mv 7 (.s 1),
   .ln 8 (.s 7),
   .bi 9 .eql (.s 8) (.c (.int .i64 2)),
   .mv 10 (.s 9),
   .gd 10 true 11 (.mv 11 (.s 1)),
   .gd 10 true 12 (.ia 12 3 (.s 11) (.c (.int .i64 0))),
   .gd 10 true 13 (.fa 13 (.s 12) 0),
   .gd 10 true 14 (.lds 14 (.s 13)),
   .gd 10 true 15 (.bi 15 .eql (.s 14) (.c (.str [98]))),
   .pk 16 (.s 10) (.s 15) (.c (.bool false)),
   .mv 17 (.s 16),
   .gd 17 true 18 (.mv 18 (.s 1)),
   .gd 17 true 19 (.ia 19 3 (.s 18) (.c (.int .i64 1))),
   .gd 17 true 20 (.fa 20 (.s 19) 2),
   .gd 17 true 21 (.lds 21 (.s 20)),
   .gd 17 true 22 (.ln 22 (.s 21)),
   .gd 17 true 23 (.bi 23 .eql (.s 22) (.c (.int .i64 2))),
   .pk 24 (.s 17) (.s 23) (.c (.bool false)),
   .mv 0 (.s 24)])
  .rt)))
def a31 : AF := ⟨c31, [.t 0], 0, 25⟩
theorem m31 : mF Tryd.prog gl drD Tryd.f31 a31 = true := by kernel_rfl
theorem s31 {l : List AV} {r : AV} (hl : l.length = 0) (hi : idsL l = []) (h : wpA (SpH Tryd.prog gl) c31 (postA [.t 0] r) ⟨initE 0 l, [], []⟩) : Sp Tryd.prog gl 31 l r :=
  @fun_sp Tryd.prog gl drD 31 Tryd.f31 a31 Tryd.func31 m31 (dok _) l r hl hi h
theorem h31 {d : Nat} {I : In} {O : Out} (hl : I.vs.length = 0) (h : wpA (SpH Tryd.prog gl) c31 (postH d [.t 0] O) (inSt I)) : SpH Tryd.prog gl 31 d I O :=
  @fun_spH Tryd.prog gl drD 31 Tryd.f31 a31 Tryd.func31 m31 (dok _) d I O hl h
/-- firebell/firebellref29.HeavyKeys -/
def c32 : AC :=
 (.sq (.rg [.mv 2 (.c (.bool false))])
  (.sq (.sq (.rg [.mv 4 (.s 0),
   .ln 5 (.s 4),
   .bi 6 .gtr (.s 5) (.c (.int .i64 100))])
  (.cd (.s 6) (.sq (.rg [.mv 2 (.c (.bool true))])
  .rt) .sk))
  (.sq (.sq (.rg [.mv 3 (.c (.int .i64 0))])
  (.bl 0 (.lp (.sq (.sq (.rg [.mv 7 (.s 3),
   .mv 8 (.s 0),
   .ln 9 (.s 8),
   .bi 10 .lss (.s 7) (.s 9)])
  (.cd (.s 10) .sk (.ex 0)))
  (.sq (.bl 1 (.sq (.rg [.mv 13 (.s 0),
   .mv 14 (.s 3),
   .ia 15 5 (.s 13) (.s 14),
   .lda 16 5 (.s 15),
   .cl 17 9 [(.s 16)]])
  (.cd (.s 17) (.sq (.rg [.mv 2 (.c (.bool true))])
  .rt) .sk)))
  (.rg [.mv 11 (.s 3),
   .bi 12 .add (.s 11) (.c (.int .i64 1)),
   .mv 3 (.s 12)]))))))
  (.sq (.rg [.mv 2 (.c (.bool false))])
  .rt))))
def a32 : AF := ⟨c32, [.t 2], 1, 18⟩
theorem m32 : mF Tryd.prog gl drD Tryd.f32 a32 = true := by kernel_rfl
theorem s32 {l : List AV} {r : AV} (hl : l.length = 1) (hi : idsL l = []) (h : wpA (SpH Tryd.prog gl) c32 (postA [.t 2] r) ⟨initE 0 l, [], []⟩) : Sp Tryd.prog gl 32 l r :=
  @fun_sp Tryd.prog gl drD 32 Tryd.f32 a32 Tryd.func32 m32 (dok _) l r hl hi h
theorem h32 {d : Nat} {I : In} {O : Out} (hl : I.vs.length = 1) (h : wpA (SpH Tryd.prog gl) c32 (postH d [.t 2] O) (inSt I)) : SpH Tryd.prog gl 32 d I O :=
  @fun_spH Tryd.prog gl drD 32 Tryd.f32 a32 Tryd.func32 m32 (dok _) d I O hl h
/-- firebell/firebellref30.Read -/
def c35 : AC :=
 (.sq (.rg [.al 2 [(.str []), (.bool false), .nils],
   .mv 3 (.c (.bool false))])
  (.sq (.rg [.bs 11 1 [],
   .mo 4 11])
  (.sq (.rg [.mv 5 (.c (.str []))])
  (.sq (.sq (.rg [.mv 6 (.c (.int .i64 0))])
  (.bl 0 (.lp (.sq (.sq (.rg [.mv 12 (.s 6),
   .mv 13 (.s 0),
   .lns 14 (.s 13),
   .bi 15 .lss (.s 12) (.s 14)])
  (.cd (.s 15) .sk (.ex 0)))
  (.sq (.bl 1 (.sq (.rg [.mv 18 (.s 0),
   .mv 19 (.s 6),
   .ixs 20 (.s 18) (.s 19),
   .bi 21 .eql (.s 20) (.c (.int .u8 10))])
  (.cd (.s 21) (.sq (.rg [.mo 22 4,
   .mv 23 (.s 5),
   .bs 24 1 [(.s 23)],
   .ap 25 1 16 (.s 22) (.s 24),
   .mo 4 25])
  (.rg [.mv 5 (.c (.str []))])) (.rg [.mv 26 (.s 5),
   .mv 27 (.s 0),
   .mv 28 (.s 6),
   .mv 29 (.s 6),
   .bi 30 .add (.s 29) (.c (.int .i64 1)),
   .sls 31 (.s 27) (some (.s 28)) (some (.s 30)),
   .bi 32 .add (.s 26) (.s 31),
   .mv 5 (.s 32)]))))
  (.rg [.mv 16 (.s 6),
   .bi 17 .add (.s 16) (.c (.int .i64 1)),
   .mv 6 (.s 17)]))))))
  (.sq (.sq (.rg [.mv 33 (.s 4),
   .ln 34 (.s 33),
   .bi 35 .lss (.s 34) (.c (.int .i64 2)),
   .mv 36 (.s 35),
   .gd 36 false 37 (.mv 37 (.s 4)),
   .gd 36 false 38 (.ln 38 (.s 37)),
   .gd 36 false 39 (.bi 39 .gtr (.s 38) (.c (.int .i64 9))),
   .pk 40 (.s 36) (.c (.bool true)) (.s 39),
   .mv 41 (.s 40),
   .gd 41 false 42 (.mv 42 (.s 5)),
   .gd 41 false 43 (.bi 43 .neq (.s 42) (.c (.str []))),
   .pk 44 (.s 41) (.c (.bool true)) (.s 43)])
  (.cd (.s 44) (.sq (.rg [.bd 45 [(.str []), (.bool false), .nils] [],
   .st 3 (.s 2) (.s 45),
   .mv 3 (.c (.bool false))])
  .rt) .sk))
  (.sq (.rg [.bd 46 [(.str []), (.bool false), .nils] [],
   .al 7 [(.str []), (.bool false), .nils],
   .st 3 (.s 7) (.s 46)])
  (.sq (.sq (.rg [.mv 8 (.c (.int .i64 1))])
  (.bl 2 (.lp (.sq (.sq (.rg [.mv 47 (.s 8),
   .mv 48 (.s 4),
   .ln 49 (.s 48),
   .bi 50 .lss (.s 47) (.s 49)])
  (.cd (.s 50) .sk (.ex 2)))
  (.sq (.bl 3 (.sq (.sq (.rg [.mv 53 (.s 4),
   .mv 54 (.s 8),
   .ia 55 1 (.s 53) (.s 54),
   .lds 56 (.s 55),
   .lns 57 (.s 56),
   .bi 58 .lss (.s 57) (.c (.int .i64 2))])
  (.cd (.s 58) (.sq (.rg [.bd 59 [(.str []), (.bool false), .nils] [],
   .st 3 (.s 2) (.s 59),
   .mv 3 (.c (.bool false))])
  .rt) .sk))
  (.sq (.rg [.mv 61 (.s 4),
   .mv 62 (.s 8),
   .ia 63 1 (.s 61) (.s 62),
   .lds 64 (.s 63),
   .sls 65 (.s 64) (some (.c (.int .i64 2))) none,
   .cl 66 76 [(.s 65)],
   .mv 60 (.s 66),
   .exq 67 (.s 60) 0,
   .exq 68 (.s 60) 1,
   .al 9 [(.str []), (.str []), (.bool false), (.int .u64 0), (.bool false)],
   .st 5 (.s 9) (.s 67),
   .mv 10 (.s 68)])
  (.sq (.sq (.rg [.mv 69 (.s 10),
   .un 70 .not (.s 69)])
  (.cd (.s 70) (.sq (.rg [.bd 71 [(.str []), (.bool false), .nils] [],
   .st 3 (.s 2) (.s 71),
   .mv 3 (.c (.bool false))])
  .rt) .sk))
  (.sq (.rg [.fa 72 (.s 9) 0,
   .lds 73 (.s 72),
   .fa 74 (.s 7) 0,
   .st 1 (.s 74) (.s 73)])
  (.sq (.rg [.fa 75 (.s 9) 2,
   .lds 76 (.s 75),
   .fa 77 (.s 7) 1,
   .st 1 (.s 77) (.s 76)])
  (.rg [.fa 78 (.s 7) 2,
   .lo 79 (.s 78),
   .lda 80 5 (.s 9),
   .bs 81 5 [(.s 80)],
   .ap 82 5 56 (.s 79) (.s 81),
   .fa 83 (.s 7) 2,
   .so (.s 83) 82])))))))
  (.rg [.mv 51 (.s 8),
   .bi 52 .add (.s 51) (.c (.int .i64 1)),
   .mv 8 (.s 52)]))))))
  (.sq (.sq (.rg [.lda 84 3 (.s 7),
   .cl 85 37 [(.s 84)],
   .un 86 .not (.s 85),
   .mv 87 (.s 86),
   .gd 87 false 88 (.lda 88 3 (.s 7)),
   .gd 87 false 89 (.cl 89 39 [(.s 88)]),
   .gd 87 false 90 (.mv 90 (.s 0)),
   .gd 87 false 91 (.bi 91 .neq (.s 89) (.s 90)),
   .pk 92 (.s 87) (.c (.bool true)) (.s 91)])
  (.cd (.s 92) (.sq (.rg [.bd 93 [(.str []), (.bool false), .nils] [],
   .st 3 (.s 2) (.s 93),
   .mv 3 (.c (.bool false))])
  .rt) .sk))
  (.sq (.rg [.lda 94 3 (.s 7),
   .st 3 (.s 2) (.s 94),
   .mv 3 (.c (.bool true))])
  .rt)))))))))
def a35 : AF := ⟨c35, [.ca 2 3, .t 3], 1, 95⟩
theorem m35 : mF Tryd.prog gl drD Tryd.f35 a35 = true := by kernel_rfl
theorem s35 {l : List AV} {r : AV} (hl : l.length = 1) (hi : idsL l = []) (h : wpA (SpH Tryd.prog gl) c35 (postA [.ca 2 3, .t 3] r) ⟨initE 0 l, [], []⟩) : Sp Tryd.prog gl 35 l r :=
  @fun_sp Tryd.prog gl drD 35 Tryd.f35 a35 Tryd.func35 m35 (dok _) l r hl hi h
theorem h35 {d : Nat} {I : In} {O : Out} (hl : I.vs.length = 1) (h : wpA (SpH Tryd.prog gl) c35 (postH d [.ca 2 3, .t 3] O) (inSt I)) : SpH Tryd.prog gl 35 d I O :=
  @fun_spH Tryd.prog gl drD 35 Tryd.f35 a35 Tryd.func35 m35 (dok _) d I O hl h
/-- firebell/bundle.Right -/
def c36 : AC :=
 (.sq (.rg [.bx 1 (.s 0),
   .mv 2 (.c (.bool false))])
  (.sq (.sq (.rg [.fa 5 (.s 1) 2,
   .lds 6 (.s 5),
   .ln 7 (.s 6),
   .bi 8 .lss (.s 7) (.c (.int .i64 1)),
   .mv 9 (.s 8),
   .gd 9 false 10 (.fa 10 (.s 1) 2),
   .gd 9 false 11 (.lds 11 (.s 10)),
   .gd 9 false 12 (.ln 12 (.s 11)),
   .gd 9 false 13 (.bi 13 .gtr (.s 12) (.c (.int .i64 8))),
   .pk 14 (.s 9) (.c (.bool true)) (.s 13)])
  (.cd (.s 14) (.sq (.rg [.mv 2 (.c (.bool false))])
  .rt) .sk))
  (.sq (.sq (.rg [.fa 15 (.s 1) 2,
   .lds 16 (.s 15),
   .ln 17 (.s 16),
   .mv 18 (.c (.int .i64 0))])
  (.bl 0 (.lp (.sq (.rg [.bi 19 .lss (.s 18) (.s 17)])
  (.sq (.cd (.s 19) .sk (.ex 0))
  (.sq (.bl 1 (.sq (.rg [.mv 20 (.s 18),
   .ia 21 5 (.s 16) (.s 18),
   .lda 22 5 (.s 21),
   .al 4 [(.str []), (.str []), (.bool false), (.int .u64 0), (.bool false)],
   .mv 3 (.s 20),
   .st 5 (.s 4) (.s 22)])
  (.sq (.rg [.lda 23 5 (.s 4),
   .cl 24 47 [(.s 23)],
   .un 25 .not (.s 24),
   .mv 26 (.s 25),
   .gd 26 false 27 (.fa 27 (.s 4) 0),
   .gd 26 false 28 (.lds 28 (.s 27)),
   .gd 26 false 29 (.fa 29 (.s 1) 0),
   .gd 26 false 30 (.lds 30 (.s 29)),
   .gd 26 false 31 (.bi 31 .neq (.s 28) (.s 30)),
   .pk 32 (.s 26) (.c (.bool true)) (.s 31),
   .mv 33 (.s 32),
   .gd 33 false 34 (.fa 34 (.s 4) 2),
   .gd 33 false 35 (.lds 35 (.s 34)),
   .gd 33 false 36 (.fa 36 (.s 1) 1),
   .gd 33 false 37 (.lds 37 (.s 36)),
   .gd 33 false 38 (.bb 38 true (.s 35) (.s 37)),
   .pk 39 (.s 33) (.c (.bool true)) (.s 38),
   .mv 40 (.s 39),
   .gd 40 false 41 (.fa 41 (.s 1) 2),
   .gd 40 false 42 (.lds 42 (.s 41)),
   .gd 40 false 43 (.lda 43 5 (.s 4)),
   .gd 40 false 44 (.cl 44 77 [(.s 42), (.s 43)]),
   .gd 40 false 45 (.mv 45 (.s 3)),
   .gd 40 false 46 (.bi 46 .neq (.s 44) (.s 45)),
   .pk 47 (.s 40) (.c (.bool true)) (.s 46)])
  (.cd (.s 47) (.sq (.rg [.mv 2 (.c (.bool false))])
  .rt) .sk))))
  (.rg [.bi 48 .add (.s 18) (.c (.int .i64 1)),
   .mv 18 (.s 48)])))))))
  (.sq (.rg [.mv 2 (.c (.bool true))])
  .rt))))
def a36 : AF := ⟨c36, [.t 2], 1, 49⟩
theorem m36 : mF Tryd.prog gl drD Tryd.f36 a36 = true := by kernel_rfl
theorem s36 {l : List AV} {r : AV} (hl : l.length = 1) (hi : idsL l = []) (h : wpA (SpH Tryd.prog gl) c36 (postA [.t 2] r) ⟨initE 0 l, [], []⟩) : Sp Tryd.prog gl 36 l r :=
  @fun_sp Tryd.prog gl drD 36 Tryd.f36 a36 Tryd.func36 m36 (dok _) l r hl hi h
theorem h36 {d : Nat} {I : In} {O : Out} (hl : I.vs.length = 1) (h : wpA (SpH Tryd.prog gl) c36 (postH d [.t 2] O) (inSt I)) : SpH Tryd.prog gl 36 d I O :=
  @fun_spH Tryd.prog gl drD 36 Tryd.f36 a36 Tryd.func36 m36 (dok _) d I O hl h
/-- firebell/firebellref30.Right -/
def c37 : AC :=
 (.sq (.rg [.bx 1 (.s 0),
   .mv 2 (.c (.bool false))])
  (.sq (.sq (.rg [.fa 5 (.s 1) 2,
   .lds 6 (.s 5),
   .ln 7 (.s 6),
   .bi 8 .eql (.s 7) (.c (.int .i64 0)),
   .mv 9 (.s 8),
   .gd 9 false 10 (.fa 10 (.s 1) 2),
   .gd 9 false 11 (.lds 11 (.s 10)),
   .gd 9 false 12 (.ln 12 (.s 11)),
   .gd 9 false 13 (.bi 13 .gtr (.s 12) (.c (.int .i64 8))),
   .pk 14 (.s 9) (.c (.bool true)) (.s 13)])
  (.cd (.s 14) (.sq (.rg [.mv 2 (.c (.bool false))])
  .rt) .sk))
  (.sq (.sq (.rg [.mv 3 (.c (.int .i64 0))])
  (.bl 0 (.lp (.sq (.sq (.rg [.mv 15 (.s 3),
   .fa 16 (.s 1) 2,
   .lds 17 (.s 16),
   .ln 18 (.s 17),
   .bi 19 .lss (.s 15) (.s 18)])
  (.cd (.s 19) .sk (.ex 0)))
  (.sq (.bl 1 (.sq (.rg [.fa 22 (.s 1) 2,
   .lds 23 (.s 22),
   .mv 24 (.s 3),
   .ia 25 5 (.s 23) (.s 24),
   .lda 26 5 (.s 25),
   .al 4 [(.str []), (.str []), (.bool false), (.int .u64 0), (.bool false)],
   .st 5 (.s 4) (.s 26)])
  (.sq (.rd [[], [], [], [], [], [], [], [], [], [], [], [], [], [], [], [], [], [], [], [], [], [], [], [], []] [.lda 27 5 (.s 4),
   .cl 28 14 [(.s 27)],
   .un 29 .not (.s 28),
   .mv 30 (.s 29),
   .gd 30 false 31 (.fa 31 (.s 4) 0),
   .gd 30 false 32 (.lds 32 (.s 31)),
   .gd 30 false 33 (.fa 33 (.s 1) 0),
   .gd 30 false 34 (.lds 34 (.s 33)),
   .gd 30 false 35 (.bi 35 .neq (.s 32) (.s 34)),
   .pk 36 (.s 30) (.c (.bool true)) (.s 35),
   .mv 37 (.s 36),
   .gd 37 false 38 (.fa 38 (.s 4) 2),
   .gd 37 false 39 (.lds 39 (.s 38)),
   .gd 37 false 40 (.fa 40 (.s 1) 1),
   .gd 37 false 41 (.lds 41 (.s 40)),
   .gd 37 false 42 (.bb 42 true (.s 39) (.s 41)),
   .pk 43 (.s 37) (.c (.bool true)) (.s 42),
   .mv 44 (.s 43),
   .gd 44 false 45 (.fa 45 (.s 1) 2),
   .gd 44 false 46 (.lds 46 (.s 45)),
   .gd 44 false 47 (.mv 47 (.s 3)),
   .gd 44 false 48 (.slc 48 5 (.s 46) none (some (.s 47))),
   .gd 44 false 49 (.lda 49 5 (.s 4)),
   .gd 44 false 50 (.cl 50 78 [(.s 48), (.s 49)]),
   .pk 51 (.s 44) (.c (.bool true)) (.s 50)])
  (.cd (.s 51) (.sq (.rg [.mv 2 (.c (.bool false))])
  .rt) .sk))))
  (.rg [.mv 20 (.s 3),
   .bi 21 .add (.s 20) (.c (.int .i64 1)),
   .mv 3 (.s 21)]))))))
  (.sq (.rg [.mv 2 (.c (.bool true))])
  .rt))))
def a37 : AF := ⟨c37, [.t 2], 1, 52⟩
theorem m37 : mF Tryd.prog gl drD Tryd.f37 a37 = true := by kernel_rfl
theorem s37 {l : List AV} {r : AV} (hl : l.length = 1) (hi : idsL l = []) (h : wpA (SpH Tryd.prog gl) c37 (postA [.t 2] r) ⟨initE 0 l, [], []⟩) : Sp Tryd.prog gl 37 l r :=
  @fun_sp Tryd.prog gl drD 37 Tryd.f37 a37 Tryd.func37 m37 (dok _) l r hl hi h
theorem h37 {d : Nat} {I : In} {O : Out} (hl : I.vs.length = 1) (h : wpA (SpH Tryd.prog gl) c37 (postH d [.t 2] O) (inSt I)) : SpH Tryd.prog gl 37 d I O :=
  @fun_spH Tryd.prog gl drD 37 Tryd.f37 a37 Tryd.func37 m37 (dok _) d I O hl h
/-- firebell/wire.Flag -/
def c41 : AC :=
 (.sq (.rg [.mv 4 (.c .nils)])
  (.sq (.sq (.rg [.mv 5 (.s 1)])
  (.cd (.s 5) (.sq (.rg [.mo 6 0,
   .bs 7 1 [(.c (.int .u8 1))],
   .ap 8 1 1 (.s 6) (.s 7),
   .mo 4 8])
  .rt) .sk))
  (.sq (.rg [.mo 9 0,
   .bs 10 1 [(.c (.int .u8 0))],
   .ap 11 1 1 (.s 9) (.s 10),
   .mo 4 11])
  .rt)))
def a41 : AF := ⟨c41, [.t 4], 2, 12⟩
theorem m41 : mF Tryd.prog gl drD Tryd.f41 a41 = true := by kernel_rfl
theorem s41 {l : List AV} {r : AV} (hl : l.length = 2) (hi : idsL l = []) (h : wpA (SpH Tryd.prog gl) c41 (postA [.t 4] r) ⟨initE 0 l, [], []⟩) : Sp Tryd.prog gl 41 l r :=
  @fun_sp Tryd.prog gl drD 41 Tryd.f41 a41 Tryd.func41 m41 (dok _) l r hl hi h
theorem h41 {d : Nat} {I : In} {O : Out} (hl : I.vs.length = 2) (h : wpA (SpH Tryd.prog gl) c41 (postH d [.t 4] O) (inSt I)) : SpH Tryd.prog gl 41 d I O :=
  @fun_spH Tryd.prog gl drD 41 Tryd.f41 a41 Tryd.func41 m41 (dok _) d I O hl h
/-- (*firebell/wire.Reader).Text -/
def c44 : AC :=
 (.sq (.rg [.mv 4 (.c (.str []))])
  (.sq (.rg [.mv 8 (.s 0),
   .mv 9 (.s 1),
   .ce 10 48 [(.s 8), (.s 9)],
   .mv 5 (.s 10)])
  (.sq (.rg [.mv 12 (.s 0),
   .mv 13 (.s 5),
   .cv 14 .u64 (.s 13),
   .ce 15 85 [(.s 12), (.s 14)],
   .mv 11 (.s 15),
   .exq 16 (.s 11) 0,
   .exq 17 (.s 11) 1,
   .mv 6 (.s 16),
   .mv 7 (.s 17)])
  (.sq (.rg [.mv 18 (.s 6),
   .b2s 19 (.s 18),
   .mv 4 (.s 19)])
  .rt))))
def a44 : AF := ⟨c44, [.t 4], 2, 20⟩
theorem m44 : mF Tryd.prog gl drD Tryd.f44 a44 = true := by kernel_rfl
theorem s44 {l : List AV} {r : AV} (hl : l.length = 2) (hi : idsL l = []) (h : wpA (SpH Tryd.prog gl) c44 (postA [.t 4] r) ⟨initE 0 l, [], []⟩) : Sp Tryd.prog gl 44 l r :=
  @fun_sp Tryd.prog gl drD 44 Tryd.f44 a44 Tryd.func44 m44 (dok _) l r hl hi h
theorem h44 {d : Nat} {I : In} {O : Out} (hl : I.vs.length = 2) (h : wpA (SpH Tryd.prog gl) c44 (postH d [.t 4] O) (inSt I)) : SpH Tryd.prog gl 44 d I O :=
  @fun_spH Tryd.prog gl drD 44 Tryd.f44 a44 Tryd.func44 m44 (dok _) d I O hl h
/-- (*firebell/wire.Reader).Num -/
def c46 : AC :=
 (.sq (.rg [.mv 2 (.c (.int .u64 0))])
  (.sq (.rg [.mv 6 (.s 0),
   .ce 7 87 [(.s 6), (.c (.int .u8 0))],
   .mv 5 (.s 7),
   .exq 8 (.s 5) 0,
   .exq 9 (.s 5) 1,
   .mv 3 (.s 8),
   .mv 4 (.s 9)])
  (.sq (.rg [.mv 10 (.s 4),
   .mv 2 (.s 10)])
  .rt)))
def a46 : AF := ⟨c46, [.t 2], 1, 11⟩
theorem m46 : mF Tryd.prog gl drD Tryd.f46 a46 = true := by kernel_rfl
theorem s46 {l : List AV} {r : AV} (hl : l.length = 1) (hi : idsL l = []) (h : wpA (SpH Tryd.prog gl) c46 (postA [.t 2] r) ⟨initE 0 l, [], []⟩) : Sp Tryd.prog gl 46 l r :=
  @fun_sp Tryd.prog gl drD 46 Tryd.f46 a46 Tryd.func46 m46 (dok _) l r hl hi h
theorem h46 {d : Nat} {I : In} {O : Out} (hl : I.vs.length = 1) (h : wpA (SpH Tryd.prog gl) c46 (postH d [.t 2] O) (inSt I)) : SpH Tryd.prog gl 46 d I O :=
  @fun_spH Tryd.prog gl drD 46 Tryd.f46 a46 Tryd.func46 m46 (dok _) d I O hl h
/-- firebell/firebellref07.Num -/
def c51 : AC :=
 (.sq (.rg [.mv 2 (.c .nils)])
  (.sq (.rg [.bs 4 1 [],
   .mv 3 (.s 4)])
  (.sq (.bl 0 (.lp (.sq (.sq (.rg [.mv 5 (.s 0),
   .bi 6 .gtr (.s 5) (.c (.int .u64 0))])
  (.cd (.s 6) .sk (.ex 0)))
  (.bl 1 (.sq (.rg [.mv 7 (.s 0),
   .bi 8 .rem (.s 7) (.c (.int .u64 256)),
   .cv 9 .u8 (.s 8),
   .bs 10 1 [(.s 9)],
   .mv 11 (.s 3),
   .ap 12 1 1 (.s 10) (.s 11),
   .mv 3 (.s 12)])
  (.rg [.mv 13 (.s 0),
   .bi 14 .quo (.s 13) (.c (.int .u64 256)),
   .mv 0 (.s 14)]))))))
  (.sq (.rg [.mv 15 (.s 3),
   .ln 16 (.s 15),
   .cv 17 .u8 (.s 16),
   .bs 18 1 [(.s 17)],
   .mv 19 (.s 3),
   .ap 20 1 1 (.s 18) (.s 19),
   .mo 2 20])
  .rt))))
def a51 : AF := ⟨c51, [.t 2], 1, 21⟩
theorem m51 : mF Tryd.prog gl drD Tryd.f51 a51 = true := by kernel_rfl
theorem s51 {l : List AV} {r : AV} (hl : l.length = 1) (hi : idsL l = []) (h : wpA (SpH Tryd.prog gl) c51 (postA [.t 2] r) ⟨initE 0 l, [], []⟩) : Sp Tryd.prog gl 51 l r :=
  @fun_sp Tryd.prog gl drD 51 Tryd.f51 a51 Tryd.func51 m51 (dok _) l r hl hi h
theorem h51 {d : Nat} {I : In} {O : Out} (hl : I.vs.length = 1) (h : wpA (SpH Tryd.prog gl) c51 (postH d [.t 2] O) (inSt I)) : SpH Tryd.prog gl 51 d I O :=
  @fun_spH Tryd.prog gl drD 51 Tryd.f51 a51 Tryd.func51 m51 (dok _) d I O hl h
/-- firebell/firebellref06.Name -/
def c52 : AC :=
 (.sq (.rg [.mv 2 (.c (.bool false))])
  (.sq (.rg [.mv 7 (.s 0),
   .cl 8 89 [(.s 7)],
   .mv 3 (.s 8)])
  (.sq (.sq (.rg [.mv 9 (.s 3),
   .ln 10 (.s 9),
   .bi 11 .eql (.s 10) (.c (.int .i64 0)),
   .mv 12 (.s 11),
   .gd 12 false 13 (.mv 13 (.s 3)),
   .gd 12 false 14 (.ln 14 (.s 13)),
   .gd 12 false 15 (.bi 15 .gtr (.s 14) (.c (.int .i64 24))),
   .pk 16 (.s 12) (.c (.bool true)) (.s 15),
   .mv 17 (.s 16),
   .gd 17 false 18 (.mv 18 (.s 3)),
   .gd 17 false 19 (.ia 19 1 (.s 18) (.c (.int .i64 0))),
   .gd 17 false 20 (.lds 20 (.s 19)),
   .gd 17 false 21 (.cl 21 90 [(.s 20)]),
   .gd 17 false 22 (.un 22 .not (.s 21)),
   .pk 23 (.s 17) (.c (.bool true)) (.s 22)])
  (.cd (.s 23) (.sq (.rg [.mv 2 (.c (.bool false))])
  .rt) .sk))
  (.sq (.sq (.rg [.mv 4 (.c (.int .i64 0))])
  (.bl 0 (.lp (.sq (.sq (.rg [.mv 24 (.s 4),
   .mv 25 (.s 3),
   .ln 26 (.s 25),
   .bi 27 .lss (.s 24) (.s 26)])
  (.cd (.s 27) .sk (.ex 0)))
  (.sq (.bl 1 (.sq (.rg [.mv 30 (.s 4),
   .mv 31 (.s 3),
   .ln 32 (.s 31),
   .bi 33 .sub (.s 32) (.c (.int .i64 1)),
   .bi 34 .eql (.s 30) (.s 33),
   .mv 5 (.s 34)])
  (.sq (.rg [.mv 35 (.s 3),
   .mv 36 (.s 4),
   .ia 37 1 (.s 35) (.s 36),
   .lds 38 (.s 37),
   .bi 39 .geq (.s 38) (.c (.int .i32 48)),
   .mv 40 (.s 39),
   .gd 40 true 41 (.mv 41 (.s 3)),
   .gd 40 true 42 (.mv 42 (.s 4)),
   .gd 40 true 43 (.ia 43 1 (.s 41) (.s 42)),
   .gd 40 true 44 (.lds 44 (.s 43)),
   .gd 40 true 45 (.bi 45 .leq (.s 44) (.c (.int .i32 57))),
   .pk 46 (.s 40) (.s 45) (.c (.bool false)),
   .mv 6 (.s 46)])
  (.sq (.rg [.mv 47 (.s 3),
   .mv 48 (.s 4),
   .ia 49 1 (.s 47) (.s 48),
   .lds 50 (.s 49),
   .cl 51 90 [(.s 50)],
   .un 52 .not (.s 51),
   .mv 53 (.s 52),
   .gd 53 true 54 (.mv 54 (.s 6)),
   .gd 53 true 55 (.un 55 .not (.s 54)),
   .pk 56 (.s 53) (.s 55) (.c (.bool false)),
   .mv 57 (.s 56),
   .gd 57 true 58 (.mv 58 (.s 5)),
   .gd 57 true 59 (.mv 59 (.s 58)),
   .gd 59 false 60 (.mv 60 (.s 3)),
   .gd 59 false 61 (.mv 61 (.s 4)),
   .gd 59 false 62 (.ia 62 1 (.s 60) (.s 61)),
   .gd 59 false 63 (.lds 63 (.s 62)),
   .gd 59 false 64 (.bi 64 .neq (.s 63) (.c (.int .i32 95))),
   .gd 59 false 65 (.mv 65 (.s 64)),
   .gd 65 true 66 (.mv 66 (.s 3)),
   .gd 65 true 67 (.mv 67 (.s 4)),
   .gd 65 true 68 (.ia 68 1 (.s 66) (.s 67)),
   .gd 65 true 69 (.lds 69 (.s 68)),
   .gd 65 true 70 (.bi 70 .neq (.s 69) (.c (.int .i32 45))),
   .gd 59 false 71 (.pk 71 (.s 65) (.s 70) (.c (.bool false))),
   .gd 57 true 72 (.pk 72 (.s 59) (.c (.bool true)) (.s 71)),
   .pk 73 (.s 57) (.s 72) (.c (.bool false))])
  (.cd (.s 73) (.sq (.rg [.mv 2 (.c (.bool false))])
  .rt) .sk)))))
  (.rg [.mv 28 (.s 4),
   .bi 29 .add (.s 28) (.c (.int .i64 1)),
   .mv 4 (.s 29)]))))))
  (.sq (.rg [.mv 2 (.c (.bool true))])
  .rt)))))
def a52 : AF := ⟨c52, [.t 2], 1, 74⟩
theorem m52 : mF Tryd.prog gl drD Tryd.f52 a52 = true := by kernel_rfl
theorem s52 {l : List AV} {r : AV} (hl : l.length = 1) (hi : idsL l = []) (h : wpA (SpH Tryd.prog gl) c52 (postA [.t 2] r) ⟨initE 0 l, [], []⟩) : Sp Tryd.prog gl 52 l r :=
  @fun_sp Tryd.prog gl drD 52 Tryd.f52 a52 Tryd.func52 m52 (dok _) l r hl hi h
theorem h52 {d : Nat} {I : In} {O : Out} (hl : I.vs.length = 1) (h : wpA (SpH Tryd.prog gl) c52 (postH d [.t 2] O) (inSt I)) : SpH Tryd.prog gl 52 d I O :=
  @fun_spH Tryd.prog gl drD 52 Tryd.f52 a52 Tryd.func52 m52 (dok _) d I O hl h
/-- firebell/firebellref07.Get -/
def c53 : AC :=
 (.sq (.rg [.bx 5 (.s 2),
   .al 6 [(.int .u64 0), (.int .i64 0), (.str []), (.bool false)],
   .mv 7 (.c (.int .i64 0)),
   .mv 8 (.c (.bool false))])
  (.sq (.rg [.bd 15 [(.int .u64 0), (.int .i64 0), (.str []), (.bool false)] [],
   .al 9 [(.int .u64 0), (.int .i64 0), (.str []), (.bool false)],
   .st 4 (.s 9) (.s 15)])
  (.sq (.sq (.rg [.mv 16 (.s 1),
   .mv 17 (.s 0),
   .ln 18 (.s 17),
   .bi 19 .geq (.s 16) (.s 18)])
  (.cd (.s 19) (.sq (.rg [.lda 20 4 (.s 9),
   .st 4 (.s 6) (.s 20),
   .mv 7 (.c (.int .i64 0)),
   .mv 8 (.c (.bool false))])
  .rt) .sk))
  (.sq (.sq (.rg [.fa 21 (.s 5) 0,
   .lds 22 (.s 21),
   .bi 23 .eql (.s 22) (.c (.int .i64 3))])
  (.cd (.s 23) (.sq (.rd [[], [], [], [], [], [], [], [], [], [], [], [], [], [11], [], []] [.mv 24 (.s 0),
   .mv 25 (.s 1),
   .ia 26 1 (.s 24) (.s 25),
   .lds 27 (.s 26),
   .bi 28 .eql (.s 27) (.c (.int .u8 1)),
   .bd 29 [(.int .u64 0), (.int .i64 0), (.str []), (.bool false)] [(3, 1, (.s 28))],
   .mv 30 (.s 1),
   .bi 31 .add (.s 30) (.c (.int .i64 1)),
   .mv 32 (.s 0),
   .mv 33 (.s 1),
   .ia 34 1 (.s 32) (.s 33),
   .lds 35 (.s 34),
   .bi 36 .lss (.s 35) (.c (.int .u8 2)),
   .st 4 (.s 6) (.s 29),
   .mv 7 (.s 31),
   .mv 8 (.s 36)])
  .rt) .sk))
  (.sq (.rg [.mv 37 (.s 0),
   .mv 38 (.s 1),
   .ia 39 1 (.s 37) (.s 38),
   .lds 40 (.s 39),
   .cv 41 .i64 (.s 40),
   .mv 10 (.s 41)])
  (.sq (.rg [.mv 11 (.c (.bool false))])
  (.sq (.sq (.rg [.fa 42 (.s 5) 0,
   .lds 43 (.s 42),
   .bi 44 .eql (.s 43) (.c (.int .i64 1)),
   .mv 45 (.s 44),
   .gd 45 true 46 (.mv 46 (.s 10)),
   .gd 45 true 47 (.bi 47 .quo (.s 46) (.c (.int .i64 16))),
   .gd 45 true 48 (.bi 48 .rem (.s 47) (.c (.int .i64 2))),
   .gd 45 true 49 (.bi 49 .eql (.s 48) (.c (.int .i64 1))),
   .pk 50 (.s 45) (.s 49) (.c (.bool false))])
  (.cd (.s 50) (.sq (.rg [.mv 11 (.c (.bool true))])
  (.rg [.mv 51 (.s 10),
   .bi 52 .sub (.s 51) (.c (.int .i64 16)),
   .mv 10 (.s 52)])) .sk))
  (.sq (.sq (.rg [.mv 53 (.s 10),
   .bi 54 .gtr (.s 53) (.c (.int .i64 8)),
   .mv 55 (.s 54),
   .gd 55 false 56 (.mv 56 (.s 10)),
   .gd 55 false 57 (.mv 57 (.s 0)),
   .gd 55 false 58 (.ln 58 (.s 57)),
   .gd 55 false 59 (.mv 59 (.s 1)),
   .gd 55 false 60 (.bi 60 .sub (.s 58) (.s 59)),
   .gd 55 false 61 (.bi 61 .sub (.s 60) (.c (.int .i64 1))),
   .gd 55 false 62 (.bi 62 .gtr (.s 56) (.s 61)),
   .pk 63 (.s 55) (.c (.bool true)) (.s 62),
   .mv 64 (.s 63),
   .gd 64 false 65 (.mv 65 (.s 10)),
   .gd 64 false 66 (.bi 66 .gtr (.s 65) (.c (.int .i64 0))),
   .gd 64 false 67 (.mv 67 (.s 66)),
   .gd 67 true 68 (.mv 68 (.s 0)),
   .gd 67 true 69 (.mv 69 (.s 1)),
   .gd 67 true 70 (.bi 70 .add (.s 69) (.c (.int .i64 1))),
   .gd 67 true 71 (.ia 71 1 (.s 68) (.s 70)),
   .gd 67 true 72 (.lds 72 (.s 71)),
   .gd 67 true 73 (.bi 73 .eql (.s 72) (.c (.int .u8 0))),
   .gd 64 false 74 (.pk 74 (.s 67) (.s 73) (.c (.bool false))),
   .pk 75 (.s 64) (.c (.bool true)) (.s 74)])
  (.cd (.s 75) (.sq (.rg [.lda 76 4 (.s 9),
   .st 4 (.s 6) (.s 76),
   .mv 7 (.c (.int .i64 0)),
   .mv 8 (.c (.bool false))])
  .rt) .sk))
  (.sq (.rg [.mv 12 (.c (.int .u64 0))])
  (.sq (.sq (.rg [.mv 13 (.c (.int .i64 0))])
  (.bl 0 (.lp (.sq (.sq (.rg [.mv 77 (.s 13),
   .mv 78 (.s 10),
   .bi 79 .lss (.s 77) (.s 78)])
  (.cd (.s 79) .sk (.ex 0)))
  (.sq (.bl 1 (.rg [.mv 82 (.s 12),
   .bi 83 .mul (.c (.int .u64 256)) (.s 82),
   .mv 84 (.s 0),
   .mv 85 (.s 1),
   .bi 86 .add (.s 85) (.c (.int .i64 1)),
   .mv 87 (.s 13),
   .bi 88 .add (.s 86) (.s 87),
   .ia 89 1 (.s 84) (.s 88),
   .lds 90 (.s 89),
   .cv 91 .u64 (.s 90),
   .bi 92 .add (.s 83) (.s 91),
   .mv 12 (.s 92)]))
  (.rg [.mv 80 (.s 13),
   .bi 81 .add (.s 80) (.c (.int .i64 1)),
   .mv 13 (.s 81)]))))))
  (.sq (.rg [.mv 93 (.s 1),
   .bi 94 .add (.s 93) (.c (.int .i64 1)),
   .mv 95 (.s 10),
   .bi 96 .add (.s 94) (.s 95),
   .mv 14 (.s 96)])
  (.sq (.sq (.rg [.fa 97 (.s 5) 0,
   .lds 98 (.s 97)])
  (.bl 2 (.sq (.rg [.bi 100 .eql (.s 98) (.c (.int .i64 0)),
   .mv 99 (.s 100)])
  (.cd (.s 99) (.sq (.rg [.mv 101 (.s 12),
   .bd 102 [(.int .u64 0), (.int .i64 0), (.str []), (.bool false)] [(0, 1, (.s 101))],
   .mv 103 (.s 14),
   .st 4 (.s 6) (.s 102),
   .mv 7 (.s 103),
   .mv 8 (.c (.bool true))])
  .rt) (.sq (.rg [.bi 105 .eql (.s 98) (.c (.int .i64 1)),
   .mv 104 (.s 105)])
  (.cd (.s 104) (.sq (.sq (.rg [.mv 106 (.s 11)])
  (.cd (.s 106) (.sq (.rg [.mv 107 (.s 12),
   .bi 108 .sub (.c (.int .u64 0)) (.s 107),
   .cv 109 .i64 (.s 108),
   .bd 110 [(.int .u64 0), (.int .i64 0), (.str []), (.bool false)] [(1, 1, (.s 109))],
   .mv 111 (.s 14),
   .mv 112 (.s 12),
   .bi 113 .gtr (.s 112) (.c (.int .u64 0)),
   .mv 114 (.s 113),
   .gd 114 true 115 (.mv 115 (.s 12)),
   .gd 114 true 116 (.bi 116 .leq (.s 115) (.c (.int .u64 9223372036854775808))),
   .pk 117 (.s 114) (.s 116) (.c (.bool false)),
   .st 4 (.s 6) (.s 110),
   .mv 7 (.s 111),
   .mv 8 (.s 117)])
  .rt) .sk))
  (.sq (.rg [.mv 118 (.s 12),
   .cv 119 .i64 (.s 118),
   .bd 120 [(.int .u64 0), (.int .i64 0), (.str []), (.bool false)] [(1, 1, (.s 119))],
   .mv 121 (.s 14),
   .mv 122 (.s 12),
   .bi 123 .leq (.s 122) (.c (.int .u64 9223372036854775807)),
   .st 4 (.s 6) (.s 120),
   .mv 7 (.s 121),
   .mv 8 (.s 123)])
  .rt)) .sk))))))
  (.sq (.sq (.rg [.fa 124 (.s 5) 1,
   .lds 125 (.s 124),
   .bi 126 .lss (.s 125) (.c (.int .i64 0)),
   .mv 127 (.s 126),
   .gd 127 false 128 (.mv 128 (.s 12)),
   .gd 127 false 129 (.fa 129 (.s 5) 1),
   .gd 127 false 130 (.lds 130 (.s 129)),
   .gd 127 false 131 (.cv 131 .u64 (.s 130)),
   .gd 127 false 132 (.bi 132 .gtr (.s 128) (.s 131)),
   .pk 133 (.s 127) (.c (.bool true)) (.s 132)])
  (.cd (.s 133) (.sq (.rg [.lda 134 4 (.s 9),
   .st 4 (.s 6) (.s 134),
   .mv 7 (.c (.int .i64 0)),
   .mv 8 (.c (.bool false))])
  .rt) .sk))
  (.sq (.sq (.rg [.fa 135 (.s 5) 0,
   .lds 136 (.s 135),
   .bi 137 .eql (.s 136) (.c (.int .i64 4))])
  (.cd (.s 137) (.sq (.rg [.mv 138 (.s 12),
   .bd 139 [(.int .u64 0), (.int .i64 0), (.str []), (.bool false)] [(0, 1, (.s 138))],
   .mv 140 (.s 14),
   .st 4 (.s 6) (.s 139),
   .mv 7 (.s 140),
   .mv 8 (.c (.bool true))])
  .rt) .sk))
  (.sq (.sq (.rg [.mv 141 (.s 12),
   .mv 142 (.s 0),
   .ln 143 (.s 142),
   .mv 144 (.s 14),
   .bi 145 .sub (.s 143) (.s 144),
   .cv 146 .u64 (.s 145),
   .bi 147 .gtr (.s 141) (.s 146)])
  (.cd (.s 147) (.sq (.rg [.lda 148 4 (.s 9),
   .st 4 (.s 6) (.s 148),
   .mv 7 (.c (.int .i64 0)),
   .mv 8 (.c (.bool false))])
  .rt) .sk))
  (.sq (.rg [.mv 149 (.s 0),
   .mv 150 (.s 14),
   .mv 151 (.s 14),
   .mv 152 (.s 12),
   .cv 153 .i64 (.s 152),
   .bi 154 .add (.s 151) (.s 153),
   .slc 155 1 (.s 149) (some (.s 150)) (some (.s 154)),
   .b2s 156 (.s 155),
   .bd 157 [(.int .u64 0), (.int .i64 0), (.str []), (.bool false)] [(2, 1, (.s 156))],
   .mv 158 (.s 14),
   .mv 159 (.s 12),
   .cv 160 .i64 (.s 159),
   .bi 161 .add (.s 158) (.s 160),
   .st 4 (.s 6) (.s 157),
   .mv 7 (.s 161),
   .mv 8 (.c (.bool true))])
  .rt))))))))))))))))
def a53 : AF := ⟨c53, [.ca 6 4, .t 7, .t 8], 3, 162⟩
theorem m53 : mF Tryd.prog gl drD Tryd.f53 a53 = true := by kernel_rfl
theorem s53 {l : List AV} {r : AV} (hl : l.length = 3) (hi : idsL l = []) (h : wpA (SpH Tryd.prog gl) c53 (postA [.ca 6 4, .t 7, .t 8] r) ⟨initE 0 l, [], []⟩) : Sp Tryd.prog gl 53 l r :=
  @fun_sp Tryd.prog gl drD 53 Tryd.f53 a53 Tryd.func53 m53 (dok _) l r hl hi h
theorem h53 {d : Nat} {I : In} {O : Out} (hl : I.vs.length = 3) (h : wpA (SpH Tryd.prog gl) c53 (postH d [.ca 6 4, .t 7, .t 8] O) (inSt I)) : SpH Tryd.prog gl 53 d I O :=
  @fun_spH Tryd.prog gl drD 53 Tryd.f53 a53 Tryd.func53 m53 (dok _) d I O hl h
/-- firebell/firebellref17.RightGoal -/
def c54 : AC :=
 (.sq (.rg [.bx 1 (.s 0),
   .mv 2 (.c (.bool false))])
  (.sq (.sq (.rg [.fa 8 (.s 1) 0,
   .lds 9 (.s 8),
   .cl 10 52 [(.s 9)],
   .un 11 .not (.s 10),
   .mv 12 (.s 11),
   .gd 12 false 13 (.fa 13 (.s 1) 1),
   .gd 12 false 14 (.lds 14 (.s 13)),
   .gd 12 false 15 (.bi 15 .lss (.s 14) (.c (.int .u32 1))),
   .pk 16 (.s 12) (.c (.bool true)) (.s 15),
   .mv 17 (.s 16),
   .gd 17 false 18 (.fa 18 (.s 1) 1),
   .gd 17 false 19 (.lds 19 (.s 18)),
   .gd 17 false 20 (.bi 20 .gtr (.s 19) (.c (.int .u32 999999))),
   .pk 21 (.s 17) (.c (.bool true)) (.s 20),
   .mv 22 (.s 21),
   .gd 22 false 23 (.fa 23 (.s 1) 2),
   .gd 22 false 24 (.lds 24 (.s 23)),
   .gd 22 false 25 (.cl 25 55 [(.s 24), (.c (.int .i64 1)), (.c (.int .i64 86400))]),
   .gd 22 false 26 (.un 26 .not (.s 25)),
   .pk 27 (.s 22) (.c (.bool true)) (.s 26),
   .mv 28 (.s 27),
   .gd 28 false 29 (.fa 29 (.s 1) 3),
   .gd 28 false 30 (.lds 30 (.s 29)),
   .gd 28 false 31 (.cl 31 55 [(.s 30), (.c (.int .i64 0)), (.c (.int .i64 86400))]),
   .gd 28 false 32 (.un 32 .not (.s 31)),
   .pk 33 (.s 28) (.c (.bool true)) (.s 32),
   .mv 34 (.s 33),
   .gd 34 false 35 (.fa 35 (.s 1) 4),
   .gd 34 false 36 (.lds 36 (.s 35)),
   .gd 34 false 37 (.cl 37 55 [(.s 36), (.c (.int .i64 0)), (.c (.int .i64 34560000))]),
   .gd 34 false 38 (.un 38 .not (.s 37)),
   .pk 39 (.s 34) (.c (.bool true)) (.s 38),
   .mv 40 (.s 39),
   .gd 40 false 41 (.fa 41 (.s 1) 4),
   .gd 40 false 42 (.lds 42 (.s 41)),
   .gd 40 false 43 (.fa 43 (.s 1) 2),
   .gd 40 false 44 (.lds 44 (.s 43)),
   .gd 40 false 45 (.bi 45 .rem (.s 42) (.s 44)),
   .gd 40 false 46 (.bi 46 .neq (.s 45) (.c (.int .i64 0))),
   .pk 47 (.s 40) (.c (.bool true)) (.s 46),
   .mv 48 (.s 47),
   .gd 48 false 49 (.fa 49 (.s 1) 5),
   .gd 48 false 50 (.lds 50 (.s 49)),
   .gd 48 false 51 (.bi 51 .lss (.s 50) (.c (.int .i64 0))),
   .pk 52 (.s 48) (.c (.bool true)) (.s 51),
   .mv 53 (.s 52),
   .gd 53 false 54 (.fa 54 (.s 1) 5),
   .gd 53 false 55 (.lds 55 (.s 54)),
   .gd 53 false 56 (.bi 56 .gtr (.s 55) (.c (.int .i64 2))),
   .pk 57 (.s 53) (.c (.bool true)) (.s 56),
   .mv 58 (.s 57),
   .gd 58 false 59 (.fa 59 (.s 1) 6),
   .gd 58 false 60 (.lds 60 (.s 59)),
   .gd 58 false 61 (.ln 61 (.s 60)),
   .gd 58 false 62 (.bi 62 .gtr (.s 61) (.c (.int .i64 4))),
   .pk 63 (.s 58) (.c (.bool true)) (.s 62),
   .mv 64 (.s 63),
   .gd 64 false 65 (.fa 65 (.s 1) 7),
   .gd 64 false 66 (.lds 66 (.s 65)),
   .gd 64 false 67 (.ln 67 (.s 66)),
   .gd 64 false 68 (.bi 68 .lss (.s 67) (.c (.int .i64 1))),
   .pk 69 (.s 64) (.c (.bool true)) (.s 68),
   .mv 70 (.s 69),
   .gd 70 false 71 (.fa 71 (.s 1) 7),
   .gd 70 false 72 (.lds 72 (.s 71)),
   .gd 70 false 73 (.ln 73 (.s 72)),
   .gd 70 false 74 (.bi 74 .gtr (.s 73) (.c (.int .i64 4))),
   .pk 75 (.s 70) (.c (.bool true)) (.s 74)])
  (.cd (.s 75) (.sq (.rg [.mv 2 (.c (.bool false))])
  .rt) .sk))
  (.sq (.sq (.rg [.mv 3 (.c (.int .i64 0))])
  (.bl 0 (.lp (.sq (.sq (.rg [.mv 76 (.s 3),
   .fa 77 (.s 1) 6,
   .lds 78 (.s 77),
   .ln 79 (.s 78),
   .bi 80 .lss (.s 76) (.s 79)])
  (.cd (.s 80) .sk (.ex 0)))
  (.sq (.bl 1 (.sq (.rg [.fa 83 (.s 1) 6,
   .lds 84 (.s 83),
   .mv 85 (.s 3),
   .ia 86 2 (.s 84) (.s 85),
   .lda 87 2 (.s 86),
   .al 4 [(.str []), (.str [])],
   .st 2 (.s 4) (.s 87)])
  (.sq (.sq (.rg [.fa 88 (.s 4) 0,
   .lds 89 (.s 88),
   .cl 90 52 [(.s 89)],
   .un 91 .not (.s 90),
   .mv 92 (.s 91),
   .gd 92 false 93 (.fa 93 (.s 4) 1),
   .gd 92 false 94 (.lds 94 (.s 93)),
   .gd 92 false 95 (.cl 95 91 [(.s 94)]),
   .gd 92 false 96 (.un 96 .not (.s 95)),
   .pk 97 (.s 92) (.c (.bool true)) (.s 96),
   .mv 98 (.s 97),
   .gd 98 false 99 (.fa 99 (.s 4) 1),
   .gd 98 false 100 (.lds 100 (.s 99)),
   .gd 98 false 101 (.cl 101 89 [(.s 100)]),
   .gd 98 false 102 (.ln 102 (.s 101)),
   .gd 98 false 103 (.bi 103 .gtr (.s 102) (.c (.int .i64 120))),
   .pk 104 (.s 98) (.c (.bool true)) (.s 103)])
  (.cd (.s 104) (.sq (.rg [.mv 2 (.c (.bool false))])
  .rt) .sk))
  (.sq (.rg [.mv 5 (.c (.int .i64 0))])
  (.bl 2 (.lp (.sq (.sq (.rg [.mv 105 (.s 5),
   .mv 106 (.s 3),
   .bi 107 .lss (.s 105) (.s 106)])
  (.cd (.s 107) .sk (.ex 2)))
  (.sq (.bl 3 (.sq (.rd [[], [], [], [], [], [], [], [], []] [.fa 110 (.s 1) 6,
   .lds 111 (.s 110),
   .mv 112 (.s 5),
   .ia 113 2 (.s 111) (.s 112),
   .fa 114 (.s 113) 0,
   .lds 115 (.s 114),
   .fa 116 (.s 4) 0,
   .lds 117 (.s 116),
   .bi 118 .eql (.s 115) (.s 117)])
  (.cd (.s 118) (.sq (.rg [.mv 2 (.c (.bool false))])
  .rt) .sk)))
  (.rg [.mv 108 (.s 5),
   .bi 109 .add (.s 108) (.c (.int .i64 1)),
   .mv 5 (.s 109)])))))))))
  (.rg [.mv 81 (.s 3),
   .bi 82 .add (.s 81) (.c (.int .i64 1)),
   .mv 3 (.s 82)]))))))
  (.sq (.sq (.rg [.mv 6 (.c (.int .i64 0))])
  (.bl 4 (.lp (.sq (.sq (.rg [.mv 119 (.s 6),
   .fa 120 (.s 1) 7,
   .lds 121 (.s 120),
   .ln 122 (.s 121),
   .bi 123 .lss (.s 119) (.s 122)])
  (.cd (.s 123) .sk (.ex 4)))
  (.sq (.bl 5 (.sq (.sq (.rd [[], [], [], [], [], [], [], [], []] [.fa 126 (.s 1) 7,
   .lds 127 (.s 126),
   .mv 128 (.s 6),
   .ia 129 7 (.s 127) (.s 128),
   .lda 130 7 (.s 129),
   .fa 131 (.s 1) 2,
   .lds 132 (.s 131),
   .cl 133 92 [(.s 130), (.s 132)],
   .un 134 .not (.s 133)])
  (.cd (.s 134) (.sq (.rg [.mv 2 (.c (.bool false))])
  .rt) .sk))
  (.sq (.rg [.mv 7 (.c (.int .i64 0))])
  (.bl 6 (.lp (.sq (.sq (.rg [.mv 135 (.s 7),
   .mv 136 (.s 6),
   .bi 137 .lss (.s 135) (.s 136)])
  (.cd (.s 137) .sk (.ex 6)))
  (.sq (.bl 7 (.sq (.rd [[], [], [], [], [], [], [], [], [], [], [], [], []] [.fa 140 (.s 1) 7,
   .lds 141 (.s 140),
   .mv 142 (.s 7),
   .ia 143 7 (.s 141) (.s 142),
   .fa 144 (.s 143) 0,
   .lds 145 (.s 144),
   .fa 146 (.s 1) 7,
   .lds 147 (.s 146),
   .mv 148 (.s 6),
   .ia 149 7 (.s 147) (.s 148),
   .fa 150 (.s 149) 0,
   .lds 151 (.s 150),
   .bi 152 .eql (.s 145) (.s 151)])
  (.cd (.s 152) (.sq (.rg [.mv 2 (.c (.bool false))])
  .rt) .sk)))
  (.rg [.mv 138 (.s 7),
   .bi 139 .add (.s 138) (.c (.int .i64 1)),
   .mv 7 (.s 139)]))))))))
  (.rg [.mv 124 (.s 6),
   .bi 125 .add (.s 124) (.c (.int .i64 1)),
   .mv 6 (.s 125)]))))))
  (.sq (.rg [.mv 2 (.c (.bool true))])
  .rt)))))
def a54 : AF := ⟨c54, [.t 2], 1, 153⟩
theorem m54 : mF Tryd.prog gl drD Tryd.f54 a54 = true := by kernel_rfl
theorem s54 {l : List AV} {r : AV} (hl : l.length = 1) (hi : idsL l = []) (h : wpA (SpH Tryd.prog gl) c54 (postA [.t 2] r) ⟨initE 0 l, [], []⟩) : Sp Tryd.prog gl 54 l r :=
  @fun_sp Tryd.prog gl drD 54 Tryd.f54 a54 Tryd.func54 m54 (dok _) l r hl hi h
theorem h54 {d : Nat} {I : In} {O : Out} (hl : I.vs.length = 1) (h : wpA (SpH Tryd.prog gl) c54 (postH d [.t 2] O) (inSt I)) : SpH Tryd.prog gl 54 d I O :=
  @fun_spH Tryd.prog gl drD 54 Tryd.f54 a54 Tryd.func54 m54 (dok _) d I O hl h
/-- firebell/firebellref17.in -/
def c55 : AC :=
 (.sq (.rg [.mv 6 (.c (.bool false))])
  (.sq (.rg [.mv 7 (.s 1),
   .mv 8 (.s 0),
   .bi 9 .leq (.s 7) (.s 8),
   .mv 10 (.s 9),
   .gd 10 true 11 (.mv 11 (.s 0)),
   .gd 10 true 12 (.mv 12 (.s 2)),
   .gd 10 true 13 (.bi 13 .leq (.s 11) (.s 12)),
   .pk 14 (.s 10) (.s 13) (.c (.bool false)),
   .mv 6 (.s 14)])
  .rt))
def a55 : AF := ⟨c55, [.t 6], 3, 15⟩
theorem m55 : mF Tryd.prog gl drD Tryd.f55 a55 = true := by kernel_rfl
theorem s55 {l : List AV} {r : AV} (hl : l.length = 3) (hi : idsL l = []) (h : wpA (SpH Tryd.prog gl) c55 (postA [.t 6] r) ⟨initE 0 l, [], []⟩) : Sp Tryd.prog gl 55 l r :=
  @fun_sp Tryd.prog gl drD 55 Tryd.f55 a55 Tryd.func55 m55 (dok _) l r hl hi h
theorem h55 {d : Nat} {I : In} {O : Out} (hl : I.vs.length = 3) (h : wpA (SpH Tryd.prog gl) c55 (postH d [.t 6] O) (inSt I)) : SpH Tryd.prog gl 55 d I O :=
  @fun_spH Tryd.prog gl drD 55 Tryd.f55 a55 Tryd.func55 m55 (dok _) d I O hl h
/-- firebell/show.Right -/
def c56 : AC :=
 (.sq (.rg [.bx 1 (.s 0),
   .mv 2 (.c (.bool false))])
  (.sq (.sq (.rg [.fa 7 (.s 1) 0,
   .lds 8 (.s 7),
   .ln 9 (.s 8),
   .mv 10 (.c (.int .i64 0))])
  (.bl 0 (.lp (.sq (.rg [.bi 11 .lss (.s 10) (.s 9)])
  (.sq (.cd (.s 11) .sk (.ex 0))
  (.sq (.bl 1 (.sq (.rg [.ia 12 8 (.s 8) (.s 10),
   .lda 13 8 (.s 12),
   .al 4 [(.str []), (.int .u32 0), (.int .i64 0), (.int .i64 0), (.int .i64 0), (.int .i64 0), .nils, .nils],
   .st 8 (.s 4) (.s 13)])
  (.sq (.rg [.lda 14 8 (.s 4),
   .cl 15 93 [(.s 14)],
   .un 16 .not (.s 15)])
  (.cd (.s 16) (.sq (.rg [.mv 2 (.c (.bool false))])
  .rt) .sk))))
  (.rg [.bi 17 .add (.s 10) (.c (.int .i64 1)),
   .mv 10 (.s 17)])))))))
  (.sq (.rg [.fa 18 (.s 1) 1,
   .lda 19 5 (.s 18),
   .al 5 [(.int .i64 0), (.int .i64 0), (.int .i64 0), (.int .i64 0), (.int .i64 0)],
   .st 5 (.s 5) (.s 19)])
  (.sq (.rg [.fa 20 (.s 5) 0,
   .lds 21 (.s 20),
   .cl 22 94 [(.s 21), (.c (.int .i64 1)), (.c (.int .i64 64))],
   .mv 23 (.s 22),
   .gd 23 true 24 (.fa 24 (.s 5) 1),
   .gd 23 true 25 (.lds 25 (.s 24)),
   .gd 23 true 26 (.fa 26 (.s 5) 0),
   .gd 23 true 27 (.lds 27 (.s 26)),
   .gd 23 true 28 (.cl 28 94 [(.s 25), (.c (.int .i64 0)), (.s 27)]),
   .pk 29 (.s 23) (.s 28) (.c (.bool false)),
   .mv 30 (.s 29),
   .gd 30 true 31 (.fa 31 (.s 5) 2),
   .gd 30 true 32 (.lds 32 (.s 31)),
   .gd 30 true 33 (.cl 33 95 [(.s 32), (.c (.int .i64 1)), (.c (.int .i64 86400))]),
   .pk 34 (.s 30) (.s 33) (.c (.bool false)),
   .mv 35 (.s 34),
   .gd 35 true 36 (.fa 36 (.s 5) 3),
   .gd 35 true 37 (.lds 37 (.s 36)),
   .gd 35 true 38 (.fa 38 (.s 5) 2),
   .gd 35 true 39 (.lds 39 (.s 38)),
   .gd 35 true 40 (.cl 40 95 [(.s 37), (.s 39), (.c (.int .i64 604800))]),
   .pk 41 (.s 35) (.s 40) (.c (.bool false)),
   .mv 42 (.s 41),
   .gd 42 true 43 (.fa 43 (.s 5) 4),
   .gd 42 true 44 (.lds 44 (.s 43)),
   .gd 42 true 45 (.cl 45 95 [(.s 44), (.c (.int .i64 0)), (.c (.int .i64 2592000))]),
   .pk 46 (.s 42) (.s 45) (.c (.bool false)),
   .mv 6 (.s 46)])
  (.sq (.rg [.mv 47 (.s 6),
   .mv 48 (.s 47),
   .gd 48 true 49 (.fa 49 (.s 1) 0),
   .gd 48 true 50 (.lds 50 (.s 49)),
   .gd 48 true 51 (.ln 51 (.s 50)),
   .gd 48 true 52 (.bi 52 .leq (.s 51) (.c (.int .i64 6))),
   .pk 53 (.s 48) (.s 52) (.c (.bool false)),
   .mv 54 (.s 53),
   .gd 54 true 55 (.fa 55 (.s 1) 0),
   .gd 54 true 56 (.lds 56 (.s 55)),
   .gd 54 true 57 (.ce 57 96 [(.s 56), (.c (.fn 97 []))]),
   .pk 58 (.s 54) (.s 57) (.c (.bool false)),
   .mv 2 (.s 58)])
  .rt)))))
def a56 : AF := ⟨c56, [.t 2], 1, 59⟩
theorem m56 : mF Tryd.prog gl drD Tryd.f56 a56 = true := by kernel_rfl
theorem s56 {l : List AV} {r : AV} (hl : l.length = 1) (hi : idsL l = []) (h : wpA (SpH Tryd.prog gl) c56 (postA [.t 2] r) ⟨initE 0 l, [], []⟩) : Sp Tryd.prog gl 56 l r :=
  @fun_sp Tryd.prog gl drD 56 Tryd.f56 a56 Tryd.func56 m56 (dok _) l r hl hi h
theorem h56 {d : Nat} {I : In} {O : Out} (hl : I.vs.length = 1) (h : wpA (SpH Tryd.prog gl) c56 (postH d [.t 2] O) (inSt I)) : SpH Tryd.prog gl 56 d I O :=
  @fun_spH Tryd.prog gl drD 56 Tryd.f56 a56 Tryd.func56 m56 (dok _) d I O hl h
/-- firebell/change.goalOf -/
def c57 : AC :=
 (.sq (.rg [.bx 2 (.s 0),
   .bx 3 (.s 1),
   .al 4 [(.str []), (.int .u32 0), (.int .i64 0), (.int .i64 0), (.int .i64 0), (.int .i64 0), .nils, .nils],
   .mv 5 (.c (.bool false))])
  (.sq (.rg [.fa 7 (.s 2) 0,
   .lds 8 (.s 7),
   .mf 9 99 [(.s 3)],
   .ce 10 98 [(.s 8), (.s 9)],
   .mv 6 (.s 10)])
  (.sq (.sq (.rg [.mv 11 (.s 6),
   .bi 12 .lss (.s 11) (.c (.int .i64 0))])
  (.cd (.s 12) (.sq (.rg [.bd 13 [(.str []), (.int .u32 0), (.int .i64 0), (.int .i64 0), (.int .i64 0), (.int .i64 0), .nils, .nils] [],
   .st 8 (.s 4) (.s 13),
   .mv 5 (.c (.bool false))])
  .rt) .sk))
  (.sq (.rg [.fa 14 (.s 2) 0,
   .lds 15 (.s 14),
   .mv 16 (.s 6),
   .ia 17 8 (.s 15) (.s 16),
   .lda 18 8 (.s 17),
   .st 8 (.s 4) (.s 18),
   .mv 5 (.c (.bool true))])
  .rt))))
def a57 : AF := ⟨c57, [.ca 4 8, .t 5], 2, 19⟩
theorem m57 : mF Tryd.prog gl drD Tryd.f57 a57 = true := by kernel_rfl
theorem s57 {l : List AV} {r : AV} (hl : l.length = 2) (hi : idsL l = []) (h : wpA (SpH Tryd.prog gl) c57 (postA [.ca 4 8, .t 5] r) ⟨initE 0 l, [], []⟩) : Sp Tryd.prog gl 57 l r :=
  @fun_sp Tryd.prog gl drD 57 Tryd.f57 a57 Tryd.func57 m57 (dok _) l r hl hi h
theorem h57 {d : Nat} {I : In} {O : Out} (hl : I.vs.length = 2) (h : wpA (SpH Tryd.prog gl) c57 (postH d [.ca 4 8, .t 5] O) (inSt I)) : SpH Tryd.prog gl 57 d I O :=
  @fun_spH Tryd.prog gl drD 57 Tryd.f57 a57 Tryd.func57 m57 (dok _) d I O hl h
/-- (*firebell/change.plan).goal -/
def c58 : AC :=
 (.sq (.rg [.bx 5 (.s 1),
   .bx 6 (.s 2)])
  (.sq (.rg [.mv 13 (.s 3),
   .mv 14 (.s 13),
   .gd 14 true 15 (.lda 15 8 (.s 6)),
   .gd 14 true 16 (.lda 16 8 (.s 5)),
   .gd 14 true 17 (.cl 17 100 [(.s 15), (.s 16)]),
   .pk 18 (.s 14) (.s 17) (.c (.bool false)),
   .mv 8 (.s 18)])
  (.sq (.rd [[], [], [], [], [], [], []] [.mv 19 (.s 0),
   .fa 20 (.s 5) 0,
   .lds 21 (.s 20),
   .mv 22 (.s 3),
   .mv 23 (.s 8),
   .cl 24 101 [(.s 22), (.s 23)],
   .ce 25 59 [(.s 19), (.s 21), (.c (.str [])), (.s 24)]])
  (.sq (.sq (.rg [.fa 26 (.s 5) 7,
   .lds 27 (.s 26),
   .ln 28 (.s 27),
   .mv 29 (.c (.int .i64 0))])
  (.bl 0 (.lp (.sq (.rg [.bi 30 .lss (.s 29) (.s 28)])
  (.sq (.cd (.s 30) .sk (.ex 0))
  (.sq (.bl 1 (.sq (.rg [.ia 31 7 (.s 27) (.s 29),
   .lda 32 7 (.s 31),
   .al 10 [(.str []), (.bool false), (.int .i64 0), (.int .i64 0), (.int .u64 0), (.int .i64 0), (.int .i64 0)],
   .st 7 (.s 10) (.s 32)])
  (.sq (.rg [.lda 34 8 (.s 6),
   .fa 35 (.s 10) 0,
   .lds 36 (.s 35),
   .cl 37 102 [(.s 34), (.s 36)],
   .mv 33 (.s 37),
   .exq 38 (.s 33) 0,
   .exq 39 (.s 33) 1,
   .al 11 [(.str []), (.bool false), (.int .i64 0), (.int .i64 0), (.int .u64 0), (.int .i64 0), (.int .i64 0)],
   .st 7 (.s 11) (.s 38),
   .mv 12 (.s 39)])
  (.rd [[], [], [], [], [], [], [], [], [], [], [], [], [], []] [.mv 40 (.s 0),
   .fa 41 (.s 5) 0,
   .lds 42 (.s 41),
   .fa 43 (.s 10) 0,
   .lds 44 (.s 43),
   .mv 45 (.s 12),
   .mv 46 (.s 8),
   .mv 47 (.s 46),
   .gd 47 true 48 (.lda 48 7 (.s 11)),
   .gd 47 true 49 (.lda 49 7 (.s 10)),
   .gd 47 true 50 (.ea 50 false [.s, .b, .i, .i, .i, .i, .i] (.s 48) (.s 49)),
   .pk 51 (.s 47) (.s 50) (.c (.bool false)),
   .cl 52 101 [(.s 45), (.s 51)],
   .ce 53 59 [(.s 40), (.s 42), (.s 44), (.s 52)]]))))
  (.rg [.bi 54 .add (.s 29) (.c (.int .i64 1)),
   .mv 29 (.s 54)])))))))
  (.rg [.mv 55 (.s 0),
   .lda 56 8 (.s 6),
   .lda 57 8 (.s 5),
   .ce 58 60 [(.s 55), (.s 56), (.s 57)]])))))
def a58 : AF := ⟨c58, [], 4, 59⟩
theorem m58 : mF Tryd.prog gl drD Tryd.f58 a58 = true := by kernel_rfl
theorem s58 {l : List AV} {r : AV} (hl : l.length = 4) (hi : idsL l = []) (h : wpA (SpH Tryd.prog gl) c58 (postA [] r) ⟨initE 0 l, [], []⟩) : Sp Tryd.prog gl 58 l r :=
  @fun_sp Tryd.prog gl drD 58 Tryd.f58 a58 Tryd.func58 m58 (dok _) l r hl hi h
theorem h58 {d : Nat} {I : In} {O : Out} (hl : I.vs.length = 4) (h : wpA (SpH Tryd.prog gl) c58 (postH d [] O) (inSt I)) : SpH Tryd.prog gl 58 d I O :=
  @fun_spH Tryd.prog gl drD 58 Tryd.f58 a58 Tryd.func58 m58 (dok _) d I O hl h
/-- (*firebell/change.plan).add -/
def c59 : AC :=
 (.rg [.mv 8 (.s 0),
   .mv 9 (.s 0),
   .nc 10 (.s 9),
   .fa 11 (.s 10) 0,
   .lo 12 (.s 11),
   .mv 13 (.s 1),
   .mv 14 (.s 2),
   .mv 15 (.s 3),
   .bd 16 [(.str []), (.str []), (.int .i64 0)] [(0, 1, (.s 13)), (1, 1, (.s 14)), (2, 1, (.s 15))],
   .bs 17 3 [(.s 16)],
   .ap 18 3 40 (.s 12) (.s 17),
   .nc 19 (.s 8),
   .fa 20 (.s 19) 0,
   .so (.s 20) 18])
def a59 : AF := ⟨c59, [], 4, 21⟩
theorem m59 : mF Tryd.prog gl drD Tryd.f59 a59 = true := by kernel_rfl
theorem s59 {l : List AV} {r : AV} (hl : l.length = 4) (hi : idsL l = []) (h : wpA (SpH Tryd.prog gl) c59 (postA [] r) ⟨initE 0 l, [], []⟩) : Sp Tryd.prog gl 59 l r :=
  @fun_sp Tryd.prog gl drD 59 Tryd.f59 a59 Tryd.func59 m59 (dok _) l r hl hi h
theorem h59 {d : Nat} {I : In} {O : Out} (hl : I.vs.length = 4) (h : wpA (SpH Tryd.prog gl) c59 (postH d [] O) (inSt I)) : SpH Tryd.prog gl 59 d I O :=
  @fun_spH Tryd.prog gl drD 59 Tryd.f59 a59 Tryd.func59 m59 (dok _) d I O hl h
/-- (*firebell/change.plan).gone -/
def c60 : AC :=
 (.sq (.rg [.bx 4 (.s 1),
   .bx 5 (.s 2)])
  (.sq (.rg [.fa 10 (.s 4) 7,
   .lds 11 (.s 10),
   .ln 12 (.s 11),
   .mv 13 (.c (.int .i64 0))])
  (.bl 0 (.lp (.sq (.rg [.bi 14 .lss (.s 13) (.s 12)])
  (.sq (.cd (.s 14) .sk (.ex 0))
  (.sq (.bl 1 (.sq (.rg [.ia 15 7 (.s 11) (.s 13),
   .lda 16 7 (.s 15),
   .al 7 [(.str []), (.bool false), (.int .i64 0), (.int .i64 0), (.int .u64 0), (.int .i64 0), (.int .i64 0)],
   .st 7 (.s 7) (.s 16)])
  (.sq (.rg [.lda 18 8 (.s 5),
   .fa 19 (.s 7) 0,
   .lds 20 (.s 19),
   .cl 21 102 [(.s 18), (.s 20)],
   .mv 17 (.s 21),
   .exq 22 (.s 17) 0,
   .exq 23 (.s 17) 1,
   .al 8 [(.str []), (.bool false), (.int .i64 0), (.int .i64 0), (.int .u64 0), (.int .i64 0), (.int .i64 0)],
   .st 7 (.s 8) (.s 22),
   .mv 9 (.s 23)])
  (.sq (.rg [.mv 24 (.s 9),
   .un 25 .not (.s 24)])
  (.cd (.s 25) (.rg [.mv 26 (.s 0),
   .fa 27 (.s 4) 0,
   .lds 28 (.s 27),
   .fa 29 (.s 7) 0,
   .lds 30 (.s 29),
   .ce 31 59 [(.s 26), (.s 28), (.s 30), (.c (.int .i64 4))]]) .sk)))))
  (.rg [.bi 32 .add (.s 13) (.c (.int .i64 1)),
   .mv 13 (.s 32)]))))))))
def a60 : AF := ⟨c60, [], 3, 33⟩
theorem m60 : mF Tryd.prog gl drD Tryd.f60 a60 = true := by kernel_rfl
theorem s60 {l : List AV} {r : AV} (hl : l.length = 3) (hi : idsL l = []) (h : wpA (SpH Tryd.prog gl) c60 (postA [] r) ⟨initE 0 l, [], []⟩) : Sp Tryd.prog gl 60 l r :=
  @fun_sp Tryd.prog gl drD 60 Tryd.f60 a60 Tryd.func60 m60 (dok _) l r hl hi h
theorem h60 {d : Nat} {I : In} {O : Out} (hl : I.vs.length = 3) (h : wpA (SpH Tryd.prog gl) c60 (postH d [] O) (inSt I)) : SpH Tryd.prog gl 60 d I O :=
  @fun_spH Tryd.prog gl drD 60 Tryd.f60 a60 Tryd.func60 m60 (dok _) d I O hl h
/-- slices.Compact[[]int64,int64] -/
def c62 : AC :=
 (.sq (.rg [.mv 2 (.c .nils)])
  (.sq (.sq (.rg [.mv 6 (.s 0),
   .ln 7 (.s 6),
   .bi 8 .lss (.s 7) (.c (.int .i64 2))])
  (.cd (.s 8) (.sq (.rg [.mv 9 (.s 0),
   .mv 2 (.s 9)])
  .rt) .sk))
  (.sq (.sq (.rg [.mv 3 (.c (.int .i64 1))])
  (.bl 0 (.lp (.sq (.sq (.rg [.mv 10 (.s 3),
   .mv 11 (.s 0),
   .ln 12 (.s 11),
   .bi 13 .lss (.s 10) (.s 12)])
  (.cd (.s 13) .sk (.ex 0)))
  (.sq (.bl 1 (.sq (.rd [[], [], [], [], [], [], [], [], [], []] [.mv 16 (.s 0),
   .mv 17 (.s 3),
   .ia 18 1 (.s 16) (.s 17),
   .lds 19 (.s 18),
   .mv 20 (.s 0),
   .mv 21 (.s 3),
   .bi 22 .sub (.s 21) (.c (.int .i64 1)),
   .ia 23 1 (.s 20) (.s 22),
   .lds 24 (.s 23),
   .bi 25 .eql (.s 19) (.s 24)])
  (.cd (.s 25) (.sq (.rg [.mv 26 (.s 0),
   .mv 27 (.s 3),
   .slc 28 1 (.s 26) (some (.s 27)) none,
   .mv 4 (.s 28)])
  (.sq (.sq (.rg [.mv 5 (.c (.int .i64 1))])
  (.bl 2 (.lp (.sq (.sq (.rg [.mv 29 (.s 5),
   .mv 30 (.s 4),
   .ln 31 (.s 30),
   .bi 32 .lss (.s 29) (.s 31)])
  (.cd (.s 32) .sk (.ex 2)))
  (.sq (.bl 3 (.sq (.rd [[], [], [], [], [], [], [], [], [], []] [.mv 35 (.s 4),
   .mv 36 (.s 5),
   .ia 37 1 (.s 35) (.s 36),
   .lds 38 (.s 37),
   .mv 39 (.s 4),
   .mv 40 (.s 5),
   .bi 41 .sub (.s 40) (.c (.int .i64 1)),
   .ia 42 1 (.s 39) (.s 41),
   .lds 43 (.s 42),
   .bi 44 .neq (.s 38) (.s 43)])
  (.cd (.s 44) (.sq (.rg [.mv 45 (.s 0),
   .mv 46 (.s 3),
   .mv 47 (.s 4),
   .mv 48 (.s 5),
   .ia 49 1 (.s 47) (.s 48),
   .lds 50 (.s 49),
   .ia 51 1 (.s 45) (.s 46),
   .st 1 (.s 51) (.s 50)])
  (.rg [.mv 52 (.s 3),
   .bi 53 .add (.s 52) (.c (.int .i64 1)),
   .mv 3 (.s 53)])) .sk)))
  (.rg [.mv 33 (.s 5),
   .bi 34 .add (.s 33) (.c (.int .i64 1)),
   .mv 5 (.s 34)]))))))
  (.sq (.rg [.mv 54 (.s 0),
   .mv 55 (.s 3),
   .slc 56 1 (.s 54) (some (.s 55)) none,
   .no])
  (.sq (.rg [.mv 57 (.s 0),
   .mv 58 (.s 3),
   .slc 59 1 (.s 57) none (some (.s 58)),
   .mv 2 (.s 59)])
  .rt)))) .sk)))
  (.rg [.mv 14 (.s 3),
   .bi 15 .add (.s 14) (.c (.int .i64 1)),
   .mv 3 (.s 15)]))))))
  (.sq (.rg [.mv 60 (.s 0),
   .mv 2 (.s 60)])
  .rt))))
def a62 : AF := ⟨c62, [.t 2], 1, 61⟩
theorem m62 : mF Tryd.prog gl drD Tryd.f62 a62 = true := by kernel_rfl
theorem s62 {l : List AV} {r : AV} (hl : l.length = 1) (hi : idsL l = []) (h : wpA (SpH Tryd.prog gl) c62 (postF [.t 2] r) ⟨initE 0 l, [], []⟩) : Sp Tryd.prog gl 62 l r :=
  @fun_spF Tryd.prog gl drD 62 Tryd.f62 a62 Tryd.func62 m62 (dok _) l r hl hi h
theorem h62 {d : Nat} {I : In} {O : Out} (hl : I.vs.length = 1) (h : wpA (SpH Tryd.prog gl) c62 (postH d [.t 2] O) (inSt I)) : SpH Tryd.prog gl 62 d I O :=
  @fun_spH Tryd.prog gl drD 62 Tryd.f62 a62 Tryd.func62 m62 (dok _) d I O hl h
/-- firebell/firebellref18.Goal -/
def c63 : AC :=
 (.sq (.rg [.bx 2 (.s 0),
   .mv 4 (.c (.int .i64 0))])
  (.sq (.sq (.rg [.mv 5 (.c (.int .i64 0))])
  (.bl 0 (.lp (.sq (.sq (.rg [.mv 6 (.s 5),
   .fa 7 (.s 2) 0,
   .lds 8 (.s 7),
   .ln 9 (.s 8),
   .bi 10 .lss (.s 6) (.s 9)])
  (.cd (.s 10) .sk (.ex 0)))
  (.sq (.bl 1 (.sq (.rg [.fa 13 (.s 2) 0,
   .lds 14 (.s 13),
   .mv 15 (.s 5),
   .ia 16 8 (.s 14) (.s 15),
   .fa 17 (.s 16) 0,
   .lds 18 (.s 17),
   .mv 19 (.s 1),
   .bi 20 .eql (.s 18) (.s 19)])
  (.cd (.s 20) (.sq (.rg [.mv 21 (.s 5),
   .mv 4 (.s 21)])
  .rt) .sk)))
  (.rg [.mv 11 (.s 5),
   .bi 12 .add (.s 11) (.c (.int .i64 1)),
   .mv 5 (.s 12)]))))))
  (.sq (.rg [.mv 4 (.c (.int .i64 (-1)))])
  .rt)))
def a63 : AF := ⟨c63, [.t 4], 2, 22⟩
theorem m63 : mF Tryd.prog gl drD Tryd.f63 a63 = true := by kernel_rfl
theorem s63 {l : List AV} {r : AV} (hl : l.length = 2) (hi : idsL l = []) (h : wpA (SpH Tryd.prog gl) c63 (postA [.t 4] r) ⟨initE 0 l, [], []⟩) : Sp Tryd.prog gl 63 l r :=
  @fun_sp Tryd.prog gl drD 63 Tryd.f63 a63 Tryd.func63 m63 (dok _) l r hl hi h
theorem h63 {d : Nat} {I : In} {O : Out} (hl : I.vs.length = 2) (h : wpA (SpH Tryd.prog gl) c63 (postH d [.t 4] O) (inSt I)) : SpH Tryd.prog gl 63 d I O :=
  @fun_spH Tryd.prog gl drD 63 Tryd.f63 a63 Tryd.func63 m63 (dok _) d I O hl h
/-- firebell/firebellref18.Stays -/
def c64 : AC :=
 (.sq (.rg [.bx 2 (.s 0),
   .bx 3 (.s 1),
   .mv 4 (.c (.bool false))])
  (.sq (.rd [[], [], [], [], [], [], [], [], [], [], [], [], [], [], [], [], [], [], [], []] [.fa 5 (.s 2) 2,
   .lds 6 (.s 5),
   .fa 7 (.s 3) 2,
   .lds 8 (.s 7),
   .bi 9 .eql (.s 6) (.s 8),
   .mv 10 (.s 9),
   .gd 10 true 11 (.fa 11 (.s 2) 5),
   .gd 10 true 12 (.lds 12 (.s 11)),
   .gd 10 true 13 (.fa 13 (.s 3) 5),
   .gd 10 true 14 (.lds 14 (.s 13)),
   .gd 10 true 15 (.bi 15 .eql (.s 12) (.s 14)),
   .pk 16 (.s 10) (.s 15) (.c (.bool false)),
   .mv 17 (.s 16),
   .gd 17 true 18 (.lda 18 8 (.s 2)),
   .gd 17 true 19 (.cl 19 27 [(.s 18)]),
   .gd 17 true 20 (.lda 20 8 (.s 3)),
   .gd 17 true 21 (.cl 21 27 [(.s 20)]),
   .gd 17 true 22 (.cl 22 26 [(.s 19), (.s 21)]),
   .pk 23 (.s 17) (.s 22) (.c (.bool false)),
   .mv 4 (.s 23)])
  .rt))
def a64 : AF := ⟨c64, [.t 4], 2, 24⟩
theorem m64 : mF Tryd.prog gl drD Tryd.f64 a64 = true := by kernel_rfl
theorem s64 {l : List AV} {r : AV} (hl : l.length = 2) (hi : idsL l = []) (h : wpA (SpH Tryd.prog gl) c64 (postA [.t 4] r) ⟨initE 0 l, [], []⟩) : Sp Tryd.prog gl 64 l r :=
  @fun_sp Tryd.prog gl drD 64 Tryd.f64 a64 Tryd.func64 m64 (dok _) l r hl hi h
theorem h64 {d : Nat} {I : In} {O : Out} (hl : I.vs.length = 2) (h : wpA (SpH Tryd.prog gl) c64 (postH d [.t 4] O) (inSt I)) : SpH Tryd.prog gl 64 d I O :=
  @fun_spH Tryd.prog gl drD 64 Tryd.f64 a64 Tryd.func64 m64 (dok _) d I O hl h
/-- firebell/firebellref18.Rule -/
def c65 : AC :=
 (.sq (.rg [.bx 2 (.s 0),
   .mv 4 (.c (.int .i64 0))])
  (.sq (.sq (.rg [.mv 5 (.c (.int .i64 0))])
  (.bl 0 (.lp (.sq (.sq (.rg [.mv 6 (.s 5),
   .fa 7 (.s 2) 7,
   .lds 8 (.s 7),
   .ln 9 (.s 8),
   .bi 10 .lss (.s 6) (.s 9)])
  (.cd (.s 10) .sk (.ex 0)))
  (.sq (.bl 1 (.sq (.rg [.fa 13 (.s 2) 7,
   .lds 14 (.s 13),
   .mv 15 (.s 5),
   .ia 16 7 (.s 14) (.s 15),
   .fa 17 (.s 16) 0,
   .lds 18 (.s 17),
   .mv 19 (.s 1),
   .bi 20 .eql (.s 18) (.s 19)])
  (.cd (.s 20) (.sq (.rg [.mv 21 (.s 5),
   .mv 4 (.s 21)])
  .rt) .sk)))
  (.rg [.mv 11 (.s 5),
   .bi 12 .add (.s 11) (.c (.int .i64 1)),
   .mv 5 (.s 12)]))))))
  (.sq (.rg [.mv 4 (.c (.int .i64 (-1)))])
  .rt)))
def a65 : AF := ⟨c65, [.t 4], 2, 22⟩
theorem m65 : mF Tryd.prog gl drD Tryd.f65 a65 = true := by kernel_rfl
theorem s65 {l : List AV} {r : AV} (hl : l.length = 2) (hi : idsL l = []) (h : wpA (SpH Tryd.prog gl) c65 (postA [.t 4] r) ⟨initE 0 l, [], []⟩) : Sp Tryd.prog gl 65 l r :=
  @fun_sp Tryd.prog gl drD 65 Tryd.f65 a65 Tryd.func65 m65 (dok _) l r hl hi h
theorem h65 {d : Nat} {I : In} {O : Out} (hl : I.vs.length = 2) (h : wpA (SpH Tryd.prog gl) c65 (postH d [.t 4] O) (inSt I)) : SpH Tryd.prog gl 65 d I O :=
  @fun_spH Tryd.prog gl drD 65 Tryd.f65 a65 Tryd.func65 m65 (dok _) d I O hl h
/-- firebell/change.find[firebell/api.Turn] -/
def c66 : AC :=
 (.sq (.rg [.mv 4 (.c (.int .i64 0))])
  (.sq (.rg [.mv 5 (.s 0),
   .mv 6 (.s 1),
   .ce 7 105 [(.s 5), (.s 6)],
   .mv 4 (.s 7)])
  .rt))
def a66 : AF := ⟨c66, [.t 4], 2, 8⟩
theorem m66 : mF Tryd.prog gl drD Tryd.f66 a66 = true := by kernel_rfl
theorem s66 {l : List AV} {r : AV} (hl : l.length = 2) (hi : idsL l = []) (h : wpA (SpH Tryd.prog gl) c66 (postA [.t 4] r) ⟨initE 0 l, [], []⟩) : Sp Tryd.prog gl 66 l r :=
  @fun_sp Tryd.prog gl drD 66 Tryd.f66 a66 Tryd.func66 m66 (dok _) l r hl hi h
theorem h66 {d : Nat} {I : In} {O : Out} (hl : I.vs.length = 2) (h : wpA (SpH Tryd.prog gl) c66 (postH d [.t 4] O) (inSt I)) : SpH Tryd.prog gl 66 d I O :=
  @fun_spH Tryd.prog gl drD 66 Tryd.f66 a66 Tryd.func66 m66 (dok _) d I O hl h
/-- firebell/change.Find$1 -/
def c67 : AC :=
 (.sq (.rg [.bx 3 (.s 0),
   .mv 4 (.c (.bool false))])
  (.sq (.rg [.fa 5 (.s 3) 0,
   .lds 6 (.s 5),
   .lds 7 (.s 1),
   .bi 8 .eql (.s 6) (.s 7),
   .mv 9 (.s 8),
   .gd 9 true 10 (.fa 10 (.s 3) 1),
   .gd 9 true 11 (.lds 11 (.s 10)),
   .gd 9 true 12 (.lds 12 (.s 2)),
   .gd 9 true 13 (.bi 13 .eql (.s 11) (.s 12)),
   .pk 14 (.s 9) (.s 13) (.c (.bool false)),
   .mv 4 (.s 14)])
  .rt))
def a67 : AF := ⟨c67, [.t 4], 3, 15⟩
theorem m67 : mF Tryd.prog gl drD Tryd.f67 a67 = true := by kernel_rfl
theorem s67 {l : List AV} {r : AV} (hl : l.length = 3) (hi : idsL l = []) (h : wpA (SpH Tryd.prog gl) c67 (postA [.t 4] r) ⟨initE 0 l, [], []⟩) : Sp Tryd.prog gl 67 l r :=
  @fun_sp Tryd.prog gl drD 67 Tryd.f67 a67 Tryd.func67 m67 (dok _) l r hl hi h
theorem h67 {d : Nat} {I : In} {O : Out} (hl : I.vs.length = 3) (h : wpA (SpH Tryd.prog gl) c67 (postH d [.t 4] O) (inSt I)) : SpH Tryd.prog gl 67 d I O :=
  @fun_spH Tryd.prog gl drD 67 Tryd.f67 a67 Tryd.func67 m67 (dok _) d I O hl h
/-- firebell/bundle.head -/
def c70 : AC :=
 (.sq (.rg [.bx 1 (.s 0),
   .mv 2 (.c (.str []))])
  (.sq (.sq (.rg [.fa 3 (.s 1) 1,
   .lds 4 (.s 3)])
  (.cd (.s 4) (.sq (.rg [.fa 5 (.s 1) 0,
   .lds 6 (.s 5),
   .bi 7 .add (.c (.str [112, 97, 103, 101, 32])) (.s 6),
   .mv 2 (.s 7)])
  .rt) .sk))
  (.sq (.rg [.fa 8 (.s 1) 0,
   .lds 9 (.s 8),
   .bi 10 .add (.c (.str [116, 105, 99, 107, 101, 116, 32])) (.s 9),
   .mv 2 (.s 10)])
  .rt)))
def a70 : AF := ⟨c70, [.t 2], 1, 11⟩
theorem m70 : mF Tryd.prog gl drD Tryd.f70 a70 = true := by kernel_rfl
theorem s70 {l : List AV} {r : AV} (hl : l.length = 1) (hi : idsL l = []) (h : wpA (SpH Tryd.prog gl) c70 (postA [.t 2] r) ⟨initE 0 l, [], []⟩) : Sp Tryd.prog gl 70 l r :=
  @fun_sp Tryd.prog gl drD 70 Tryd.f70 a70 Tryd.func70 m70 (dok _) l r hl hi h
theorem h70 {d : Nat} {I : In} {O : Out} (hl : I.vs.length = 1) (h : wpA (SpH Tryd.prog gl) c70 (postH d [.t 2] O) (inSt I)) : SpH Tryd.prog gl 70 d I O :=
  @fun_spH Tryd.prog gl drD 70 Tryd.f70 a70 Tryd.func70 m70 (dok _) d I O hl h
/-- strings.CutSuffix -/
def c72 : AC :=
 (.sq (.rg [.mv 4 (.c (.str [])),
   .mv 5 (.c (.bool false))])
  (.sq (.rg [.mv 6 (.s 0),
   .mv 7 (.s 1),
   .cl 8 108 [(.s 6), (.s 7)],
   .exq 9 (.s 8) 0,
   .exq 10 (.s 8) 1,
   .mv 4 (.s 9),
   .mv 5 (.s 10)])
  .rt))
def a72 : AF := ⟨c72, [.t 4, .t 5], 2, 11⟩
theorem m72 : mF Tryd.prog gl drD Tryd.f72 a72 = true := by kernel_rfl
theorem s72 {l : List AV} {r : AV} (hl : l.length = 2) (hi : idsL l = []) (h : wpA (SpH Tryd.prog gl) c72 (postA [.t 4, .t 5] r) ⟨initE 0 l, [], []⟩) : Sp Tryd.prog gl 72 l r :=
  @fun_sp Tryd.prog gl drD 72 Tryd.f72 a72 Tryd.func72 m72 (dok _) l r hl hi h
theorem h72 {d : Nat} {I : In} {O : Out} (hl : I.vs.length = 2) (h : wpA (SpH Tryd.prog gl) c72 (postH d [.t 4, .t 5] O) (inSt I)) : SpH Tryd.prog gl 72 d I O :=
  @fun_spH Tryd.prog gl drD 72 Tryd.f72 a72 Tryd.func72 m72 (dok _) d I O hl h
/-- firebell/key.Read -/
def c75 : AC :=
 (.sq (.rg [.al 2 [(.str []), (.str []), (.bool false), (.int .u64 0), (.bool false)],
   .mv 3 (.c (.int .i64 0))])
  (.sq (.rg [.mv 4 (.c .nils)])
  (.sq (.rg [.mv 5 (.c (.int .i64 0))])
  (.sq (.sq (.rg [.mv 15 (.s 0),
   .rs 16 (.s 15)])
  (.bl 0 (.lp (.sq (.rg [.nx 17 (.s 16),
   .exq 18 (.s 17) 0])
  (.sq (.cd (.s 18) .sk (.ex 0))
  (.bl 1 (.sq (.rg [.exq 19 (.s 17) 1,
   .exq 20 (.s 17) 2,
   .mv 6 (.s 19),
   .mv 7 (.s 20)])
  (.sq (.rg [.mv 21 (.s 7),
   .bi 22 .eql (.s 21) (.c (.int .i32 47))])
  (.cd (.s 22) (.sq (.rg [.mo 23 4,
   .mv 24 (.s 0),
   .mv 25 (.s 5),
   .mv 26 (.s 6),
   .sls 27 (.s 24) (some (.s 25)) (some (.s 26)),
   .bs 28 1 [(.s 27)],
   .ap 29 1 16 (.s 23) (.s 28),
   .mo 4 29])
  (.rg [.mv 30 (.s 6),
   .bi 31 .add (.s 30) (.c (.int .i64 1)),
   .mv 5 (.s 31)])) .sk)))))))))
  (.sq (.rg [.mo 32 4,
   .mv 33 (.s 0),
   .mv 34 (.s 5),
   .sls 35 (.s 33) (some (.s 34)) none,
   .bs 36 1 [(.s 35)],
   .ap 37 1 16 (.s 32) (.s 36),
   .mo 4 37])
  (.sq (.sq (.rg [.mv 38 (.s 4),
   .ln 39 (.s 38),
   .bi 40 .neq (.s 39) (.c (.int .i64 5))])
  (.cd (.s 40) (.sq (.rg [.bd 41 [(.str []), (.str []), (.bool false), (.int .u64 0), (.bool false)] [],
   .st 5 (.s 2) (.s 41),
   .mv 3 (.c (.int .i64 5))])
  .rt) .sk))
  (.sq (.rg [.mv 43 (.s 4),
   .ia 44 1 (.s 43) (.c (.int .i64 3)),
   .lds 45 (.s 44),
   .cl 46 111 [(.s 45)],
   .mv 42 (.s 46),
   .exq 47 (.s 42) 0,
   .exq 48 (.s 42) 1,
   .al 8 [(.int .u64 0), (.int .u64 0)],
   .st 2 (.s 8) (.s 47),
   .mv 9 (.s 48)])
  (.sq (.rg [.mv 50 (.s 4),
   .ia 51 1 (.s 50) (.c (.int .i64 2)),
   .lds 52 (.s 51),
   .cl 53 112 [(.s 52), (.c (.str [112, 97, 103, 101])), (.c (.str [116, 105, 99, 107, 101, 116]))],
   .mv 49 (.s 53),
   .exq 54 (.s 49) 0,
   .exq 55 (.s 49) 1,
   .mv 10 (.s 54),
   .mv 11 (.s 55)])
  (.sq (.rg [.mv 57 (.s 4),
   .ia 58 1 (.s 57) (.c (.int .i64 4)),
   .lds 59 (.s 58),
   .cl 60 112 [(.s 59), (.c (.str [114, 101, 115, 111, 108, 118, 101])), (.c (.str [102, 105, 114, 101]))],
   .mv 56 (.s 60),
   .exq 61 (.s 56) 0,
   .exq 62 (.s 56) 1,
   .mv 12 (.s 61),
   .mv 13 (.s 62)])
  (.sq (.rd [[], [], [], [], [], [], [], [], [], [], [], [2, 5, 8], []] [.mv 63 (.s 4),
   .ia 64 1 (.s 63) (.c (.int .i64 0)),
   .lds 65 (.s 64),
   .mv 66 (.s 4),
   .ia 67 1 (.s 66) (.c (.int .i64 1)),
   .lds 68 (.s 67),
   .mv 69 (.s 10),
   .fa 70 (.s 8) 1,
   .lds 71 (.s 70),
   .mv 72 (.s 12),
   .bd 73 [(.str []), (.str []), (.bool false), (.int .u64 0), (.bool false)] [(0, 1, (.s 65)), (1, 1, (.s 68)), (2, 1, (.s 69)), (3, 1, (.s 71)), (4, 1, (.s 72))],
   .al 14 [(.str []), (.str []), (.bool false), (.int .u64 0), (.bool false)],
   .st 5 (.s 14) (.s 73)])
  (.sq (.sq (.rg [.mv 74 (.s 9),
   .bi 75 .neq (.s 74) (.c (.int .i64 0)),
   .mv 76 (.s 75),
   .gd 76 false 77 (.fa 77 (.s 8) 0),
   .gd 76 false 78 (.lds 78 (.s 77)),
   .gd 76 false 79 (.bi 79 .gtr (.s 78) (.c (.int .u64 0))),
   .pk 80 (.s 76) (.c (.bool true)) (.s 79),
   .mv 81 (.s 80),
   .gd 81 false 82 (.mv 82 (.s 11)),
   .gd 81 false 83 (.un 83 .not (.s 82)),
   .pk 84 (.s 81) (.c (.bool true)) (.s 83),
   .mv 85 (.s 84),
   .gd 85 false 86 (.mv 86 (.s 13)),
   .gd 85 false 87 (.un 87 .not (.s 86)),
   .pk 88 (.s 85) (.c (.bool true)) (.s 87),
   .mv 89 (.s 88),
   .gd 89 false 90 (.lda 90 5 (.s 14)),
   .gd 89 false 91 (.cl 91 47 [(.s 90)]),
   .gd 89 false 92 (.un 92 .not (.s 91)),
   .pk 93 (.s 89) (.c (.bool true)) (.s 92)])
  (.cd (.s 93) (.sq (.rg [.bd 94 [(.str []), (.str []), (.bool false), (.int .u64 0), (.bool false)] [],
   .st 5 (.s 2) (.s 94),
   .mv 3 (.c (.int .i64 5))])
  .rt) .sk))
  (.sq (.rg [.lda 95 5 (.s 14),
   .st 5 (.s 2) (.s 95),
   .mv 3 (.c (.int .i64 0))])
  .rt))))))))))))
def a75 : AF := ⟨c75, [.ca 2 5, .t 3], 1, 96⟩
theorem m75 : mF Tryd.prog gl drD Tryd.f75 a75 = true := by kernel_rfl
theorem s75 {l : List AV} {r : AV} (hl : l.length = 1) (hi : idsL l = []) (h : wpA (SpH Tryd.prog gl) c75 (postA [.ca 2 5, .t 3] r) ⟨initE 0 l, [], []⟩) : Sp Tryd.prog gl 75 l r :=
  @fun_sp Tryd.prog gl drD 75 Tryd.f75 a75 Tryd.func75 m75 (dok _) l r hl hi h
theorem h75 {d : Nat} {I : In} {O : Out} (hl : I.vs.length = 1) (h : wpA (SpH Tryd.prog gl) c75 (postH d [.ca 2 5, .t 3] O) (inSt I)) : SpH Tryd.prog gl 75 d I O :=
  @fun_spH Tryd.prog gl drD 75 Tryd.f75 a75 Tryd.func75 m75 (dok _) d I O hl h
/-- firebell/firebellref25.Read -/
def c76 : AC :=
 (.sq (.rg [.al 2 [(.str []), (.str []), (.bool false), (.int .u64 0), (.bool false)],
   .mv 3 (.c (.bool false))])
  (.sq (.rg [.bsm 9 1 [(.c (.str []))],
   .mv 4 (.s 9)])
  (.sq (.sq (.rg [.mv 5 (.c (.int .i64 0))])
  (.bl 0 (.lp (.sq (.sq (.rg [.mv 10 (.s 5),
   .mv 11 (.s 0),
   .lns 12 (.s 11),
   .bi 13 .lss (.s 10) (.s 12)])
  (.cd (.s 13) .sk (.ex 0)))
  (.sq (.bl 1 (.sq (.rg [.mv 16 (.s 0),
   .mv 17 (.s 5),
   .ixs 18 (.s 16) (.s 17),
   .bi 19 .eql (.s 18) (.c (.int .u8 47))])
  (.cd (.s 19) (.rg [.mo 20 4,
   .bsn 21 1 [(.c (.str []))],
   .apm 22 1 16 (.s 20) (.s 21),
   .mo 4 22]) (.rd [[], [], [], [], [], [], [], [], [], [], [], [], [], [], [], [], [], []] [.mv 23 (.s 4),
   .mv 24 (.s 4),
   .ln 25 (.s 24),
   .bi 26 .sub (.s 25) (.c (.int .i64 1)),
   .mv 27 (.s 4),
   .mv 28 (.s 4),
   .ln 29 (.s 28),
   .bi 30 .sub (.s 29) (.c (.int .i64 1)),
   .ia 31 1 (.s 27) (.s 30),
   .lds 32 (.s 31),
   .mv 33 (.s 0),
   .mv 34 (.s 5),
   .mv 35 (.s 5),
   .bi 36 .add (.s 35) (.c (.int .i64 1)),
   .sls 37 (.s 33) (some (.s 34)) (some (.s 36)),
   .bi 38 .add (.s 32) (.s 37),
   .ia 39 1 (.s 23) (.s 26),
   .st 1 (.s 39) (.s 38)]))))
  (.rg [.mv 14 (.s 5),
   .bi 15 .add (.s 14) (.c (.int .i64 1)),
   .mv 5 (.s 15)]))))))
  (.sq (.sq (.rg [.mv 40 (.s 4),
   .ln 41 (.s 40),
   .bi 42 .neq (.s 41) (.c (.int .i64 5))])
  (.cd (.s 42) (.sq (.rg [.bd 43 [(.str []), (.str []), (.bool false), (.int .u64 0), (.bool false)] [],
   .st 5 (.s 2) (.s 43),
   .mv 3 (.c (.bool false))])
  .rt) .sk))
  (.sq (.rg [.mv 45 (.s 4),
   .ia 46 1 (.s 45) (.c (.int .i64 3)),
   .lds 47 (.s 46),
   .cl 48 113 [(.s 47)],
   .mv 44 (.s 48),
   .exq 49 (.s 44) 0,
   .exq 50 (.s 44) 1,
   .al 6 [(.int .u64 0), (.int .u64 0)],
   .st 2 (.s 6) (.s 49),
   .mv 7 (.s 50)])
  (.sq (.rd [[], [], [], [], [], [], [], [], [], [], [], [], [], [], [], [], [], [2, 5, 8, 11, 14], []] [.mv 51 (.s 4),
   .ia 52 1 (.s 51) (.c (.int .i64 0)),
   .lds 53 (.s 52),
   .mv 54 (.s 4),
   .ia 55 1 (.s 54) (.c (.int .i64 1)),
   .lds 56 (.s 55),
   .mv 57 (.s 4),
   .ia 58 1 (.s 57) (.c (.int .i64 2)),
   .lds 59 (.s 58),
   .bi 60 .eql (.s 59) (.c (.str [112, 97, 103, 101])),
   .fa 61 (.s 6) 1,
   .lds 62 (.s 61),
   .mv 63 (.s 4),
   .ia 64 1 (.s 63) (.c (.int .i64 4)),
   .lds 65 (.s 64),
   .bi 66 .eql (.s 65) (.c (.str [114, 101, 115, 111, 108, 118, 101])),
   .bd 67 [(.str []), (.str []), (.bool false), (.int .u64 0), (.bool false)] [(0, 1, (.s 53)), (1, 1, (.s 56)), (2, 1, (.s 60)), (3, 1, (.s 62)), (4, 1, (.s 66))],
   .al 8 [(.str []), (.str []), (.bool false), (.int .u64 0), (.bool false)],
   .st 5 (.s 8) (.s 67)])
  (.sq (.sq (.rg [.fa 68 (.s 6) 0,
   .lds 69 (.s 68),
   .bi 70 .gtr (.s 69) (.c (.int .u64 0)),
   .mv 71 (.s 70),
   .gd 71 false 72 (.lda 72 5 (.s 8)),
   .gd 71 false 73 (.cl 73 14 [(.s 72)]),
   .gd 71 false 74 (.un 74 .not (.s 73)),
   .pk 75 (.s 71) (.c (.bool true)) (.s 74),
   .mv 76 (.s 75),
   .gd 76 false 77 (.lda 77 5 (.s 8)),
   .gd 76 false 78 (.cl 78 80 [(.s 77)]),
   .gd 76 false 79 (.mv 79 (.s 0)),
   .gd 76 false 80 (.bi 80 .neq (.s 78) (.s 79)),
   .pk 81 (.s 76) (.c (.bool true)) (.s 80)])
  (.cd (.s 81) (.sq (.rg [.bd 82 [(.str []), (.str []), (.bool false), (.int .u64 0), (.bool false)] [],
   .st 5 (.s 2) (.s 82),
   .mv 3 (.c (.bool false))])
  .rt) .sk))
  (.sq (.rg [.lda 83 5 (.s 8),
   .st 5 (.s 2) (.s 83),
   .mv 3 (.c (.bool true))])
  .rt))))))))
def a76 : AF := ⟨c76, [.ca 2 5, .t 3], 1, 84⟩
theorem m76 : mF Tryd.prog gl drD Tryd.f76 a76 = true := by kernel_rfl
theorem s76 {l : List AV} {r : AV} (hl : l.length = 1) (hi : idsL l = []) (h : wpA (SpH Tryd.prog gl) c76 (postA [.ca 2 5, .t 3] r) ⟨initE 0 l, [], []⟩) : Sp Tryd.prog gl 76 l r :=
  @fun_sp Tryd.prog gl drD 76 Tryd.f76 a76 Tryd.func76 m76 (dok _) l r hl hi h
theorem h76 {d : Nat} {I : In} {O : Out} (hl : I.vs.length = 1) (h : wpA (SpH Tryd.prog gl) c76 (postH d [.ca 2 5, .t 3] O) (inSt I)) : SpH Tryd.prog gl 76 d I O :=
  @fun_spH Tryd.prog gl drD 76 Tryd.f76 a76 Tryd.func76 m76 (dok _) d I O hl h
/-- firebell/text.Name -/
def c88 : AC :=
 (.sq (.rg [.mv 2 (.c (.bool false))])
  (.sq (.rg [.mv 3 (.c (.int .i64 0))])
  (.sq (.rg [.mv 4 (.c (.int .i32 32))])
  (.sq (.sq (.rg [.mv 8 (.s 0),
   .rs 9 (.s 8)])
  (.bl 0 (.lp (.sq (.rg [.nx 10 (.s 9),
   .exq 11 (.s 10) 0])
  (.sq (.cd (.s 11) .sk (.ex 0))
  (.bl 1 (.sq (.rg [.exq 12 (.s 10) 1,
   .exq 13 (.s 10) 2,
   .mv 5 (.s 12),
   .mv 6 (.s 13)])
  (.sq (.rg [.mv 14 (.s 6),
   .cl 15 118 [(.s 14)],
   .mv 16 (.s 15),
   .gd 16 false 17 (.mv 17 (.s 5)),
   .gd 16 false 18 (.bi 18 .gtr (.s 17) (.c (.int .i64 0))),
   .gd 16 false 19 (.mv 19 (.s 18)),
   .gd 19 true 20 (.mv 20 (.s 6)),
   .gd 19 true 21 (.cl 21 119 [(.s 20)]),
   .gd 19 true 22 (.mv 22 (.s 21)),
   .gd 22 false 23 (.mv 23 (.s 6)),
   .gd 22 false 24 (.bi 24 .eql (.s 23) (.c (.int .i32 95))),
   .gd 19 true 25 (.pk 25 (.s 22) (.c (.bool true)) (.s 24)),
   .gd 19 true 26 (.mv 26 (.s 25)),
   .gd 26 false 27 (.mv 27 (.s 6)),
   .gd 26 false 28 (.bi 28 .eql (.s 27) (.c (.int .i32 45))),
   .gd 19 true 29 (.pk 29 (.s 26) (.c (.bool true)) (.s 28)),
   .gd 16 false 30 (.pk 30 (.s 19) (.s 29) (.c (.bool false))),
   .pk 31 (.s 16) (.c (.bool true)) (.s 30),
   .mv 7 (.s 31)])
  (.sq (.sq (.rg [.mv 32 (.s 7),
   .un 33 .not (.s 32)])
  (.cd (.s 33) (.sq (.rg [.mv 2 (.c (.bool false))])
  .rt) .sk))
  (.rg [.mv 34 (.s 3),
   .bi 35 .add (.s 34) (.c (.int .i64 1)),
   .mv 36 (.s 6),
   .mv 3 (.s 35),
   .mv 4 (.s 36)]))))))))))
  (.sq (.rg [.mv 37 (.s 3),
   .bi 38 .gtr (.s 37) (.c (.int .i64 0)),
   .mv 39 (.s 38),
   .gd 39 true 40 (.mv 40 (.s 3)),
   .gd 39 true 41 (.bi 41 .leq (.s 40) (.c (.int .i64 24))),
   .pk 42 (.s 39) (.s 41) (.c (.bool false)),
   .mv 43 (.s 42),
   .gd 43 true 44 (.mv 44 (.s 4)),
   .gd 43 true 45 (.cl 45 118 [(.s 44)]),
   .gd 43 true 46 (.mv 46 (.s 45)),
   .gd 46 false 47 (.mv 47 (.s 4)),
   .gd 46 false 48 (.cl 48 119 [(.s 47)]),
   .gd 43 true 49 (.pk 49 (.s 46) (.c (.bool true)) (.s 48)),
   .pk 50 (.s 43) (.s 49) (.c (.bool false)),
   .mv 2 (.s 50)])
  .rt)))))
def a88 : AF := ⟨c88, [.t 2], 1, 51⟩
theorem m88 : mF Tryd.prog gl drD Tryd.f88 a88 = true := by kernel_rfl
theorem s88 {l : List AV} {r : AV} (hl : l.length = 1) (hi : idsL l = []) (h : wpA (SpH Tryd.prog gl) c88 (postA [.t 2] r) ⟨initE 0 l, [], []⟩) : Sp Tryd.prog gl 88 l r :=
  @fun_sp Tryd.prog gl drD 88 Tryd.f88 a88 Tryd.func88 m88 (dok _) l r hl hi h
theorem h88 {d : Nat} {I : In} {O : Out} (hl : I.vs.length = 1) (h : wpA (SpH Tryd.prog gl) c88 (postH d [.t 2] O) (inSt I)) : SpH Tryd.prog gl 88 d I O :=
  @fun_spH Tryd.prog gl drD 88 Tryd.f88 a88 Tryd.func88 m88 (dok _) d I O hl h
/-- firebell/firebellref06.Runes -/
def c89 : AC :=
 (.sq (.rg [.mv 2 (.c .nils)])
  (.sq (.rg [.bs 10 1 [],
   .mo 3 10])
  (.sq (.rg [.mv 4 (.c (.int .i64 0))])
  (.sq (.bl 0 (.lp (.sq (.sq (.rg [.mv 11 (.s 4),
   .mv 12 (.s 0),
   .lns 13 (.s 12),
   .bi 14 .lss (.s 11) (.s 13)])
  (.cd (.s 14) .sk (.ex 0)))
  (.bl 1 (.sq (.rg [.mv 15 (.s 0),
   .mv 16 (.s 4),
   .ixs 17 (.s 15) (.s 16),
   .cv 18 .i32 (.s 17),
   .mv 5 (.s 18)])
  (.sq (.rg [.mv 6 (.c (.int .i64 0))])
  (.sq (.rg [.mv 7 (.c (.int .i32 0))])
  (.sq (.bl 2 (.sq (.rg [.mv 20 (.s 5),
   .bi 21 .lss (.s 20) (.c (.int .i32 128)),
   .mv 19 (.s 21)])
  (.cd (.s 19) (.sq (.rg [.mo 22 3,
   .mv 23 (.s 5),
   .bs 24 1 [(.s 23)],
   .ap 25 1 4 (.s 22) (.s 24),
   .mo 3 25])
  (.sq (.rg [.mv 26 (.s 4),
   .bi 27 .add (.s 26) (.c (.int .i64 1)),
   .mv 4 (.s 27)])
  (.ex 1))) (.sq (.rg [.mv 29 (.s 5),
   .bi 30 .geq (.s 29) (.c (.int .i32 192)),
   .mv 31 (.s 30),
   .gd 31 true 32 (.mv 32 (.s 5)),
   .gd 31 true 33 (.bi 33 .lss (.s 32) (.c (.int .i32 224))),
   .pk 34 (.s 31) (.s 33) (.c (.bool false)),
   .mv 28 (.s 34)])
  (.cd (.s 28) (.sq (.rg [.mv 6 (.c (.int .i64 1))])
  (.sq (.rg [.mv 35 (.s 5),
   .bi 36 .sub (.s 35) (.c (.int .i32 192)),
   .mv 5 (.s 36)])
  (.rg [.mv 7 (.c (.int .i32 128))]))) (.sq (.rg [.mv 38 (.s 5),
   .bi 39 .geq (.s 38) (.c (.int .i32 224)),
   .mv 40 (.s 39),
   .gd 40 true 41 (.mv 41 (.s 5)),
   .gd 40 true 42 (.bi 42 .lss (.s 41) (.c (.int .i32 240))),
   .pk 43 (.s 40) (.s 42) (.c (.bool false)),
   .mv 37 (.s 43)])
  (.cd (.s 37) (.sq (.rg [.mv 6 (.c (.int .i64 2))])
  (.sq (.rg [.mv 44 (.s 5),
   .bi 45 .sub (.s 44) (.c (.int .i32 224)),
   .mv 5 (.s 45)])
  (.rg [.mv 7 (.c (.int .i32 2048))]))) (.sq (.rg [.mv 47 (.s 5),
   .bi 48 .geq (.s 47) (.c (.int .i32 240)),
   .mv 49 (.s 48),
   .gd 49 true 50 (.mv 50 (.s 5)),
   .gd 49 true 51 (.bi 51 .lss (.s 50) (.c (.int .i32 248))),
   .pk 52 (.s 49) (.s 51) (.c (.bool false)),
   .mv 46 (.s 52)])
  (.cd (.s 46) (.sq (.rg [.mv 6 (.c (.int .i64 3))])
  (.sq (.rg [.mv 53 (.s 5),
   .bi 54 .sub (.s 53) (.c (.int .i32 240)),
   .mv 5 (.s 54)])
  (.rg [.mv 7 (.c (.int .i32 65536))]))) .sk)))))))))
  (.sq (.rg [.mv 55 (.s 6),
   .bi 56 .gtr (.s 55) (.c (.int .i64 0)),
   .mv 8 (.s 56)])
  (.sq (.sq (.rg [.mv 9 (.c (.int .i64 1))])
  (.bl 3 (.lp (.sq (.sq (.rg [.mv 57 (.s 9),
   .mv 58 (.s 6),
   .bi 59 .leq (.s 57) (.s 58)])
  (.cd (.s 59) .sk (.ex 3)))
  (.sq (.bl 4 (.sq (.sq (.rg [.mv 62 (.s 4),
   .mv 63 (.s 9),
   .bi 64 .add (.s 62) (.s 63),
   .mv 65 (.s 0),
   .lns 66 (.s 65),
   .bi 67 .geq (.s 64) (.s 66),
   .mv 68 (.s 67),
   .gd 68 false 69 (.mv 69 (.s 0)),
   .gd 68 false 70 (.mv 70 (.s 4)),
   .gd 68 false 71 (.mv 71 (.s 9)),
   .gd 68 false 72 (.bi 72 .add (.s 70) (.s 71)),
   .gd 68 false 73 (.ixs 73 (.s 69) (.s 72)),
   .gd 68 false 74 (.bi 74 .lss (.s 73) (.c (.int .u8 128))),
   .pk 75 (.s 68) (.c (.bool true)) (.s 74),
   .mv 76 (.s 75),
   .gd 76 false 77 (.mv 77 (.s 0)),
   .gd 76 false 78 (.mv 78 (.s 4)),
   .gd 76 false 79 (.mv 79 (.s 9)),
   .gd 76 false 80 (.bi 80 .add (.s 78) (.s 79)),
   .gd 76 false 81 (.ixs 81 (.s 77) (.s 80)),
   .gd 76 false 82 (.bi 82 .gtr (.s 81) (.c (.int .u8 191))),
   .pk 83 (.s 76) (.c (.bool true)) (.s 82)])
  (.cd (.s 83) (.sq (.rg [.mv 8 (.c (.bool false))])
  (.ex 3)) .sk))
  (.rg [.mv 84 (.s 5),
   .bi 85 .mul (.c (.int .i32 64)) (.s 84),
   .mv 86 (.s 0),
   .mv 87 (.s 4),
   .mv 88 (.s 9),
   .bi 89 .add (.s 87) (.s 88),
   .ixs 90 (.s 86) (.s 89),
   .cv 91 .i32 (.s 90),
   .bi 92 .add (.s 85) (.s 91),
   .bi 93 .sub (.s 92) (.c (.int .i32 128)),
   .mv 5 (.s 93)])))
  (.rg [.mv 60 (.s 9),
   .bi 61 .add (.s 60) (.c (.int .i64 1)),
   .mv 9 (.s 61)]))))))
  (.sq (.sq (.rg [.mv 94 (.s 8),
   .un 95 .not (.s 94),
   .mv 96 (.s 95),
   .gd 96 false 97 (.mv 97 (.s 5)),
   .gd 96 false 98 (.mv 98 (.s 7)),
   .gd 96 false 99 (.bi 99 .lss (.s 97) (.s 98)),
   .pk 100 (.s 96) (.c (.bool true)) (.s 99),
   .mv 101 (.s 100),
   .gd 101 false 102 (.mv 102 (.s 5)),
   .gd 101 false 103 (.bi 103 .gtr (.s 102) (.c (.int .i32 1114111))),
   .pk 104 (.s 101) (.c (.bool true)) (.s 103),
   .mv 105 (.s 104),
   .gd 105 false 106 (.mv 106 (.s 5)),
   .gd 105 false 107 (.bi 107 .geq (.s 106) (.c (.int .i32 55296))),
   .gd 105 false 108 (.mv 108 (.s 107)),
   .gd 108 true 109 (.mv 109 (.s 5)),
   .gd 108 true 110 (.bi 110 .lss (.s 109) (.c (.int .i32 57344))),
   .gd 105 false 111 (.pk 111 (.s 108) (.s 110) (.c (.bool false))),
   .pk 112 (.s 105) (.c (.bool true)) (.s 111)])
  (.cd (.s 112) (.sq (.rg [.mo 113 3,
   .bs 114 1 [(.c (.int .i32 (-1)))],
   .ap 115 1 4 (.s 113) (.s 114),
   .mo 3 115])
  (.sq (.rg [.mv 116 (.s 4),
   .bi 117 .add (.s 116) (.c (.int .i64 1)),
   .mv 4 (.s 117)])
  (.ex 1))) .sk))
  (.sq (.rg [.mo 118 3,
   .mv 119 (.s 5),
   .bs 120 1 [(.s 119)],
   .ap 121 1 4 (.s 118) (.s 120),
   .mo 3 121])
  (.rg [.mv 122 (.s 4),
   .bi 123 .add (.s 122) (.c (.int .i64 1)),
   .mv 124 (.s 6),
   .bi 125 .add (.s 123) (.s 124),
   .mv 4 (.s 125)])))))))))))))
  (.sq (.rg [.mv 126 (.s 3),
   .mv 2 (.s 126)])
  .rt)))))
def a89 : AF := ⟨c89, [.t 2], 1, 127⟩
theorem m89 : mF Tryd.prog gl drD Tryd.f89 a89 = true := by kernel_rfl
theorem s89 {l : List AV} {r : AV} (hl : l.length = 1) (hi : idsL l = []) (h : wpA (SpH Tryd.prog gl) c89 (postA [.t 2] r) ⟨initE 0 l, [], []⟩) : Sp Tryd.prog gl 89 l r :=
  @fun_sp Tryd.prog gl drD 89 Tryd.f89 a89 Tryd.func89 m89 (dok _) l r hl hi h
theorem h89 {d : Nat} {I : In} {O : Out} (hl : I.vs.length = 1) (h : wpA (SpH Tryd.prog gl) c89 (postH d [.t 2] O) (inSt I)) : SpH Tryd.prog gl 89 d I O :=
  @fun_spH Tryd.prog gl drD 89 Tryd.f89 a89 Tryd.func89 m89 (dok _) d I O hl h
/-- firebell/firebellref06.Letter -/
def c90 : AC :=
 (.sq (.rg [.mv 2 (.c (.bool false))])
  (.sq (.sq (.rg [.mv 3 (.s 0),
   .bi 4 .geq (.s 3) (.c (.int .i32 97)),
   .mv 5 (.s 4),
   .gd 5 true 6 (.mv 6 (.s 0)),
   .gd 5 true 7 (.bi 7 .leq (.s 6) (.c (.int .i32 122))),
   .pk 8 (.s 5) (.s 7) (.c (.bool false)),
   .mv 9 (.s 8),
   .gd 9 false 10 (.mv 10 (.s 0)),
   .gd 9 false 11 (.bi 11 .geq (.s 10) (.c (.int .i32 65))),
   .gd 9 false 12 (.mv 12 (.s 11)),
   .gd 12 true 13 (.mv 13 (.s 0)),
   .gd 12 true 14 (.bi 14 .leq (.s 13) (.c (.int .i32 90))),
   .gd 9 false 15 (.pk 15 (.s 12) (.s 14) (.c (.bool false))),
   .pk 16 (.s 9) (.c (.bool true)) (.s 15)])
  (.cd (.s 16) (.sq (.rg [.mv 2 (.c (.bool true))])
  .rt) .sk))
  (.sq (.sq (.rg [.mv 17 (.s 0),
   .bi 18 .geq (.s 17) (.c (.int .i32 192)),
   .mv 19 (.s 18),
   .gd 19 true 20 (.mv 20 (.s 0)),
   .gd 19 true 21 (.bi 21 .leq (.s 20) (.c (.int .i32 591))),
   .pk 22 (.s 19) (.s 21) (.c (.bool false))])
  (.cd (.s 22) (.sq (.rg [.mv 23 (.s 0),
   .bi 24 .neq (.s 23) (.c (.int .i32 215)),
   .mv 25 (.s 24),
   .gd 25 true 26 (.mv 26 (.s 0)),
   .gd 25 true 27 (.bi 27 .neq (.s 26) (.c (.int .i32 247))),
   .pk 28 (.s 25) (.s 27) (.c (.bool false)),
   .mv 2 (.s 28)])
  .rt) .sk))
  (.sq (.rg [.mv 29 (.s 0),
   .bi 30 .geq (.s 29) (.c (.int .i32 880)),
   .mv 31 (.s 30),
   .gd 31 true 32 (.mv 32 (.s 0)),
   .gd 31 true 33 (.bi 33 .leq (.s 32) (.c (.int .i32 1279))),
   .pk 34 (.s 31) (.s 33) (.c (.bool false)),
   .mv 2 (.s 34)])
  .rt))))
def a90 : AF := ⟨c90, [.t 2], 1, 35⟩
theorem m90 : mF Tryd.prog gl drD Tryd.f90 a90 = true := by kernel_rfl
theorem s90 {l : List AV} {r : AV} (hl : l.length = 1) (hi : idsL l = []) (h : wpA (SpH Tryd.prog gl) c90 (postA [.t 2] r) ⟨initE 0 l, [], []⟩) : Sp Tryd.prog gl 90 l r :=
  @fun_sp Tryd.prog gl drD 90 Tryd.f90 a90 Tryd.func90 m90 (dok _) l r hl hi h
theorem h90 {d : Nat} {I : In} {O : Out} (hl : I.vs.length = 1) (h : wpA (SpH Tryd.prog gl) c90 (postH d [.t 2] O) (inSt I)) : SpH Tryd.prog gl 90 d I O :=
  @fun_spH Tryd.prog gl drD 90 Tryd.f90 a90 Tryd.func90 m90 (dok _) d I O hl h
/-- firebell/firebellref06.Good -/
def c91 : AC :=
 (.sq (.rg [.mv 2 (.c (.bool false))])
  (.sq (.rg [.mv 5 (.s 0),
   .cl 6 89 [(.s 5)],
   .mv 3 (.s 6)])
  (.sq (.sq (.rg [.mv 4 (.c (.int .i64 0))])
  (.bl 0 (.lp (.sq (.sq (.rg [.mv 7 (.s 4),
   .mv 8 (.s 3),
   .ln 9 (.s 8),
   .bi 10 .lss (.s 7) (.s 9)])
  (.cd (.s 10) .sk (.ex 0)))
  (.sq (.bl 1 (.sq (.rg [.mv 13 (.s 3),
   .mv 14 (.s 4),
   .ia 15 1 (.s 13) (.s 14),
   .lds 16 (.s 15),
   .bi 17 .lss (.s 16) (.c (.int .i32 0))])
  (.cd (.s 17) (.sq (.rg [.mv 2 (.c (.bool false))])
  .rt) .sk)))
  (.rg [.mv 11 (.s 4),
   .bi 12 .add (.s 11) (.c (.int .i64 1)),
   .mv 4 (.s 12)]))))))
  (.sq (.rg [.mv 2 (.c (.bool true))])
  .rt))))
def a91 : AF := ⟨c91, [.t 2], 1, 18⟩
theorem m91 : mF Tryd.prog gl drD Tryd.f91 a91 = true := by kernel_rfl
theorem s91 {l : List AV} {r : AV} (hl : l.length = 1) (hi : idsL l = []) (h : wpA (SpH Tryd.prog gl) c91 (postA [.t 2] r) ⟨initE 0 l, [], []⟩) : Sp Tryd.prog gl 91 l r :=
  @fun_sp Tryd.prog gl drD 91 Tryd.f91 a91 Tryd.func91 m91 (dok _) l r hl hi h
theorem h91 {d : Nat} {I : In} {O : Out} (hl : I.vs.length = 1) (h : wpA (SpH Tryd.prog gl) c91 (postH d [.t 2] O) (inSt I)) : SpH Tryd.prog gl 91 d I O :=
  @fun_spH Tryd.prog gl drD 91 Tryd.f91 a91 Tryd.func91 m91 (dok _) d I O hl h
/-- firebell/firebellref17.RightRule -/
def c92 : AC :=
 (.sq (.rg [.bx 2 (.s 0),
   .mv 4 (.c (.bool false))])
  (.sq (.sq (.rg [.mv 5 (.s 1),
   .bi 6 .lss (.s 5) (.c (.int .i64 1)),
   .mv 7 (.s 6),
   .gd 7 false 8 (.fa 8 (.s 2) 2),
   .gd 7 false 9 (.lds 9 (.s 8)),
   .gd 7 false 10 (.cl 10 55 [(.s 9), (.c (.int .i64 1)), (.c (.int .i64 34560000))]),
   .gd 7 false 11 (.un 11 .not (.s 10)),
   .pk 12 (.s 7) (.c (.bool true)) (.s 11),
   .mv 13 (.s 12),
   .gd 13 false 14 (.fa 14 (.s 2) 3),
   .gd 13 false 15 (.lds 15 (.s 14)),
   .gd 13 false 16 (.cl 16 55 [(.s 15), (.c (.int .i64 1)), (.c (.int .i64 34560000))]),
   .gd 13 false 17 (.un 17 .not (.s 16)),
   .pk 18 (.s 13) (.c (.bool true)) (.s 17),
   .mv 19 (.s 18),
   .gd 19 false 20 (.fa 20 (.s 2) 2),
   .gd 19 false 21 (.lds 21 (.s 20)),
   .gd 19 false 22 (.mv 22 (.s 1)),
   .gd 19 false 23 (.bi 23 .rem (.s 21) (.s 22)),
   .gd 19 false 24 (.bi 24 .neq (.s 23) (.c (.int .i64 0))),
   .pk 25 (.s 19) (.c (.bool true)) (.s 24),
   .mv 26 (.s 25),
   .gd 26 false 27 (.fa 27 (.s 2) 3),
   .gd 26 false 28 (.lds 28 (.s 27)),
   .gd 26 false 29 (.mv 29 (.s 1)),
   .gd 26 false 30 (.bi 30 .rem (.s 28) (.s 29)),
   .gd 26 false 31 (.bi 31 .neq (.s 30) (.c (.int .i64 0))),
   .pk 32 (.s 26) (.c (.bool true)) (.s 31),
   .mv 33 (.s 32),
   .gd 33 false 34 (.fa 34 (.s 2) 3),
   .gd 33 false 35 (.lds 35 (.s 34)),
   .gd 33 false 36 (.fa 36 (.s 2) 2),
   .gd 33 false 37 (.lds 37 (.s 36)),
   .gd 33 false 38 (.bi 38 .gtr (.s 35) (.s 37)),
   .pk 39 (.s 33) (.c (.bool true)) (.s 38)])
  (.cd (.s 39) (.sq (.rg [.mv 4 (.c (.bool false))])
  .rt) .sk))
  (.sq (.rg [.fa 40 (.s 2) 0,
   .lds 41 (.s 40),
   .cl 42 52 [(.s 41)],
   .mv 43 (.s 42),
   .gd 43 true 44 (.fa 44 (.s 2) 4),
   .gd 43 true 45 (.lds 45 (.s 44)),
   .gd 43 true 46 (.bi 46 .gtr (.s 45) (.c (.int .u64 0))),
   .pk 47 (.s 43) (.s 46) (.c (.bool false)),
   .mv 48 (.s 47),
   .gd 48 true 49 (.fa 49 (.s 2) 4),
   .gd 48 true 50 (.lds 50 (.s 49)),
   .gd 48 true 51 (.bi 51 .leq (.s 50) (.c (.int .u64 1000000))),
   .pk 52 (.s 48) (.s 51) (.c (.bool false)),
   .mv 53 (.s 52),
   .gd 53 true 54 (.fa 54 (.s 2) 5),
   .gd 53 true 55 (.lds 55 (.s 54)),
   .gd 53 true 56 (.cl 56 55 [(.s 55), (.c (.int .i64 0)), (.c (.int .i64 604800))]),
   .pk 57 (.s 53) (.s 56) (.c (.bool false)),
   .mv 58 (.s 57),
   .gd 58 true 59 (.fa 59 (.s 2) 6),
   .gd 58 true 60 (.lds 60 (.s 59)),
   .gd 58 true 61 (.cl 61 55 [(.s 60), (.c (.int .i64 0)), (.c (.int .i64 604800))]),
   .pk 62 (.s 58) (.s 61) (.c (.bool false)),
   .mv 4 (.s 62)])
  .rt)))
def a92 : AF := ⟨c92, [.t 4], 2, 63⟩
theorem m92 : mF Tryd.prog gl drD Tryd.f92 a92 = true := by kernel_rfl
theorem s92 {l : List AV} {r : AV} (hl : l.length = 2) (hi : idsL l = []) (h : wpA (SpH Tryd.prog gl) c92 (postA [.t 4] r) ⟨initE 0 l, [], []⟩) : Sp Tryd.prog gl 92 l r :=
  @fun_sp Tryd.prog gl drD 92 Tryd.f92 a92 Tryd.func92 m92 (dok _) l r hl hi h
theorem h92 {d : Nat} {I : In} {O : Out} (hl : I.vs.length = 2) (h : wpA (SpH Tryd.prog gl) c92 (postH d [.t 4] O) (inSt I)) : SpH Tryd.prog gl 92 d I O :=
  @fun_spH Tryd.prog gl drD 92 Tryd.f92 a92 Tryd.func92 m92 (dok _) d I O hl h
/-- firebell/show.RightGoal -/
def c93 : AC :=
 (.sq (.rg [.bx 1 (.s 0),
   .mv 2 (.c (.bool false))])
  (.sq (.sq (.rg [.fa 3 (.s 1) 0,
   .lds 4 (.s 3),
   .cl 5 88 [(.s 4)],
   .un 6 .not (.s 5),
   .mv 7 (.s 6),
   .gd 7 false 8 (.fa 8 (.s 1) 1),
   .gd 7 false 9 (.lds 9 (.s 8)),
   .gd 7 false 10 (.cl 10 120 [(.s 9), (.c (.int .u32 1)), (.c (.int .u32 999999))]),
   .gd 7 false 11 (.un 11 .not (.s 10)),
   .pk 12 (.s 7) (.c (.bool true)) (.s 11),
   .mv 13 (.s 12),
   .gd 13 false 14 (.fa 14 (.s 1) 2),
   .gd 13 false 15 (.lds 15 (.s 14)),
   .gd 13 false 16 (.cl 16 95 [(.s 15), (.c (.int .i64 1)), (.c (.int .i64 86400))]),
   .gd 13 false 17 (.un 17 .not (.s 16)),
   .pk 18 (.s 13) (.c (.bool true)) (.s 17),
   .mv 19 (.s 18),
   .gd 19 false 20 (.fa 20 (.s 1) 3),
   .gd 19 false 21 (.lds 21 (.s 20)),
   .gd 19 false 22 (.cl 22 95 [(.s 21), (.c (.int .i64 0)), (.c (.int .i64 86400))]),
   .gd 19 false 23 (.un 23 .not (.s 22)),
   .pk 24 (.s 19) (.c (.bool true)) (.s 23)])
  (.cd (.s 24) (.sq (.rg [.mv 2 (.c (.bool false))])
  .rt) .sk))
  (.sq (.sq (.rg [.fa 25 (.s 1) 4,
   .lds 26 (.s 25),
   .cl 27 95 [(.s 26), (.c (.int .i64 0)), (.c (.int .i64 34560000))],
   .un 28 .not (.s 27),
   .mv 29 (.s 28),
   .gd 29 false 30 (.fa 30 (.s 1) 4),
   .gd 29 false 31 (.lds 31 (.s 30)),
   .gd 29 false 32 (.fa 32 (.s 1) 2),
   .gd 29 false 33 (.lds 33 (.s 32)),
   .gd 29 false 34 (.bi 34 .rem (.s 31) (.s 33)),
   .gd 29 false 35 (.bi 35 .neq (.s 34) (.c (.int .i64 0))),
   .pk 36 (.s 29) (.c (.bool true)) (.s 35),
   .mv 37 (.s 36),
   .gd 37 false 38 (.fa 38 (.s 1) 5),
   .gd 37 false 39 (.lds 39 (.s 38)),
   .gd 37 false 40 (.cl 40 94 [(.s 39), (.c (.int .i64 0)), (.c (.int .i64 2))]),
   .gd 37 false 41 (.un 41 .not (.s 40)),
   .pk 42 (.s 37) (.c (.bool true)) (.s 41)])
  (.cd (.s 42) (.sq (.rg [.mv 2 (.c (.bool false))])
  .rt) .sk))
  (.sq (.rg [.fa 43 (.s 1) 6,
   .lds 44 (.s 43),
   .cl 45 121 [(.s 44)],
   .mv 46 (.s 45),
   .gd 46 true 47 (.fa 47 (.s 1) 7),
   .gd 46 true 48 (.lds 48 (.s 47)),
   .gd 46 true 49 (.fa 49 (.s 1) 2),
   .gd 46 true 50 (.lds 50 (.s 49)),
   .gd 46 true 51 (.cl 51 122 [(.s 48), (.s 50)]),
   .pk 52 (.s 46) (.s 51) (.c (.bool false)),
   .mv 2 (.s 52)])
  .rt))))
def a93 : AF := ⟨c93, [.t 2], 1, 53⟩
theorem m93 : mF Tryd.prog gl drD Tryd.f93 a93 = true := by kernel_rfl
theorem s93 {l : List AV} {r : AV} (hl : l.length = 1) (hi : idsL l = []) (h : wpA (SpH Tryd.prog gl) c93 (postA [.t 2] r) ⟨initE 0 l, [], []⟩) : Sp Tryd.prog gl 93 l r :=
  @fun_sp Tryd.prog gl drD 93 Tryd.f93 a93 Tryd.func93 m93 (dok _) l r hl hi h
theorem h93 {d : Nat} {I : In} {O : Out} (hl : I.vs.length = 1) (h : wpA (SpH Tryd.prog gl) c93 (postH d [.t 2] O) (inSt I)) : SpH Tryd.prog gl 93 d I O :=
  @fun_spH Tryd.prog gl drD 93 Tryd.f93 a93 Tryd.func93 m93 (dok _) d I O hl h
/-- firebell/show.between[int] -/
def c94 : AC :=
 (.sq (.rg [.mv 6 (.c (.bool false))])
  (.sq (.rg [.mv 7 (.s 0),
   .mv 8 (.s 1),
   .bi 9 .geq (.s 7) (.s 8),
   .mv 10 (.s 9),
   .gd 10 true 11 (.mv 11 (.s 0)),
   .gd 10 true 12 (.mv 12 (.s 2)),
   .gd 10 true 13 (.bi 13 .leq (.s 11) (.s 12)),
   .pk 14 (.s 10) (.s 13) (.c (.bool false)),
   .mv 6 (.s 14)])
  .rt))
def a94 : AF := ⟨c94, [.t 6], 3, 15⟩
theorem m94 : mF Tryd.prog gl drD Tryd.f94 a94 = true := by kernel_rfl
theorem s94 {l : List AV} {r : AV} (hl : l.length = 3) (hi : idsL l = []) (h : wpA (SpH Tryd.prog gl) c94 (postA [.t 6] r) ⟨initE 0 l, [], []⟩) : Sp Tryd.prog gl 94 l r :=
  @fun_sp Tryd.prog gl drD 94 Tryd.f94 a94 Tryd.func94 m94 (dok _) l r hl hi h
theorem h94 {d : Nat} {I : In} {O : Out} (hl : I.vs.length = 3) (h : wpA (SpH Tryd.prog gl) c94 (postH d [.t 6] O) (inSt I)) : SpH Tryd.prog gl 94 d I O :=
  @fun_spH Tryd.prog gl drD 94 Tryd.f94 a94 Tryd.func94 m94 (dok _) d I O hl h
/-- firebell/show.between[int64] -/
def c95 : AC :=
 (.sq (.rg [.mv 6 (.c (.bool false))])
  (.sq (.rg [.mv 7 (.s 0),
   .mv 8 (.s 1),
   .bi 9 .geq (.s 7) (.s 8),
   .mv 10 (.s 9),
   .gd 10 true 11 (.mv 11 (.s 0)),
   .gd 10 true 12 (.mv 12 (.s 2)),
   .gd 10 true 13 (.bi 13 .leq (.s 11) (.s 12)),
   .pk 14 (.s 10) (.s 13) (.c (.bool false)),
   .mv 6 (.s 14)])
  .rt))
def a95 : AF := ⟨c95, [.t 6], 3, 15⟩
theorem m95 : mF Tryd.prog gl drD Tryd.f95 a95 = true := by kernel_rfl
theorem s95 {l : List AV} {r : AV} (hl : l.length = 3) (hi : idsL l = []) (h : wpA (SpH Tryd.prog gl) c95 (postA [.t 6] r) ⟨initE 0 l, [], []⟩) : Sp Tryd.prog gl 95 l r :=
  @fun_sp Tryd.prog gl drD 95 Tryd.f95 a95 Tryd.func95 m95 (dok _) l r hl hi h
theorem h95 {d : Nat} {I : In} {O : Out} (hl : I.vs.length = 3) (h : wpA (SpH Tryd.prog gl) c95 (postH d [.t 6] O) (inSt I)) : SpH Tryd.prog gl 95 d I O :=
  @fun_spH Tryd.prog gl drD 95 Tryd.f95 a95 Tryd.func95 m95 (dok _) d I O hl h
/-- firebell/show.unlike[firebell/api.Goal] -/
def c96 : AC :=
 (.sq (.rg [.mv 4 (.c (.bool false))])
  (.sq (.rg [.mkp 8,
   .mv 5 (.s 8)])
  (.sq (.sq (.rg [.mv 9 (.s 0),
   .ln 10 (.s 9),
   .mv 11 (.c (.int .i64 0))])
  (.bl 0 (.lp (.sq (.rg [.bi 12 .lss (.s 11) (.s 10)])
  (.sq (.cd (.s 12) .sk (.ex 0))
  (.sq (.bl 1 (.sq (.rg [.ia 13 8 (.s 9) (.s 11),
   .lda 14 8 (.s 13),
   .al 7 [(.str []), (.int .u32 0), (.int .i64 0), (.int .i64 0), (.int .i64 0), (.int .i64 0), .nils, .nils],
   .st 8 (.s 7) (.s 14)])
  (.rg [.mv 15 (.s 5),
   .mv 16 (.s 1),
   .lda 17 8 (.s 7),
   .cd 18 (.s 16) [(.s 17)],
   .mlk 19 .s (.i .i64 0) (.s 15) (.s 18) false,
   .bi 20 .add (.s 19) (.c (.int .i64 1)),
   .mup .s (.s 15) (.s 18) (.s 20)])))
  (.rg [.bi 21 .add (.s 11) (.c (.int .i64 1)),
   .mv 11 (.s 21)])))))))
  (.sq (.rg [.mv 22 (.s 5),
   .mpl 23 (.s 22),
   .mv 24 (.s 0),
   .ln 25 (.s 24),
   .bi 26 .eql (.s 23) (.s 25),
   .mv 4 (.s 26)])
  .rt))))
def a96 : AF := ⟨c96, [.t 4], 2, 27⟩
theorem m96 : mF Tryd.prog gl drD Tryd.f96 a96 = true := by kernel_rfl
theorem s96 {l : List AV} {r : AV} (hl : l.length = 2) (hi : idsL l = []) (h : wpA (SpH Tryd.prog gl) c96 (postA [.t 4] r) ⟨initE 0 l, [], []⟩) : Sp Tryd.prog gl 96 l r :=
  @fun_sp Tryd.prog gl drD 96 Tryd.f96 a96 Tryd.func96 m96 (dok _) l r hl hi h
theorem h96 {d : Nat} {I : In} {O : Out} (hl : I.vs.length = 2) (h : wpA (SpH Tryd.prog gl) c96 (postH d [.t 4] O) (inSt I)) : SpH Tryd.prog gl 96 d I O :=
  @fun_spH Tryd.prog gl drD 96 Tryd.f96 a96 Tryd.func96 m96 (dok _) d I O hl h
/-- firebell/show.Right$1 -/
def c97 : AC :=
 (.sq (.rg [.bx 1 (.s 0),
   .mv 2 (.c (.str []))])
  (.sq (.rg [.fa 3 (.s 1) 0,
   .lds 4 (.s 3),
   .mv 2 (.s 4)])
  .rt))
def a97 : AF := ⟨c97, [.t 2], 1, 5⟩
theorem m97 : mF Tryd.prog gl drD Tryd.f97 a97 = true := by kernel_rfl
theorem s97 {l : List AV} {r : AV} (hl : l.length = 1) (hi : idsL l = []) (h : wpA (SpH Tryd.prog gl) c97 (postA [.t 2] r) ⟨initE 0 l, [], []⟩) : Sp Tryd.prog gl 97 l r :=
  @fun_sp Tryd.prog gl drD 97 Tryd.f97 a97 Tryd.func97 m97 (dok _) l r hl hi h
theorem h97 {d : Nat} {I : In} {O : Out} (hl : I.vs.length = 1) (h : wpA (SpH Tryd.prog gl) c97 (postH d [.t 2] O) (inSt I)) : SpH Tryd.prog gl 97 d I O :=
  @fun_spH Tryd.prog gl drD 97 Tryd.f97 a97 Tryd.func97 m97 (dok _) d I O hl h
/-- firebell/change.find[firebell/api.Goal] -/
def c98 : AC :=
 (.sq (.rg [.mv 4 (.c (.int .i64 0))])
  (.sq (.rg [.mv 5 (.s 0),
   .mv 6 (.s 1),
   .ce 7 123 [(.s 5), (.s 6)],
   .mv 4 (.s 7)])
  .rt))
def a98 : AF := ⟨c98, [.t 4], 2, 8⟩
theorem m98 : mF Tryd.prog gl drD Tryd.f98 a98 = true := by kernel_rfl
theorem s98 {l : List AV} {r : AV} (hl : l.length = 2) (hi : idsL l = []) (h : wpA (SpH Tryd.prog gl) c98 (postA [.t 4] r) ⟨initE 0 l, [], []⟩) : Sp Tryd.prog gl 98 l r :=
  @fun_sp Tryd.prog gl drD 98 Tryd.f98 a98 Tryd.func98 m98 (dok _) l r hl hi h
theorem h98 {d : Nat} {I : In} {O : Out} (hl : I.vs.length = 2) (h : wpA (SpH Tryd.prog gl) c98 (postH d [.t 4] O) (inSt I)) : SpH Tryd.prog gl 98 d I O :=
  @fun_spH Tryd.prog gl drD 98 Tryd.f98 a98 Tryd.func98 m98 (dok _) d I O hl h
/-- firebell/change.goalOf$1 -/
def c99 : AC :=
 (.sq (.rg [.bx 2 (.s 0),
   .mv 3 (.c (.bool false))])
  (.sq (.rg [.fa 4 (.s 2) 0,
   .lds 5 (.s 4),
   .lds 6 (.s 1),
   .bi 7 .eql (.s 5) (.s 6),
   .mv 3 (.s 7)])
  .rt))
def a99 : AF := ⟨c99, [.t 3], 2, 8⟩
theorem m99 : mF Tryd.prog gl drD Tryd.f99 a99 = true := by kernel_rfl
theorem s99 {l : List AV} {r : AV} (hl : l.length = 2) (hi : idsL l = []) (h : wpA (SpH Tryd.prog gl) c99 (postA [.t 3] r) ⟨initE 0 l, [], []⟩) : Sp Tryd.prog gl 99 l r :=
  @fun_sp Tryd.prog gl drD 99 Tryd.f99 a99 Tryd.func99 m99 (dok _) l r hl hi h
theorem h99 {d : Nat} {I : In} {O : Out} (hl : I.vs.length = 2) (h : wpA (SpH Tryd.prog gl) c99 (postH d [.t 3] O) (inSt I)) : SpH Tryd.prog gl 99 d I O :=
  @fun_spH Tryd.prog gl drD 99 Tryd.f99 a99 Tryd.func99 m99 (dok _) d I O hl h
/-- firebell/change.stays -/
def c100 : AC :=
 (.sq (.rg [.bx 2 (.s 0),
   .bx 3 (.s 1),
   .mv 4 (.c (.bool false))])
  (.sq (.rd [[], [], [], [], [], [], [], [], [], [], [], [], [], [], [], [], [], [], [], []] [.fa 5 (.s 2) 2,
   .lds 6 (.s 5),
   .fa 7 (.s 3) 2,
   .lds 8 (.s 7),
   .bi 9 .eql (.s 6) (.s 8),
   .mv 10 (.s 9),
   .gd 10 true 11 (.fa 11 (.s 2) 5),
   .gd 10 true 12 (.lds 12 (.s 11)),
   .gd 10 true 13 (.fa 13 (.s 3) 5),
   .gd 10 true 14 (.lds 14 (.s 13)),
   .gd 10 true 15 (.bi 15 .eql (.s 12) (.s 14)),
   .pk 16 (.s 10) (.s 15) (.c (.bool false)),
   .mv 17 (.s 16),
   .gd 17 true 18 (.lda 18 8 (.s 2)),
   .gd 17 true 19 (.cl 19 25 [(.s 18)]),
   .gd 17 true 20 (.lda 20 8 (.s 3)),
   .gd 17 true 21 (.cl 21 25 [(.s 20)]),
   .gd 17 true 22 (.cl 22 124 [(.s 19), (.s 21)]),
   .pk 23 (.s 17) (.s 22) (.c (.bool false)),
   .mv 4 (.s 23)])
  .rt))
def a100 : AF := ⟨c100, [.t 4], 2, 24⟩
theorem m100 : mF Tryd.prog gl drD Tryd.f100 a100 = true := by kernel_rfl
theorem s100 {l : List AV} {r : AV} (hl : l.length = 2) (hi : idsL l = []) (h : wpA (SpH Tryd.prog gl) c100 (postA [.t 4] r) ⟨initE 0 l, [], []⟩) : Sp Tryd.prog gl 100 l r :=
  @fun_sp Tryd.prog gl drD 100 Tryd.f100 a100 Tryd.func100 m100 (dok _) l r hl hi h
theorem h100 {d : Nat} {I : In} {O : Out} (hl : I.vs.length = 2) (h : wpA (SpH Tryd.prog gl) c100 (postH d [.t 4] O) (inSt I)) : SpH Tryd.prog gl 100 d I O :=
  @fun_spH Tryd.prog gl drD 100 Tryd.f100 a100 Tryd.func100 m100 (dok _) d I O hl h
/-- firebell/change.kind -/
def c101 : AC :=
 (.sq (.rg [.mv 4 (.c (.int .i64 0))])
  (.sq (.bl 0 (.sq (.rg [.mv 6 (.s 0),
   .un 7 .not (.s 6),
   .mv 5 (.s 7)])
  (.cd (.s 5) (.sq (.rg [.mv 4 (.c (.int .i64 1))])
  .rt) (.sq (.rg [.mv 9 (.s 1),
   .mv 8 (.s 9)])
  (.cd (.s 8) (.sq (.rg [.mv 4 (.c (.int .i64 2))])
  .rt) .sk)))))
  (.sq (.rg [.mv 4 (.c (.int .i64 3))])
  .rt)))
def a101 : AF := ⟨c101, [.t 4], 2, 10⟩
theorem m101 : mF Tryd.prog gl drD Tryd.f101 a101 = true := by kernel_rfl
theorem s101 {l : List AV} {r : AV} (hl : l.length = 2) (hi : idsL l = []) (h : wpA (SpH Tryd.prog gl) c101 (postA [.t 4] r) ⟨initE 0 l, [], []⟩) : Sp Tryd.prog gl 101 l r :=
  @fun_sp Tryd.prog gl drD 101 Tryd.f101 a101 Tryd.func101 m101 (dok _) l r hl hi h
theorem h101 {d : Nat} {I : In} {O : Out} (hl : I.vs.length = 2) (h : wpA (SpH Tryd.prog gl) c101 (postH d [.t 4] O) (inSt I)) : SpH Tryd.prog gl 101 d I O :=
  @fun_spH Tryd.prog gl drD 101 Tryd.f101 a101 Tryd.func101 m101 (dok _) d I O hl h
/-- firebell/change.ruleOf -/
def c102 : AC :=
 (.sq (.rg [.bx 2 (.s 0),
   .bx 3 (.s 1),
   .al 4 [(.str []), (.bool false), (.int .i64 0), (.int .i64 0), (.int .u64 0), (.int .i64 0), (.int .i64 0)],
   .mv 5 (.c (.bool false))])
  (.sq (.rg [.fa 7 (.s 2) 7,
   .lds 8 (.s 7),
   .mf 9 126 [(.s 3)],
   .ce 10 125 [(.s 8), (.s 9)],
   .mv 6 (.s 10)])
  (.sq (.sq (.rg [.mv 11 (.s 6),
   .bi 12 .lss (.s 11) (.c (.int .i64 0))])
  (.cd (.s 12) (.sq (.rg [.bd 13 [(.str []), (.bool false), (.int .i64 0), (.int .i64 0), (.int .u64 0), (.int .i64 0), (.int .i64 0)] [],
   .st 7 (.s 4) (.s 13),
   .mv 5 (.c (.bool false))])
  .rt) .sk))
  (.sq (.rg [.fa 14 (.s 2) 7,
   .lds 15 (.s 14),
   .mv 16 (.s 6),
   .ia 17 7 (.s 15) (.s 16),
   .lda 18 7 (.s 17),
   .st 7 (.s 4) (.s 18),
   .mv 5 (.c (.bool true))])
  .rt))))
def a102 : AF := ⟨c102, [.ca 4 7, .t 5], 2, 19⟩
theorem m102 : mF Tryd.prog gl drD Tryd.f102 a102 = true := by kernel_rfl
theorem s102 {l : List AV} {r : AV} (hl : l.length = 2) (hi : idsL l = []) (h : wpA (SpH Tryd.prog gl) c102 (postA [.ca 4 7, .t 5] r) ⟨initE 0 l, [], []⟩) : Sp Tryd.prog gl 102 l r :=
  @fun_sp Tryd.prog gl drD 102 Tryd.f102 a102 Tryd.func102 m102 (dok _) l r hl hi h
theorem h102 {d : Nat} {I : In} {O : Out} (hl : I.vs.length = 2) (h : wpA (SpH Tryd.prog gl) c102 (postH d [.ca 4 7, .t 5] O) (inSt I)) : SpH Tryd.prog gl 102 d I O :=
  @fun_spH Tryd.prog gl drD 102 Tryd.f102 a102 Tryd.func102 m102 (dok _) d I O hl h
/-- slices.IndexFunc[[]firebell/api.Turn,firebell/api.Turn] -/
def c105 : AC :=
 (.sq (.rg [.mv 4 (.c (.int .i64 0))])
  (.sq (.sq (.rg [.mv 6 (.s 0),
   .ln 7 (.s 6),
   .mv 8 (.c (.int .i64 0))])
  (.bl 0 (.lp (.sq (.rg [.bi 9 .lss (.s 8) (.s 7)])
  (.sq (.cd (.s 9) .sk (.ex 0))
  (.sq (.bl 1 (.sq (.rg [.mv 10 (.s 8),
   .mv 5 (.s 10)])
  (.sq (.rg [.mv 11 (.s 1),
   .mv 12 (.s 0),
   .mv 13 (.s 5),
   .ia 14 3 (.s 12) (.s 13),
   .lda 15 3 (.s 14),
   .cd 16 (.s 11) [(.s 15)]])
  (.cd (.s 16) (.sq (.rg [.mv 17 (.s 5),
   .mv 4 (.s 17)])
  .rt) .sk))))
  (.rg [.bi 18 .add (.s 8) (.c (.int .i64 1)),
   .mv 8 (.s 18)])))))))
  (.sq (.rg [.mv 4 (.c (.int .i64 (-1)))])
  .rt)))
def a105 : AF := ⟨c105, [.t 4], 2, 19⟩
theorem m105 : mF Tryd.prog gl drD Tryd.f105 a105 = true := by kernel_rfl
theorem s105 {l : List AV} {r : AV} (hl : l.length = 2) (hi : idsL l = []) (h : wpA (SpH Tryd.prog gl) c105 (postA [.t 4] r) ⟨initE 0 l, [], []⟩) : Sp Tryd.prog gl 105 l r :=
  @fun_sp Tryd.prog gl drD 105 Tryd.f105 a105 Tryd.func105 m105 (dok _) l r hl hi h
theorem h105 {d : Nat} {I : In} {O : Out} (hl : I.vs.length = 2) (h : wpA (SpH Tryd.prog gl) c105 (postH d [.t 4] O) (inSt I)) : SpH Tryd.prog gl 105 d I O :=
  @fun_spH Tryd.prog gl drD 105 Tryd.f105 a105 Tryd.func105 m105 (dok _) d I O hl h
/-- firebell/text.Letter -/
def c118 : AC :=
 (.sq (.rg [.mv 2 (.c (.bool false))])
  (.sq (.bl 0 (.sq (.rg [.mv 4 (.s 0),
   .bi 5 .geq (.s 4) (.c (.int .i32 97)),
   .mv 6 (.s 5),
   .gd 6 true 7 (.mv 7 (.s 0)),
   .gd 6 true 8 (.bi 8 .leq (.s 7) (.c (.int .i32 122))),
   .pk 9 (.s 6) (.s 8) (.c (.bool false)),
   .mv 10 (.s 9),
   .gd 10 false 11 (.mv 11 (.s 0)),
   .gd 10 false 12 (.bi 12 .geq (.s 11) (.c (.int .i32 65))),
   .gd 10 false 13 (.mv 13 (.s 12)),
   .gd 13 true 14 (.mv 14 (.s 0)),
   .gd 13 true 15 (.bi 15 .leq (.s 14) (.c (.int .i32 90))),
   .gd 10 false 16 (.pk 16 (.s 13) (.s 15) (.c (.bool false))),
   .pk 17 (.s 10) (.c (.bool true)) (.s 16),
   .mv 3 (.s 17)])
  (.cd (.s 3) (.sq (.rg [.mv 2 (.c (.bool true))])
  .rt) (.sq (.rg [.mv 19 (.s 0),
   .bi 20 .eql (.s 19) (.c (.int .i32 215)),
   .mv 21 (.s 20),
   .gd 21 false 22 (.mv 22 (.s 0)),
   .gd 21 false 23 (.bi 23 .eql (.s 22) (.c (.int .i32 247))),
   .pk 24 (.s 21) (.c (.bool true)) (.s 23),
   .mv 18 (.s 24)])
  (.cd (.s 18) (.sq (.rg [.mv 2 (.c (.bool false))])
  .rt) (.sq (.rg [.mv 26 (.s 0),
   .bi 27 .geq (.s 26) (.c (.int .i32 192)),
   .mv 28 (.s 27),
   .gd 28 true 29 (.mv 29 (.s 0)),
   .gd 28 true 30 (.bi 30 .leq (.s 29) (.c (.int .i32 591))),
   .pk 31 (.s 28) (.s 30) (.c (.bool false)),
   .mv 25 (.s 31)])
  (.cd (.s 25) (.sq (.rg [.mv 2 (.c (.bool true))])
  .rt) .sk)))))))
  (.sq (.rg [.mv 32 (.s 0),
   .bi 33 .geq (.s 32) (.c (.int .i32 880)),
   .mv 34 (.s 33),
   .gd 34 true 35 (.mv 35 (.s 0)),
   .gd 34 true 36 (.bi 36 .leq (.s 35) (.c (.int .i32 1279))),
   .pk 37 (.s 34) (.s 36) (.c (.bool false)),
   .mv 2 (.s 37)])
  .rt)))
def a118 : AF := ⟨c118, [.t 2], 1, 38⟩
theorem m118 : mF Tryd.prog gl drD Tryd.f118 a118 = true := by kernel_rfl
theorem s118 {l : List AV} {r : AV} (hl : l.length = 1) (hi : idsL l = []) (h : wpA (SpH Tryd.prog gl) c118 (postA [.t 2] r) ⟨initE 0 l, [], []⟩) : Sp Tryd.prog gl 118 l r :=
  @fun_sp Tryd.prog gl drD 118 Tryd.f118 a118 Tryd.func118 m118 (dok _) l r hl hi h
theorem h118 {d : Nat} {I : In} {O : Out} (hl : I.vs.length = 1) (h : wpA (SpH Tryd.prog gl) c118 (postH d [.t 2] O) (inSt I)) : SpH Tryd.prog gl 118 d I O :=
  @fun_spH Tryd.prog gl drD 118 Tryd.f118 a118 Tryd.func118 m118 (dok _) d I O hl h
/-- firebell/text.digit -/
def c119 : AC :=
 (.sq (.rg [.mv 2 (.c (.bool false))])
  (.sq (.rg [.mv 3 (.s 0),
   .bi 4 .geq (.s 3) (.c (.int .i32 48)),
   .mv 5 (.s 4),
   .gd 5 true 6 (.mv 6 (.s 0)),
   .gd 5 true 7 (.bi 7 .leq (.s 6) (.c (.int .i32 57))),
   .pk 8 (.s 5) (.s 7) (.c (.bool false)),
   .mv 2 (.s 8)])
  .rt))
def a119 : AF := ⟨c119, [.t 2], 1, 9⟩
theorem m119 : mF Tryd.prog gl drD Tryd.f119 a119 = true := by kernel_rfl
theorem s119 {l : List AV} {r : AV} (hl : l.length = 1) (hi : idsL l = []) (h : wpA (SpH Tryd.prog gl) c119 (postA [.t 2] r) ⟨initE 0 l, [], []⟩) : Sp Tryd.prog gl 119 l r :=
  @fun_sp Tryd.prog gl drD 119 Tryd.f119 a119 Tryd.func119 m119 (dok _) l r hl hi h
theorem h119 {d : Nat} {I : In} {O : Out} (hl : I.vs.length = 1) (h : wpA (SpH Tryd.prog gl) c119 (postH d [.t 2] O) (inSt I)) : SpH Tryd.prog gl 119 d I O :=
  @fun_spH Tryd.prog gl drD 119 Tryd.f119 a119 Tryd.func119 m119 (dok _) d I O hl h
/-- firebell/show.between[uint32] -/
def c120 : AC :=
 (.sq (.rg [.mv 6 (.c (.bool false))])
  (.sq (.rg [.mv 7 (.s 0),
   .mv 8 (.s 1),
   .bi 9 .geq (.s 7) (.s 8),
   .mv 10 (.s 9),
   .gd 10 true 11 (.mv 11 (.s 0)),
   .gd 10 true 12 (.mv 12 (.s 2)),
   .gd 10 true 13 (.bi 13 .leq (.s 11) (.s 12)),
   .pk 14 (.s 10) (.s 13) (.c (.bool false)),
   .mv 6 (.s 14)])
  .rt))
def a120 : AF := ⟨c120, [.t 6], 3, 15⟩
theorem m120 : mF Tryd.prog gl drD Tryd.f120 a120 = true := by kernel_rfl
theorem s120 {l : List AV} {r : AV} (hl : l.length = 3) (hi : idsL l = []) (h : wpA (SpH Tryd.prog gl) c120 (postA [.t 6] r) ⟨initE 0 l, [], []⟩) : Sp Tryd.prog gl 120 l r :=
  @fun_sp Tryd.prog gl drD 120 Tryd.f120 a120 Tryd.func120 m120 (dok _) l r hl hi h
theorem h120 {d : Nat} {I : In} {O : Out} (hl : I.vs.length = 3) (h : wpA (SpH Tryd.prog gl) c120 (postH d [.t 6] O) (inSt I)) : SpH Tryd.prog gl 120 d I O :=
  @fun_spH Tryd.prog gl drD 120 Tryd.f120 a120 Tryd.func120 m120 (dok _) d I O hl h
/-- firebell/show.labels -/
def c121 : AC :=
 (.sq (.rg [.mv 2 (.c (.bool false))])
  (.sq (.sq (.rg [.mv 5 (.s 0),
   .ln 6 (.s 5),
   .mv 7 (.c (.int .i64 0))])
  (.bl 0 (.lp (.sq (.rg [.bi 8 .lss (.s 7) (.s 6)])
  (.sq (.cd (.s 8) .sk (.ex 0))
  (.sq (.bl 1 (.sq (.rg [.ia 9 2 (.s 5) (.s 7),
   .lda 10 2 (.s 9),
   .al 4 [(.str []), (.str [])],
   .st 2 (.s 4) (.s 10)])
  (.sq (.rg [.fa 11 (.s 4) 0,
   .lds 12 (.s 11),
   .cl 13 88 [(.s 12)],
   .un 14 .not (.s 13),
   .mv 15 (.s 14),
   .gd 15 false 16 (.fa 16 (.s 4) 1),
   .gd 15 false 17 (.lds 17 (.s 16)),
   .gd 15 false 18 (.cl 18 160 [(.s 17)]),
   .gd 15 false 19 (.un 19 .not (.s 18)),
   .pk 20 (.s 15) (.c (.bool true)) (.s 19),
   .mv 21 (.s 20),
   .gd 21 false 22 (.fa 22 (.s 4) 1),
   .gd 21 false 23 (.lds 23 (.s 22)),
   .gd 21 false 24 (.cl 24 161 [(.s 23)]),
   .gd 21 false 25 (.bi 25 .gtr (.s 24) (.c (.int .i64 120))),
   .pk 26 (.s 21) (.c (.bool true)) (.s 25)])
  (.cd (.s 26) (.sq (.rg [.mv 2 (.c (.bool false))])
  .rt) .sk))))
  (.rg [.bi 27 .add (.s 7) (.c (.int .i64 1)),
   .mv 7 (.s 27)])))))))
  (.sq (.rg [.mv 28 (.s 0),
   .ln 29 (.s 28),
   .bi 30 .leq (.s 29) (.c (.int .i64 4)),
   .mv 31 (.s 30),
   .gd 31 true 32 (.mv 32 (.s 0)),
   .gd 31 true 33 (.ce 33 162 [(.s 32), (.c (.fn 163 []))]),
   .pk 34 (.s 31) (.s 33) (.c (.bool false)),
   .mv 2 (.s 34)])
  .rt)))
def a121 : AF := ⟨c121, [.t 2], 1, 35⟩
theorem m121 : mF Tryd.prog gl drD Tryd.f121 a121 = true := by kernel_rfl
theorem s121 {l : List AV} {r : AV} (hl : l.length = 1) (hi : idsL l = []) (h : wpA (SpH Tryd.prog gl) c121 (postA [.t 2] r) ⟨initE 0 l, [], []⟩) : Sp Tryd.prog gl 121 l r :=
  @fun_sp Tryd.prog gl drD 121 Tryd.f121 a121 Tryd.func121 m121 (dok _) l r hl hi h
theorem h121 {d : Nat} {I : In} {O : Out} (hl : I.vs.length = 1) (h : wpA (SpH Tryd.prog gl) c121 (postH d [.t 2] O) (inSt I)) : SpH Tryd.prog gl 121 d I O :=
  @fun_spH Tryd.prog gl drD 121 Tryd.f121 a121 Tryd.func121 m121 (dok _) d I O hl h
/-- firebell/show.rules -/
def c122 : AC :=
 (.sq (.rg [.mv 4 (.c (.bool false))])
  (.sq (.sq (.rg [.mv 7 (.s 0),
   .ln 8 (.s 7),
   .mv 9 (.c (.int .i64 0))])
  (.bl 0 (.lp (.sq (.rg [.bi 10 .lss (.s 9) (.s 8)])
  (.sq (.cd (.s 10) .sk (.ex 0))
  (.sq (.bl 1 (.sq (.rg [.ia 11 7 (.s 7) (.s 9),
   .lda 12 7 (.s 11),
   .al 6 [(.str []), (.bool false), (.int .i64 0), (.int .i64 0), (.int .u64 0), (.int .i64 0), (.int .i64 0)],
   .st 7 (.s 6) (.s 12)])
  (.sq (.rg [.lda 13 7 (.s 6),
   .mv 14 (.s 1),
   .cl 15 164 [(.s 13), (.s 14)],
   .un 16 .not (.s 15)])
  (.cd (.s 16) (.sq (.rg [.mv 4 (.c (.bool false))])
  .rt) .sk))))
  (.rg [.bi 17 .add (.s 9) (.c (.int .i64 1)),
   .mv 9 (.s 17)])))))))
  (.sq (.rg [.mv 18 (.s 0),
   .ln 19 (.s 18),
   .cl 20 94 [(.s 19), (.c (.int .i64 1)), (.c (.int .i64 4))],
   .mv 21 (.s 20),
   .gd 21 true 22 (.mv 22 (.s 0)),
   .gd 21 true 23 (.ce 23 165 [(.s 22), (.c (.fn 166 []))]),
   .pk 24 (.s 21) (.s 23) (.c (.bool false)),
   .mv 4 (.s 24)])
  .rt)))
def a122 : AF := ⟨c122, [.t 4], 2, 25⟩
theorem m122 : mF Tryd.prog gl drD Tryd.f122 a122 = true := by kernel_rfl
theorem s122 {l : List AV} {r : AV} (hl : l.length = 2) (hi : idsL l = []) (h : wpA (SpH Tryd.prog gl) c122 (postA [.t 4] r) ⟨initE 0 l, [], []⟩) : Sp Tryd.prog gl 122 l r :=
  @fun_sp Tryd.prog gl drD 122 Tryd.f122 a122 Tryd.func122 m122 (dok _) l r hl hi h
theorem h122 {d : Nat} {I : In} {O : Out} (hl : I.vs.length = 2) (h : wpA (SpH Tryd.prog gl) c122 (postH d [.t 4] O) (inSt I)) : SpH Tryd.prog gl 122 d I O :=
  @fun_spH Tryd.prog gl drD 122 Tryd.f122 a122 Tryd.func122 m122 (dok _) d I O hl h
/-- slices.IndexFunc[[]firebell/api.Goal,firebell/api.Goal] -/
def c123 : AC :=
 (.sq (.rg [.mv 4 (.c (.int .i64 0))])
  (.sq (.sq (.rg [.mv 6 (.s 0),
   .ln 7 (.s 6),
   .mv 8 (.c (.int .i64 0))])
  (.bl 0 (.lp (.sq (.rg [.bi 9 .lss (.s 8) (.s 7)])
  (.sq (.cd (.s 9) .sk (.ex 0))
  (.sq (.bl 1 (.sq (.rg [.mv 10 (.s 8),
   .mv 5 (.s 10)])
  (.sq (.rg [.mv 11 (.s 1),
   .mv 12 (.s 0),
   .mv 13 (.s 5),
   .ia 14 8 (.s 12) (.s 13),
   .lda 15 8 (.s 14),
   .cd 16 (.s 11) [(.s 15)]])
  (.cd (.s 16) (.sq (.rg [.mv 17 (.s 5),
   .mv 4 (.s 17)])
  .rt) .sk))))
  (.rg [.bi 18 .add (.s 8) (.c (.int .i64 1)),
   .mv 8 (.s 18)])))))))
  (.sq (.rg [.mv 4 (.c (.int .i64 (-1)))])
  .rt)))
def a123 : AF := ⟨c123, [.t 4], 2, 19⟩
theorem m123 : mF Tryd.prog gl drD Tryd.f123 a123 = true := by kernel_rfl
theorem s123 {l : List AV} {r : AV} (hl : l.length = 2) (hi : idsL l = []) (h : wpA (SpH Tryd.prog gl) c123 (postA [.t 4] r) ⟨initE 0 l, [], []⟩) : Sp Tryd.prog gl 123 l r :=
  @fun_sp Tryd.prog gl drD 123 Tryd.f123 a123 Tryd.func123 m123 (dok _) l r hl hi h
theorem h123 {d : Nat} {I : In} {O : Out} (hl : I.vs.length = 2) (h : wpA (SpH Tryd.prog gl) c123 (postH d [.t 4] O) (inSt I)) : SpH Tryd.prog gl 123 d I O :=
  @fun_spH Tryd.prog gl drD 123 Tryd.f123 a123 Tryd.func123 m123 (dok _) d I O hl h
/-- slices.Equal[[]int64,int64] -/
def c124 : AC :=
 (.sq (.rg [.mv 4 (.c (.bool false))])
  (.sq (.sq (.rg [.mv 6 (.s 0),
   .ln 7 (.s 6),
   .mv 8 (.s 1),
   .ln 9 (.s 8),
   .bi 10 .neq (.s 7) (.s 9)])
  (.cd (.s 10) (.sq (.rg [.mv 4 (.c (.bool false))])
  .rt) .sk))
  (.sq (.sq (.rg [.mv 11 (.s 0),
   .ln 12 (.s 11),
   .mv 13 (.c (.int .i64 0))])
  (.bl 0 (.lp (.sq (.rg [.bi 14 .lss (.s 13) (.s 12)])
  (.sq (.cd (.s 14) .sk (.ex 0))
  (.sq (.bl 1 (.sq (.rg [.mv 15 (.s 13),
   .mv 5 (.s 15)])
  (.sq (.rd [[], [], [], [], [], [], [], [], []] [.mv 16 (.s 0),
   .mv 17 (.s 5),
   .ia 18 1 (.s 16) (.s 17),
   .lds 19 (.s 18),
   .mv 20 (.s 1),
   .mv 21 (.s 5),
   .ia 22 1 (.s 20) (.s 21),
   .lds 23 (.s 22),
   .bi 24 .neq (.s 19) (.s 23)])
  (.cd (.s 24) (.sq (.rg [.mv 4 (.c (.bool false))])
  .rt) .sk))))
  (.rg [.bi 25 .add (.s 13) (.c (.int .i64 1)),
   .mv 13 (.s 25)])))))))
  (.sq (.rg [.mv 4 (.c (.bool true))])
  .rt))))
def a124 : AF := ⟨c124, [.t 4], 2, 26⟩
theorem m124 : mF Tryd.prog gl drD Tryd.f124 a124 = true := by kernel_rfl
theorem s124 {l : List AV} {r : AV} (hl : l.length = 2) (hi : idsL l = []) (h : wpA (SpH Tryd.prog gl) c124 (postA [.t 4] r) ⟨initE 0 l, [], []⟩) : Sp Tryd.prog gl 124 l r :=
  @fun_sp Tryd.prog gl drD 124 Tryd.f124 a124 Tryd.func124 m124 (dok _) l r hl hi h
theorem h124 {d : Nat} {I : In} {O : Out} (hl : I.vs.length = 2) (h : wpA (SpH Tryd.prog gl) c124 (postH d [.t 4] O) (inSt I)) : SpH Tryd.prog gl 124 d I O :=
  @fun_spH Tryd.prog gl drD 124 Tryd.f124 a124 Tryd.func124 m124 (dok _) d I O hl h
/-- firebell/change.find[firebell/api.Rule] -/
def c125 : AC :=
 (.sq (.rg [.mv 4 (.c (.int .i64 0))])
  (.sq (.rg [.mv 5 (.s 0),
   .mv 6 (.s 1),
   .ce 7 167 [(.s 5), (.s 6)],
   .mv 4 (.s 7)])
  .rt))
def a125 : AF := ⟨c125, [.t 4], 2, 8⟩
theorem m125 : mF Tryd.prog gl drD Tryd.f125 a125 = true := by kernel_rfl
theorem s125 {l : List AV} {r : AV} (hl : l.length = 2) (hi : idsL l = []) (h : wpA (SpH Tryd.prog gl) c125 (postA [.t 4] r) ⟨initE 0 l, [], []⟩) : Sp Tryd.prog gl 125 l r :=
  @fun_sp Tryd.prog gl drD 125 Tryd.f125 a125 Tryd.func125 m125 (dok _) l r hl hi h
theorem h125 {d : Nat} {I : In} {O : Out} (hl : I.vs.length = 2) (h : wpA (SpH Tryd.prog gl) c125 (postH d [.t 4] O) (inSt I)) : SpH Tryd.prog gl 125 d I O :=
  @fun_spH Tryd.prog gl drD 125 Tryd.f125 a125 Tryd.func125 m125 (dok _) d I O hl h
/-- firebell/change.ruleOf$1 -/
def c126 : AC :=
 (.sq (.rg [.bx 2 (.s 0),
   .mv 3 (.c (.bool false))])
  (.sq (.rg [.fa 4 (.s 2) 0,
   .lds 5 (.s 4),
   .lds 6 (.s 1),
   .bi 7 .eql (.s 5) (.s 6),
   .mv 3 (.s 7)])
  .rt))
def a126 : AF := ⟨c126, [.t 3], 2, 8⟩
theorem m126 : mF Tryd.prog gl drD Tryd.f126 a126 = true := by kernel_rfl
theorem s126 {l : List AV} {r : AV} (hl : l.length = 2) (hi : idsL l = []) (h : wpA (SpH Tryd.prog gl) c126 (postA [.t 3] r) ⟨initE 0 l, [], []⟩) : Sp Tryd.prog gl 126 l r :=
  @fun_sp Tryd.prog gl drD 126 Tryd.f126 a126 Tryd.func126 m126 (dok _) l r hl hi h
theorem h126 {d : Nat} {I : In} {O : Out} (hl : I.vs.length = 2) (h : wpA (SpH Tryd.prog gl) c126 (postH d [.t 3] O) (inSt I)) : SpH Tryd.prog gl 126 d I O :=
  @fun_spH Tryd.prog gl drD 126 Tryd.f126 a126 Tryd.func126 m126 (dok _) d I O hl h
/-- slices.insertionSortOrdered[int64] -/
def c127 : AC :=
 (.sq (.rg [.mv 8 (.s 1),
   .bi 9 .add (.s 8) (.c (.int .i64 1)),
   .mv 6 (.s 9)])
  (.bl 0 (.lp (.sq (.sq (.rg [.mv 10 (.s 6),
   .mv 11 (.s 2),
   .bi 12 .lss (.s 10) (.s 11)])
  (.cd (.s 12) .sk (.ex 0)))
  (.sq (.bl 1 (.sq (.rg [.mv 15 (.s 6),
   .mv 7 (.s 15)])
  (.bl 2 (.lp (.sq (.sq (.rd [[], [], [], [], [], [], [], [], [], [], [], [], [], [], []] [.mv 16 (.s 7),
   .mv 17 (.s 1),
   .bi 18 .gtr (.s 16) (.s 17),
   .mv 19 (.s 18),
   .gd 19 true 20 (.mv 20 (.s 0)),
   .gd 19 true 21 (.mv 21 (.s 7)),
   .gd 19 true 22 (.ia 22 1 (.s 20) (.s 21)),
   .gd 19 true 23 (.lds 23 (.s 22)),
   .gd 19 true 24 (.mv 24 (.s 0)),
   .gd 19 true 25 (.mv 25 (.s 7)),
   .gd 19 true 26 (.bi 26 .sub (.s 25) (.c (.int .i64 1))),
   .gd 19 true 27 (.ia 27 1 (.s 24) (.s 26)),
   .gd 19 true 28 (.lds 28 (.s 27)),
   .gd 19 true 29 (.cl 29 133 [(.s 23), (.s 28)]),
   .pk 30 (.s 19) (.s 29) (.c (.bool false))])
  (.cd (.s 30) .sk (.ex 2)))
  (.sq (.bl 3 (.rd [[], [], [], [], [], [], [], [], [], [], [], [], [], [], [], [], [], []] [.mv 33 (.s 0),
   .mv 34 (.s 7),
   .mv 35 (.s 0),
   .mv 36 (.s 7),
   .bi 37 .sub (.s 36) (.c (.int .i64 1)),
   .mv 38 (.s 0),
   .mv 39 (.s 7),
   .bi 40 .sub (.s 39) (.c (.int .i64 1)),
   .ia 41 1 (.s 38) (.s 40),
   .lds 42 (.s 41),
   .mv 43 (.s 0),
   .mv 44 (.s 7),
   .ia 45 1 (.s 43) (.s 44),
   .lds 46 (.s 45),
   .ia 47 1 (.s 33) (.s 34),
   .st 1 (.s 47) (.s 42),
   .ia 48 1 (.s 35) (.s 37),
   .st 1 (.s 48) (.s 46)]))
  (.rg [.mv 31 (.s 7),
   .bi 32 .sub (.s 31) (.c (.int .i64 1)),
   .mv 7 (.s 32)])))))))
  (.rg [.mv 13 (.s 6),
   .bi 14 .add (.s 13) (.c (.int .i64 1)),
   .mv 6 (.s 14)]))))))
def a127 : AF := ⟨c127, [], 3, 49⟩
theorem m127 : mF Tryd.prog gl drD Tryd.f127 a127 = true := by kernel_rfl
theorem s127 {l : List AV} {r : AV} (hl : l.length = 3) (hi : idsL l = []) (h : wpA (SpH Tryd.prog gl) c127 (postA [] r) ⟨initE 0 l, [], []⟩) : Sp Tryd.prog gl 127 l r :=
  @fun_sp Tryd.prog gl drD 127 Tryd.f127 a127 Tryd.func127 m127 (dok _) l r hl hi h
theorem h127 {d : Nat} {I : In} {O : Out} (hl : I.vs.length = 3) (h : wpA (SpH Tryd.prog gl) c127 (postH d [] O) (inSt I)) : SpH Tryd.prog gl 127 d I O :=
  @fun_spH Tryd.prog gl drD 127 Tryd.f127 a127 Tryd.func127 m127 (dok _) d I O hl h
/-- slices.IndexFunc[[]firebell/api.Message,firebell/api.Message] -/
def c138 : AC :=
 (.sq (.rg [.mv 4 (.c (.int .i64 0))])
  (.sq (.sq (.rg [.mv 6 (.s 0),
   .ln 7 (.s 6),
   .mv 8 (.c (.int .i64 0))])
  (.bl 0 (.lp (.sq (.rg [.bi 9 .lss (.s 8) (.s 7)])
  (.sq (.cd (.s 9) .sk (.ex 0))
  (.sq (.bl 1 (.sq (.rg [.mv 10 (.s 8),
   .mv 5 (.s 10)])
  (.sq (.rg [.mv 11 (.s 1),
   .mv 12 (.s 0),
   .mv 13 (.s 5),
   .ia 14 3 (.s 12) (.s 13),
   .lda 15 3 (.s 14),
   .cd 16 (.s 11) [(.s 15)]])
  (.cd (.s 16) (.sq (.rg [.mv 17 (.s 5),
   .mv 4 (.s 17)])
  .rt) .sk))))
  (.rg [.bi 18 .add (.s 8) (.c (.int .i64 1)),
   .mv 8 (.s 18)])))))))
  (.sq (.rg [.mv 4 (.c (.int .i64 (-1)))])
  .rt)))
def a138 : AF := ⟨c138, [.t 4], 2, 19⟩
theorem m138 : mF Tryd.prog gl drD Tryd.f138 a138 = true := by kernel_rfl
theorem s138 {l : List AV} {r : AV} (hl : l.length = 2) (hi : idsL l = []) (h : wpA (SpH Tryd.prog gl) c138 (postA [.t 4] r) ⟨initE 0 l, [], []⟩) : Sp Tryd.prog gl 138 l r :=
  @fun_sp Tryd.prog gl drD 138 Tryd.f138 a138 Tryd.func138 m138 (dok _) l r hl hi h
theorem h138 {d : Nat} {I : In} {O : Out} (hl : I.vs.length = 2) (h : wpA (SpH Tryd.prog gl) c138 (postH d [.t 4] O) (inSt I)) : SpH Tryd.prog gl 138 d I O :=
  @fun_spH Tryd.prog gl drD 138 Tryd.f138 a138 Tryd.func138 m138 (dok _) d I O hl h
/-- firebell/bundle.group$1 -/
def c139 : AC :=
 (.sq (.rg [.bx 2 (.s 0),
   .mv 3 (.c (.bool false))])
  (.sq (.rg [.lda 4 3 (.s 2),
   .lda 5 5 (.s 1),
   .cl 6 140 [(.s 4), (.s 5)],
   .mv 3 (.s 6)])
  .rt))
def a139 : AF := ⟨c139, [.t 3], 2, 7⟩
theorem m139 : mF Tryd.prog gl drD Tryd.f139 a139 = true := by kernel_rfl
theorem s139 {l : List AV} {r : AV} (hl : l.length = 2) (hi : idsL l = []) (h : wpA (SpH Tryd.prog gl) c139 (postA [.t 3] r) ⟨initE 0 l, [], []⟩) : Sp Tryd.prog gl 139 l r :=
  @fun_sp Tryd.prog gl drD 139 Tryd.f139 a139 Tryd.func139 m139 (dok _) l r hl hi h
theorem h139 {d : Nat} {I : In} {O : Out} (hl : I.vs.length = 2) (h : wpA (SpH Tryd.prog gl) c139 (postH d [.t 3] O) (inSt I)) : SpH Tryd.prog gl 139 d I O :=
  @fun_spH Tryd.prog gl drD 139 Tryd.f139 a139 Tryd.func139 m139 (dok _) d I O hl h
/-- firebell/text.Good -/
def c160 : AC :=
 (.sq (.rg [.mv 2 (.c (.bool false))])
  (.sq (.rg [.mv 3 (.s 0),
   .cl 4 188 [(.s 3)],
   .mv 2 (.s 4)])
  .rt))
def a160 : AF := ⟨c160, [.t 2], 1, 5⟩
theorem m160 : mF Tryd.prog gl drD Tryd.f160 a160 = true := by kernel_rfl
theorem s160 {l : List AV} {r : AV} (hl : l.length = 1) (hi : idsL l = []) (h : wpA (SpH Tryd.prog gl) c160 (postA [.t 2] r) ⟨initE 0 l, [], []⟩) : Sp Tryd.prog gl 160 l r :=
  @fun_sp Tryd.prog gl drD 160 Tryd.f160 a160 Tryd.func160 m160 (dok _) l r hl hi h
theorem h160 {d : Nat} {I : In} {O : Out} (hl : I.vs.length = 1) (h : wpA (SpH Tryd.prog gl) c160 (postH d [.t 2] O) (inSt I)) : SpH Tryd.prog gl 160 d I O :=
  @fun_spH Tryd.prog gl drD 160 Tryd.f160 a160 Tryd.func160 m160 (dok _) d I O hl h
/-- firebell/text.Count -/
def c161 : AC :=
 (.sq (.rg [.mv 2 (.c (.int .i64 0))])
  (.sq (.rg [.mv 3 (.c (.int .i64 0))])
  (.sq (.sq (.rg [.mv 4 (.s 0),
   .rs 5 (.s 4)])
  (.bl 0 (.lp (.sq (.rg [.nx 6 (.s 5),
   .exq 7 (.s 6) 0])
  (.sq (.cd (.s 7) .sk (.ex 0))
  (.bl 1 (.rg [.mv 8 (.s 3),
   .bi 9 .add (.s 8) (.c (.int .i64 1)),
   .mv 3 (.s 9)])))))))
  (.sq (.rg [.mv 10 (.s 3),
   .mv 2 (.s 10)])
  .rt))))
def a161 : AF := ⟨c161, [.t 2], 1, 11⟩
theorem m161 : mF Tryd.prog gl drD Tryd.f161 a161 = true := by kernel_rfl
theorem s161 {l : List AV} {r : AV} (hl : l.length = 1) (hi : idsL l = []) (h : wpA (SpH Tryd.prog gl) c161 (postA [.t 2] r) ⟨initE 0 l, [], []⟩) : Sp Tryd.prog gl 161 l r :=
  @fun_sp Tryd.prog gl drD 161 Tryd.f161 a161 Tryd.func161 m161 (dok _) l r hl hi h
theorem h161 {d : Nat} {I : In} {O : Out} (hl : I.vs.length = 1) (h : wpA (SpH Tryd.prog gl) c161 (postH d [.t 2] O) (inSt I)) : SpH Tryd.prog gl 161 d I O :=
  @fun_spH Tryd.prog gl drD 161 Tryd.f161 a161 Tryd.func161 m161 (dok _) d I O hl h
/-- firebell/show.unlike[firebell/api.Label] -/
def c162 : AC :=
 (.sq (.rg [.mv 4 (.c (.bool false))])
  (.sq (.rg [.mkp 8,
   .mv 5 (.s 8)])
  (.sq (.sq (.rg [.mv 9 (.s 0),
   .ln 10 (.s 9),
   .mv 11 (.c (.int .i64 0))])
  (.bl 0 (.lp (.sq (.rg [.bi 12 .lss (.s 11) (.s 10)])
  (.sq (.cd (.s 12) .sk (.ex 0))
  (.sq (.bl 1 (.sq (.rg [.ia 13 2 (.s 9) (.s 11),
   .lda 14 2 (.s 13),
   .al 7 [(.str []), (.str [])],
   .st 2 (.s 7) (.s 14)])
  (.rg [.mv 15 (.s 5),
   .mv 16 (.s 1),
   .lda 17 2 (.s 7),
   .cd 18 (.s 16) [(.s 17)],
   .mlk 19 .s (.i .i64 0) (.s 15) (.s 18) false,
   .bi 20 .add (.s 19) (.c (.int .i64 1)),
   .mup .s (.s 15) (.s 18) (.s 20)])))
  (.rg [.bi 21 .add (.s 11) (.c (.int .i64 1)),
   .mv 11 (.s 21)])))))))
  (.sq (.rg [.mv 22 (.s 5),
   .mpl 23 (.s 22),
   .mv 24 (.s 0),
   .ln 25 (.s 24),
   .bi 26 .eql (.s 23) (.s 25),
   .mv 4 (.s 26)])
  .rt))))
def a162 : AF := ⟨c162, [.t 4], 2, 27⟩
theorem m162 : mF Tryd.prog gl drD Tryd.f162 a162 = true := by kernel_rfl
theorem s162 {l : List AV} {r : AV} (hl : l.length = 2) (hi : idsL l = []) (h : wpA (SpH Tryd.prog gl) c162 (postA [.t 4] r) ⟨initE 0 l, [], []⟩) : Sp Tryd.prog gl 162 l r :=
  @fun_sp Tryd.prog gl drD 162 Tryd.f162 a162 Tryd.func162 m162 (dok _) l r hl hi h
theorem h162 {d : Nat} {I : In} {O : Out} (hl : I.vs.length = 2) (h : wpA (SpH Tryd.prog gl) c162 (postH d [.t 4] O) (inSt I)) : SpH Tryd.prog gl 162 d I O :=
  @fun_spH Tryd.prog gl drD 162 Tryd.f162 a162 Tryd.func162 m162 (dok _) d I O hl h
/-- firebell/show.labels$1 -/
def c163 : AC :=
 (.sq (.rg [.bx 1 (.s 0),
   .mv 2 (.c (.str []))])
  (.sq (.rg [.fa 3 (.s 1) 0,
   .lds 4 (.s 3),
   .mv 2 (.s 4)])
  .rt))
def a163 : AF := ⟨c163, [.t 2], 1, 5⟩
theorem m163 : mF Tryd.prog gl drD Tryd.f163 a163 = true := by kernel_rfl
theorem s163 {l : List AV} {r : AV} (hl : l.length = 1) (hi : idsL l = []) (h : wpA (SpH Tryd.prog gl) c163 (postA [.t 2] r) ⟨initE 0 l, [], []⟩) : Sp Tryd.prog gl 163 l r :=
  @fun_sp Tryd.prog gl drD 163 Tryd.f163 a163 Tryd.func163 m163 (dok _) l r hl hi h
theorem h163 {d : Nat} {I : In} {O : Out} (hl : I.vs.length = 1) (h : wpA (SpH Tryd.prog gl) c163 (postH d [.t 2] O) (inSt I)) : SpH Tryd.prog gl 163 d I O :=
  @fun_spH Tryd.prog gl drD 163 Tryd.f163 a163 Tryd.func163 m163 (dok _) d I O hl h
/-- firebell/show.RightRule -/
def c164 : AC :=
 (.sq (.rg [.bx 2 (.s 0),
   .mv 4 (.c (.bool false))])
  (.sq (.rg [.mv 6 (.s 1),
   .bi 7 .gtr (.s 6) (.c (.int .i64 0)),
   .mv 8 (.s 7),
   .gd 8 true 9 (.fa 9 (.s 2) 3),
   .gd 8 true 10 (.lds 10 (.s 9)),
   .gd 8 true 11 (.fa 11 (.s 2) 2),
   .gd 8 true 12 (.lds 12 (.s 11)),
   .gd 8 true 13 (.cl 13 95 [(.s 10), (.c (.int .i64 1)), (.s 12)]),
   .pk 14 (.s 8) (.s 13) (.c (.bool false)),
   .mv 15 (.s 14),
   .gd 15 true 16 (.fa 16 (.s 2) 2),
   .gd 15 true 17 (.lds 17 (.s 16)),
   .gd 15 true 18 (.cl 18 95 [(.s 17), (.c (.int .i64 1)), (.c (.int .i64 34560000))]),
   .pk 19 (.s 15) (.s 18) (.c (.bool false)),
   .mv 5 (.s 19)])
  (.sq (.rg [.mv 20 (.s 5),
   .mv 21 (.s 20),
   .gd 21 true 22 (.fa 22 (.s 2) 0),
   .gd 21 true 23 (.lds 23 (.s 22)),
   .gd 21 true 24 (.cl 24 88 [(.s 23)]),
   .pk 25 (.s 21) (.s 24) (.c (.bool false)),
   .mv 26 (.s 25),
   .gd 26 true 27 (.fa 27 (.s 2) 2),
   .gd 26 true 28 (.lds 28 (.s 27)),
   .gd 26 true 29 (.mv 29 (.s 1)),
   .gd 26 true 30 (.bi 30 .rem (.s 28) (.s 29)),
   .gd 26 true 31 (.bi 31 .eql (.s 30) (.c (.int .i64 0))),
   .pk 32 (.s 26) (.s 31) (.c (.bool false)),
   .mv 33 (.s 32),
   .gd 33 true 34 (.fa 34 (.s 2) 3),
   .gd 33 true 35 (.lds 35 (.s 34)),
   .gd 33 true 36 (.mv 36 (.s 1)),
   .gd 33 true 37 (.bi 37 .rem (.s 35) (.s 36)),
   .gd 33 true 38 (.bi 38 .eql (.s 37) (.c (.int .i64 0))),
   .pk 39 (.s 33) (.s 38) (.c (.bool false)),
   .mv 40 (.s 39),
   .gd 40 true 41 (.fa 41 (.s 2) 4),
   .gd 40 true 42 (.lds 42 (.s 41)),
   .gd 40 true 43 (.cl 43 189 [(.s 42), (.c (.int .u64 1)), (.c (.int .u64 1000000))]),
   .pk 44 (.s 40) (.s 43) (.c (.bool false)),
   .mv 45 (.s 44),
   .gd 45 true 46 (.fa 46 (.s 2) 5),
   .gd 45 true 47 (.lds 47 (.s 46)),
   .gd 45 true 48 (.cl 48 95 [(.s 47), (.c (.int .i64 0)), (.c (.int .i64 604800))]),
   .pk 49 (.s 45) (.s 48) (.c (.bool false)),
   .mv 50 (.s 49),
   .gd 50 true 51 (.fa 51 (.s 2) 6),
   .gd 50 true 52 (.lds 52 (.s 51)),
   .gd 50 true 53 (.cl 53 95 [(.s 52), (.c (.int .i64 0)), (.c (.int .i64 604800))]),
   .pk 54 (.s 50) (.s 53) (.c (.bool false)),
   .mv 4 (.s 54)])
  .rt)))
def a164 : AF := ⟨c164, [.t 4], 2, 55⟩
theorem m164 : mF Tryd.prog gl drD Tryd.f164 a164 = true := by kernel_rfl
theorem s164 {l : List AV} {r : AV} (hl : l.length = 2) (hi : idsL l = []) (h : wpA (SpH Tryd.prog gl) c164 (postA [.t 4] r) ⟨initE 0 l, [], []⟩) : Sp Tryd.prog gl 164 l r :=
  @fun_sp Tryd.prog gl drD 164 Tryd.f164 a164 Tryd.func164 m164 (dok _) l r hl hi h
theorem h164 {d : Nat} {I : In} {O : Out} (hl : I.vs.length = 2) (h : wpA (SpH Tryd.prog gl) c164 (postH d [.t 4] O) (inSt I)) : SpH Tryd.prog gl 164 d I O :=
  @fun_spH Tryd.prog gl drD 164 Tryd.f164 a164 Tryd.func164 m164 (dok _) d I O hl h
/-- firebell/show.unlike[firebell/api.Rule] -/
def c165 : AC :=
 (.sq (.rg [.mv 4 (.c (.bool false))])
  (.sq (.rg [.mkp 8,
   .mv 5 (.s 8)])
  (.sq (.sq (.rg [.mv 9 (.s 0),
   .ln 10 (.s 9),
   .mv 11 (.c (.int .i64 0))])
  (.bl 0 (.lp (.sq (.rg [.bi 12 .lss (.s 11) (.s 10)])
  (.sq (.cd (.s 12) .sk (.ex 0))
  (.sq (.bl 1 (.sq (.rg [.ia 13 7 (.s 9) (.s 11),
   .lda 14 7 (.s 13),
   .al 7 [(.str []), (.bool false), (.int .i64 0), (.int .i64 0), (.int .u64 0), (.int .i64 0), (.int .i64 0)],
   .st 7 (.s 7) (.s 14)])
  (.rg [.mv 15 (.s 5),
   .mv 16 (.s 1),
   .lda 17 7 (.s 7),
   .cd 18 (.s 16) [(.s 17)],
   .mlk 19 .s (.i .i64 0) (.s 15) (.s 18) false,
   .bi 20 .add (.s 19) (.c (.int .i64 1)),
   .mup .s (.s 15) (.s 18) (.s 20)])))
  (.rg [.bi 21 .add (.s 11) (.c (.int .i64 1)),
   .mv 11 (.s 21)])))))))
  (.sq (.rg [.mv 22 (.s 5),
   .mpl 23 (.s 22),
   .mv 24 (.s 0),
   .ln 25 (.s 24),
   .bi 26 .eql (.s 23) (.s 25),
   .mv 4 (.s 26)])
  .rt))))
def a165 : AF := ⟨c165, [.t 4], 2, 27⟩
theorem m165 : mF Tryd.prog gl drD Tryd.f165 a165 = true := by kernel_rfl
theorem s165 {l : List AV} {r : AV} (hl : l.length = 2) (hi : idsL l = []) (h : wpA (SpH Tryd.prog gl) c165 (postA [.t 4] r) ⟨initE 0 l, [], []⟩) : Sp Tryd.prog gl 165 l r :=
  @fun_sp Tryd.prog gl drD 165 Tryd.f165 a165 Tryd.func165 m165 (dok _) l r hl hi h
theorem h165 {d : Nat} {I : In} {O : Out} (hl : I.vs.length = 2) (h : wpA (SpH Tryd.prog gl) c165 (postH d [.t 4] O) (inSt I)) : SpH Tryd.prog gl 165 d I O :=
  @fun_spH Tryd.prog gl drD 165 Tryd.f165 a165 Tryd.func165 m165 (dok _) d I O hl h
/-- firebell/show.rules$1 -/
def c166 : AC :=
 (.sq (.rg [.bx 1 (.s 0),
   .mv 2 (.c (.str []))])
  (.sq (.rg [.fa 3 (.s 1) 0,
   .lds 4 (.s 3),
   .mv 2 (.s 4)])
  .rt))
def a166 : AF := ⟨c166, [.t 2], 1, 5⟩
theorem m166 : mF Tryd.prog gl drD Tryd.f166 a166 = true := by kernel_rfl
theorem s166 {l : List AV} {r : AV} (hl : l.length = 1) (hi : idsL l = []) (h : wpA (SpH Tryd.prog gl) c166 (postA [.t 2] r) ⟨initE 0 l, [], []⟩) : Sp Tryd.prog gl 166 l r :=
  @fun_sp Tryd.prog gl drD 166 Tryd.f166 a166 Tryd.func166 m166 (dok _) l r hl hi h
theorem h166 {d : Nat} {I : In} {O : Out} (hl : I.vs.length = 1) (h : wpA (SpH Tryd.prog gl) c166 (postH d [.t 2] O) (inSt I)) : SpH Tryd.prog gl 166 d I O :=
  @fun_spH Tryd.prog gl drD 166 Tryd.f166 a166 Tryd.func166 m166 (dok _) d I O hl h
/-- slices.IndexFunc[[]firebell/api.Rule,firebell/api.Rule] -/
def c167 : AC :=
 (.sq (.rg [.mv 4 (.c (.int .i64 0))])
  (.sq (.sq (.rg [.mv 6 (.s 0),
   .ln 7 (.s 6),
   .mv 8 (.c (.int .i64 0))])
  (.bl 0 (.lp (.sq (.rg [.bi 9 .lss (.s 8) (.s 7)])
  (.sq (.cd (.s 9) .sk (.ex 0))
  (.sq (.bl 1 (.sq (.rg [.mv 10 (.s 8),
   .mv 5 (.s 10)])
  (.sq (.rg [.mv 11 (.s 1),
   .mv 12 (.s 0),
   .mv 13 (.s 5),
   .ia 14 7 (.s 12) (.s 13),
   .lda 15 7 (.s 14),
   .cd 16 (.s 11) [(.s 15)]])
  (.cd (.s 16) (.sq (.rg [.mv 17 (.s 5),
   .mv 4 (.s 17)])
  .rt) .sk))))
  (.rg [.bi 18 .add (.s 8) (.c (.int .i64 1)),
   .mv 8 (.s 18)])))))))
  (.sq (.rg [.mv 4 (.c (.int .i64 (-1)))])
  .rt)))
def a167 : AF := ⟨c167, [.t 4], 2, 19⟩
theorem m167 : mF Tryd.prog gl drD Tryd.f167 a167 = true := by kernel_rfl
theorem s167 {l : List AV} {r : AV} (hl : l.length = 2) (hi : idsL l = []) (h : wpA (SpH Tryd.prog gl) c167 (postA [.t 4] r) ⟨initE 0 l, [], []⟩) : Sp Tryd.prog gl 167 l r :=
  @fun_sp Tryd.prog gl drD 167 Tryd.f167 a167 Tryd.func167 m167 (dok _) l r hl hi h
theorem h167 {d : Nat} {I : In} {O : Out} (hl : I.vs.length = 2) (h : wpA (SpH Tryd.prog gl) c167 (postH d [.t 4] O) (inSt I)) : SpH Tryd.prog gl 167 d I O :=
  @fun_spH Tryd.prog gl drD 167 Tryd.f167 a167 Tryd.func167 m167 (dok _) d I O hl h
/-- firebell/exact.Times -/
def c178 : AC :=
 (.sq (.rg [.al 4 [(.int .u64 0), (.int .u64 0)]])
  (.sq (.rg [.mv 8 (.s 0),
   .mv 9 (.s 1),
   .cl 10 196 [(.s 8), (.s 9)],
   .mv 7 (.s 10),
   .exq 11 (.s 7) 0,
   .exq 12 (.s 7) 1,
   .mv 5 (.s 11),
   .mv 6 (.s 12)])
  (.sq (.rg [.mv 13 (.s 5),
   .mv 14 (.s 6),
   .bd 15 [(.int .u64 0), (.int .u64 0)] [(0, 1, (.s 13)), (1, 1, (.s 14))],
   .st 2 (.s 4) (.s 15)])
  .rt)))
def a178 : AF := ⟨c178, [.ca 4 2], 2, 16⟩
theorem m178 : mF Tryd.prog gl drD Tryd.f178 a178 = true := by kernel_rfl
theorem s178 {l : List AV} {r : AV} (hl : l.length = 2) (hi : idsL l = []) (h : wpA (SpH Tryd.prog gl) c178 (postA [.ca 4 2] r) ⟨initE 0 l, [], []⟩) : Sp Tryd.prog gl 178 l r :=
  @fun_sp Tryd.prog gl drD 178 Tryd.f178 a178 Tryd.func178 m178 (dok _) l r hl hi h
theorem h178 {d : Nat} {I : In} {O : Out} (hl : I.vs.length = 2) (h : wpA (SpH Tryd.prog gl) c178 (postH d [.ca 4 2] O) (inSt I)) : SpH Tryd.prog gl 178 d I O :=
  @fun_spH Tryd.prog gl drD 178 Tryd.f178 a178 Tryd.func178 m178 (dok _) d I O hl h
/-- firebell/show.between[uint64] -/
def c189 : AC :=
 (.sq (.rg [.mv 6 (.c (.bool false))])
  (.sq (.rg [.mv 7 (.s 0),
   .mv 8 (.s 1),
   .bi 9 .geq (.s 7) (.s 8),
   .mv 10 (.s 9),
   .gd 10 true 11 (.mv 11 (.s 0)),
   .gd 10 true 12 (.mv 12 (.s 2)),
   .gd 10 true 13 (.bi 13 .leq (.s 11) (.s 12)),
   .pk 14 (.s 10) (.s 13) (.c (.bool false)),
   .mv 6 (.s 14)])
  .rt))
def a189 : AF := ⟨c189, [.t 6], 3, 15⟩
theorem m189 : mF Tryd.prog gl drD Tryd.f189 a189 = true := by kernel_rfl
theorem s189 {l : List AV} {r : AV} (hl : l.length = 3) (hi : idsL l = []) (h : wpA (SpH Tryd.prog gl) c189 (postA [.t 6] r) ⟨initE 0 l, [], []⟩) : Sp Tryd.prog gl 189 l r :=
  @fun_sp Tryd.prog gl drD 189 Tryd.f189 a189 Tryd.func189 m189 (dok _) l r hl hi h
theorem h189 {d : Nat} {I : In} {O : Out} (hl : I.vs.length = 3) (h : wpA (SpH Tryd.prog gl) c189 (postH d [.t 6] O) (inSt I)) : SpH Tryd.prog gl 189 d I O :=
  @fun_spH Tryd.prog gl drD 189 Tryd.f189 a189 Tryd.func189 m189 (dok _) d I O hl h
/-- math/bits.Mul64 -/
def c196 : AC :=
 (.sq (.rg [.mv 4 (.c (.int .u64 0)),
   .mv 5 (.c (.int .u64 0))])
  (.sq (.rg [.mv 14 (.s 0),
   .bi 15 .and (.s 14) (.c (.int .u64 4294967295)),
   .mv 6 (.s 15)])
  (.sq (.rg [.mv 16 (.s 0),
   .bi 17 .shr (.s 16) (.c (.int .u64 32)),
   .mv 7 (.s 17)])
  (.sq (.rg [.mv 18 (.s 1),
   .bi 19 .and (.s 18) (.c (.int .u64 4294967295)),
   .mv 8 (.s 19)])
  (.sq (.rg [.mv 20 (.s 1),
   .bi 21 .shr (.s 20) (.c (.int .u64 32)),
   .mv 9 (.s 21)])
  (.sq (.rg [.mv 22 (.s 6),
   .mv 23 (.s 8),
   .bi 24 .mul (.s 22) (.s 23),
   .mv 10 (.s 24)])
  (.sq (.rg [.mv 25 (.s 7),
   .mv 26 (.s 8),
   .bi 27 .mul (.s 25) (.s 26),
   .mv 28 (.s 10),
   .bi 29 .shr (.s 28) (.c (.int .u64 32)),
   .bi 30 .add (.s 27) (.s 29),
   .mv 11 (.s 30)])
  (.sq (.rg [.mv 31 (.s 11),
   .bi 32 .and (.s 31) (.c (.int .u64 4294967295)),
   .mv 12 (.s 32)])
  (.sq (.rg [.mv 33 (.s 11),
   .bi 34 .shr (.s 33) (.c (.int .u64 32)),
   .mv 13 (.s 34)])
  (.sq (.rg [.mv 35 (.s 12),
   .mv 36 (.s 6),
   .mv 37 (.s 9),
   .bi 38 .mul (.s 36) (.s 37),
   .bi 39 .add (.s 35) (.s 38),
   .mv 12 (.s 39)])
  (.sq (.rg [.mv 40 (.s 7),
   .mv 41 (.s 9),
   .bi 42 .mul (.s 40) (.s 41),
   .mv 43 (.s 13),
   .bi 44 .add (.s 42) (.s 43),
   .mv 45 (.s 12),
   .bi 46 .shr (.s 45) (.c (.int .u64 32)),
   .bi 47 .add (.s 44) (.s 46),
   .mv 4 (.s 47)])
  (.sq (.rg [.mv 48 (.s 0),
   .mv 49 (.s 1),
   .bi 50 .mul (.s 48) (.s 49),
   .mv 5 (.s 50)])
  .rt))))))))))))
def a196 : AF := ⟨c196, [.t 4, .t 5], 2, 51⟩
theorem m196 : mF Tryd.prog gl drD Tryd.f196 a196 = true := by kernel_rfl
theorem s196 {l : List AV} {r : AV} (hl : l.length = 2) (hi : idsL l = []) (h : wpA (SpH Tryd.prog gl) c196 (postA [.t 4, .t 5] r) ⟨initE 0 l, [], []⟩) : Sp Tryd.prog gl 196 l r :=
  @fun_sp Tryd.prog gl drD 196 Tryd.f196 a196 Tryd.func196 m196 (dok _) l r hl hi h
theorem h196 {d : Nat} {I : In} {O : Out} (hl : I.vs.length = 2) (h : wpA (SpH Tryd.prog gl) c196 (postH d [.t 4, .t 5] O) (inSt I)) : SpH Tryd.prog gl 196 d I O :=
  @fun_spH Tryd.prog gl drD 196 Tryd.f196 a196 Tryd.func196 m196 (dok _) d I O hl h
end Go.Ai
