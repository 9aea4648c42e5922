/- YtcdomokjdfmnlaaGreatDoorCode: part of the abstract interpreter library (values, rules, soundness against the model) or of what a function of the seat computes. Conditions: as each theorem says. -/
import Derived.Test.YtcdomokjdfmnlaaGreatDoorAiUse
import Derived.Test.YtcdomokjdfmnlaaGreatDoorAiExt
import Derived.Test.YtcdomokjdfmnlaaGreatDoorAiFunH
import Derived.Test.YtcdomokjdfmnlaaGreatDoorProg
namespace Go.Ai
open Go.Proofs
theorem mix : Tryz.prog.follows .mixedOrders = true := by kernel_rfl
def gl : List (Nat × List Value) := [(4, [Value.int .u64 1, Value.int .u64 10, Value.int .u64 100, Value.int .u64 1000, Value.int .u64 10000, Value.int .u64 100000, Value.int .u64 1000000, Value.int .u64 10000000, Value.int .u64 100000000, Value.int .u64 1000000000, Value.int .u64 10000000000, Value.int .u64 100000000000, Value.int .u64 1000000000000, Value.int .u64 10000000000000, Value.int .u64 100000000000000, Value.int .u64 1000000000000000, Value.int .u64 10000000000000000, Value.int .u64 100000000000000000, Value.int .u64 1000000000000000000, Value.int .u64 10000000000000000000])]
theorem dok (N : Nat) : DrawsOk Tryz.prog gl N drD := draws_ok mix
/-- firebell/firebelllaw33.ReportOf -/
def c3 : AC :=
 (.sq (.rg [.bx 1 (.s 0),
   .mv 2 (.c (.bool false))])
  (.sq (.sq (.rg [.cl 3 10 [],
   .un 4 .not (.s 3)])
  (.cd (.s 4) (.sq (.rg [.mv 2 (.c (.bool false))])
  .rt) .sk))
  (.sq (.sq (.rg [.lda 5 11 (.s 1),
   .cl 6 11 [(.s 5)]])
  (.cd (.s 6) (.sq (.rg [.mv 2 (.c (.bool true))])
  .rt) .sk))
  (.sq (.rd [[], [], [], [], [], []] [.lda 7 11 (.s 1),
   .cl 8 13 [(.s 7)],
   .lda 9 11 (.s 1),
   .cl 10 14 [(.s 9)],
   .cl 11 12 [(.s 8), (.s 10)],
   .mv 2 (.s 11)])
  .rt))))
def a3 : AF := ⟨c3, [.t 2], 1, 12⟩
theorem m3 : mF Tryz.prog gl drD Tryz.f3 a3 = true := by kernel_rfl
theorem s3 {l : List AV} {r : AV} (hl : l.length = 1) (hi : idsL l = []) (h : wpA (SpH Tryz.prog gl) c3 (postA [.t 2] r) ⟨initE 0 l, [], []⟩) : Sp Tryz.prog gl 3 l r :=
  @fun_sp Tryz.prog gl drD 3 Tryz.f3 a3 Tryz.func3 m3 (dok _) l r hl hi h
theorem h3 {d : Nat} {I : In} {O : Out} (hl : I.vs.length = 1) (h : wpA (SpH Tryz.prog gl) c3 (postH d [.t 2] O) (inSt I)) : SpH Tryz.prog gl 3 d I O :=
  @fun_spH Tryz.prog gl drD 3 Tryz.f3 a3 Tryz.func3 m3 (dok _) d I O hl h
/-- firebell/firebelllaw20.MeterAsks -/
def c4 : AC :=
 (.sq (.rg [.bx 3 (.s 0),
   .mv 6 (.c (.bool false))])
  (.sq (.sq (.rg [.cl 21 15 [],
   .un 22 .not (.s 21)])
  (.cd (.s 22) (.sq (.rg [.mv 6 (.c (.bool false))])
  .rt) .sk))
  (.sq (.sq (.rg [.lda 23 8 (.s 3),
   .cl 24 16 [(.s 23)],
   .mv 25 (.s 24),
   .gd 25 false 26 (.lda 26 8 (.s 3)),
   .gd 25 false 27 (.cl 27 17 [(.s 26)]),
   .gd 25 false 28 (.un 28 .not (.s 27)),
   .pk 29 (.s 25) (.c (.bool true)) (.s 28)])
  (.cd (.s 29) (.sq (.rg [.mv 6 (.c (.bool true))])
  .rt) .sk))
  (.sq (.rg [.lda 31 8 (.s 3),
   .ce 32 18 [(.s 31)],
   .mv 30 (.s 32),
   .exq 33 (.s 30) 0,
   .exq 34 (.s 30) 1,
   .exq 35 (.s 30) 2,
   .mv 7 (.s 33),
   .mv 8 (.s 34),
   .mv 9 (.s 35)])
  (.sq (.sq (.rg [.mv 36 (.s 8),
   .pn 37 false (.s 36)])
  (.cd (.s 37) (.sq (.rg [.mv 6 (.c (.bool false))])
  .rt) .sk))
  (.sq (.rg [.lda 38 8 (.s 3),
   .ca 39 19 none [(.s 38)],
   .mv 40 (.s 2),
   .bs 41 1 [(.s 40)],
   .ap 42 1 8 (.s 39) (.s 41),
   .mv 10 (.s 42)])
  (.sq (.sq (.rg [.mv 11 (.c (.int .i64 0))])
  (.bl 0 (.lp (.sq (.sq (.rg [.mv 43 (.s 11),
   .mv 44 (.s 1),
   .ln 45 (.s 44),
   .bi 46 .lss (.s 43) (.s 45),
   .mv 47 (.s 46),
   .gd 47 true 48 (.mv 48 (.s 11)),
   .gd 47 true 49 (.bi 49 .lss (.s 48) (.c (.int .i64 100))),
   .pk 50 (.s 47) (.s 49) (.c (.bool false))])
  (.cd (.s 50) .sk (.ex 0)))
  (.sq (.bl 1 (.sq (.sq (.rg [.mv 53 (.s 7),
   .mv 54 (.s 8),
   .mv 55 (.s 1),
   .mv 56 (.s 11),
   .ia 57 4 (.s 55) (.s 56),
   .lda 58 4 (.s 57),
   .ce 59 20 [(.s 53), (.s 54), (.s 58)],
   .un 60 .not (.s 59)])
  (.cd (.s 60) (.sq (.rg [.mv 6 (.c (.bool false))])
  .rt) .sk))
  (.sq (.rg [.mv 61 (.s 10),
   .mv 62 (.s 11),
   .mv 63 (.s 10),
   .ln 64 (.s 63),
   .bi 65 .rem (.s 62) (.s 64),
   .ia 66 1 (.s 61) (.s 65),
   .lds 67 (.s 66),
   .mv 12 (.s 67)])
  (.sq (.rg [.mv 69 (.s 7),
   .mv 70 (.s 12),
   .ce 71 21 [(.s 69), (.s 70)],
   .mv 68 (.s 71),
   .exq 72 (.s 68) 0,
   .exq 73 (.s 68) 1,
   .al 13 [(.int .u64 0), (.int .u64 0)],
   .st 2 (.s 13) (.s 72),
   .mv 14 (.s 73)])
  (.sq (.rg [.mv 75 (.s 8),
   .mv 76 (.s 12),
   .ce 77 22 [(.s 75), (.s 76)],
   .mv 74 (.s 77),
   .exq 78 (.s 74) 0,
   .exq 79 (.s 74) 1,
   .al 15 [(.int .u64 0), (.int .u64 0)],
   .st 2 (.s 15) (.s 78),
   .mv 16 (.s 79)])
  (.sq (.rg [.mv 81 (.s 7),
   .ce 82 23 [(.s 81)],
   .mv 80 (.s 82),
   .exq 83 (.s 80) 0,
   .exq 84 (.s 80) 1,
   .al 17 [(.int .u64 0), (.int .u64 0)],
   .st 2 (.s 17) (.s 83),
   .mv 18 (.s 84)])
  (.sq (.rg [.mv 86 (.s 8),
   .ce 87 24 [(.s 86)],
   .mv 85 (.s 87),
   .exq 88 (.s 85) 0,
   .exq 89 (.s 85) 1,
   .al 19 [(.int .u64 0), (.int .u64 0)],
   .st 2 (.s 19) (.s 88),
   .mv 20 (.s 89)])
  (.sq (.rg [.lda 90 2 (.s 13),
   .lda 91 2 (.s 15),
   .ea 92 true [.i, .i] (.s 90) (.s 91),
   .mv 93 (.s 92),
   .gd 93 false 94 (.mv 94 (.s 14)),
   .gd 93 false 95 (.mv 95 (.s 16)),
   .gd 93 false 96 (.bi 96 .neq (.s 94) (.s 95)),
   .pk 97 (.s 93) (.c (.bool true)) (.s 96),
   .mv 98 (.s 97),
   .gd 98 false 99 (.lda 99 2 (.s 17)),
   .gd 98 false 100 (.lda 100 2 (.s 19)),
   .gd 98 false 101 (.ea 101 true [.i, .i] (.s 99) (.s 100)),
   .pk 102 (.s 98) (.c (.bool true)) (.s 101),
   .mv 103 (.s 102),
   .gd 103 false 104 (.mv 104 (.s 18)),
   .gd 103 false 105 (.mv 105 (.s 20)),
   .gd 103 false 106 (.bi 106 .neq (.s 104) (.s 105)),
   .pk 107 (.s 103) (.c (.bool true)) (.s 106),
   .mv 108 (.s 107),
   .gd 108 false 109 (.mv 109 (.s 7)),
   .gd 108 false 110 (.ce 110 25 [(.s 109)]),
   .gd 108 false 111 (.mv 111 (.s 110)),
   .gd 111 true 112 (.mv 112 (.s 1)),
   .gd 111 true 113 (.mv 113 (.s 11)),
   .gd 111 true 114 (.ia 114 4 (.s 112) (.s 113)),
   .gd 111 true 115 (.fa 115 (.s 114) 0),
   .gd 111 true 116 (.lds 116 (.s 115)),
   .gd 111 true 117 (.bi 117 .eql (.s 116) (.c (.int .i64 2))),
   .gd 108 false 118 (.pk 118 (.s 111) (.s 117) (.c (.bool false))),
   .gd 108 false 119 (.mv 119 (.s 118)),
   .gd 119 true 120 (.mv 120 (.s 7)),
   .gd 119 true 121 (.mv 121 (.s 1)),
   .gd 119 true 122 (.mv 122 (.s 11)),
   .gd 119 true 123 (.ia 123 4 (.s 121) (.s 122)),
   .gd 119 true 124 (.fa 124 (.s 123) 1),
   .gd 119 true 125 (.lds 125 (.s 124)),
   .gd 119 true 126 (.bd 126 [(.int .u64 0), (.int .u64 0)] []),
   .gd 119 true 127 (.ce 127 26 [(.s 120), (.s 125), (.s 126)]),
   .gd 119 true 128 (.bi 128 .eql (.s 127) (.c (.int .i64 0))),
   .gd 108 false 129 (.pk 129 (.s 119) (.s 128) (.c (.bool false))),
   .pk 130 (.s 108) (.c (.bool true)) (.s 129)])
  (.cd (.s 130) (.sq (.rg [.mv 6 (.c (.bool false))])
  .rt) .sk)))))))))
  (.rg [.mv 51 (.s 11),
   .bi 52 .add (.s 51) (.c (.int .i64 1)),
   .mv 11 (.s 52)]))))))
  (.sq (.rg [.mv 6 (.c (.bool true))])
  .rt))))))))
def a4 : AF := ⟨c4, [.t 6], 3, 131⟩
theorem m4 : mF Tryz.prog gl drD Tryz.f4 a4 = true := by kernel_rfl
theorem s4 {l : List AV} {r : AV} (hl : l.length = 3) (hi : idsL l = []) (h : wpA (SpH Tryz.prog gl) c4 (postA [.t 6] r) ⟨initE 0 l, [], []⟩) : Sp Tryz.prog gl 4 l r :=
  @fun_sp Tryz.prog gl drD 4 Tryz.f4 a4 Tryz.func4 m4 (dok _) l r hl hi h
theorem h4 {d : Nat} {I : In} {O : Out} (hl : I.vs.length = 3) (h : wpA (SpH Tryz.prog gl) c4 (postH d [.t 6] O) (inSt I)) : SpH Tryz.prog gl 4 d I O :=
  @fun_spH Tryz.prog gl drD 4 Tryz.f4 a4 Tryz.func4 m4 (dok _) d I O hl h
/-- firebell/firebelllaw20.MeterPlays -/
def c5 : AC :=
 (.sq (.rg [.bx 2 (.s 0),
   .mv 4 (.c (.bool false))])
  (.sq (.sq (.rg [.cl 9 15 [],
   .un 10 .not (.s 9)])
  (.cd (.s 10) (.sq (.rg [.mv 4 (.c (.bool false))])
  .rt) .sk))
  (.sq (.sq (.rg [.lda 11 8 (.s 2),
   .cl 12 16 [(.s 11)]])
  (.cd (.s 12) (.sq (.rg [.mv 4 (.c (.bool true))])
  .rt) .sk))
  (.sq (.rg [.lda 14 8 (.s 2),
   .ce 15 18 [(.s 14)],
   .mv 13 (.s 15),
   .exq 16 (.s 13) 0,
   .exq 17 (.s 13) 1,
   .exq 18 (.s 13) 2,
   .mv 5 (.s 16),
   .mv 6 (.s 17),
   .mv 7 (.s 18)])
  (.sq (.sq (.rg [.mv 19 (.s 6),
   .pn 20 false (.s 19)])
  (.cd (.s 20) (.sq (.rg [.mv 21 (.s 7),
   .un 22 .not (.s 21),
   .mv 4 (.s 22)])
  .rt) .sk))
  (.sq (.sq (.rg [.mv 23 (.s 5),
   .mv 24 (.s 6),
   .ce 25 27 [(.s 23), (.s 24)],
   .un 26 .not (.s 25)])
  (.cd (.s 26) (.sq (.rg [.mv 4 (.c (.bool false))])
  .rt) .sk))
  (.sq (.sq (.rg [.mv 8 (.c (.int .i64 0))])
  (.bl 0 (.lp (.sq (.sq (.rg [.mv 27 (.s 8),
   .mv 28 (.s 1),
   .ln 29 (.s 28),
   .bi 30 .lss (.s 27) (.s 29),
   .mv 31 (.s 30),
   .gd 31 true 32 (.mv 32 (.s 8)),
   .gd 31 true 33 (.bi 33 .lss (.s 32) (.c (.int .i64 100))),
   .pk 34 (.s 31) (.s 33) (.c (.bool false))])
  (.cd (.s 34) .sk (.ex 0)))
  (.sq (.bl 1 (.sq (.rd [[], [], [], [], [], [], [], [], [], [], [], [], [], [], [], [], [], [], [], [], [], [], [], [], [], []] [.mv 37 (.s 5),
   .mv 38 (.s 6),
   .mv 39 (.s 1),
   .mv 40 (.s 8),
   .ia 41 4 (.s 39) (.s 40),
   .lda 42 4 (.s 41),
   .cl 43 20 [(.s 37), (.s 38), (.s 42)],
   .un 44 .not (.s 43),
   .mv 45 (.s 44),
   .gd 45 false 46 (.mv 46 (.s 5)),
   .gd 45 false 47 (.cl 47 28 [(.s 46)]),
   .gd 45 false 48 (.mv 48 (.s 6)),
   .gd 45 false 49 (.nc 49 (.s 48)),
   .gd 45 false 50 (.fa 50 (.s 49) 8),
   .gd 45 false 51 (.lds 51 (.s 50)),
   .gd 45 false 52 (.bi 52 .neq (.s 47) (.s 51)),
   .pk 53 (.s 45) (.c (.bool true)) (.s 52),
   .mv 54 (.s 53),
   .gd 54 false 55 (.mv 55 (.s 5)),
   .gd 54 false 56 (.cl 56 25 [(.s 55)]),
   .gd 54 false 57 (.mv 57 (.s 6)),
   .gd 54 false 58 (.nc 58 (.s 57)),
   .gd 54 false 59 (.fa 59 (.s 58) 9),
   .gd 54 false 60 (.lds 60 (.s 59)),
   .gd 54 false 61 (.bb 61 true (.s 56) (.s 60)),
   .pk 62 (.s 54) (.c (.bool true)) (.s 61)])
  (.cd (.s 62) (.sq (.rg [.mv 4 (.c (.bool false))])
  .rt) .sk)))
  (.rg [.mv 35 (.s 8),
   .bi 36 .add (.s 35) (.c (.int .i64 1)),
   .mv 8 (.s 36)]))))))
  (.sq (.rg [.mv 63 (.s 5),
   .mv 64 (.s 6),
   .ce 65 27 [(.s 63), (.s 64)],
   .mv 4 (.s 65)])
  .rt))))))))
def a5 : AF := ⟨c5, [.t 4], 2, 66⟩
theorem m5 : mF Tryz.prog gl drD Tryz.f5 a5 = true := by kernel_rfl
theorem s5 {l : List AV} {r : AV} (hl : l.length = 2) (hi : idsL l = []) (h : wpA (SpH Tryz.prog gl) c5 (postA [.t 4] r) ⟨initE 0 l, [], []⟩) : Sp Tryz.prog gl 5 l r :=
  @fun_sp Tryz.prog gl drD 5 Tryz.f5 a5 Tryz.func5 m5 (dok _) l r hl hi h
theorem h5 {d : Nat} {I : In} {O : Out} (hl : I.vs.length = 2) (h : wpA (SpH Tryz.prog gl) c5 (postH d [.t 4] O) (inSt I)) : SpH Tryz.prog gl 5 d I O :=
  @fun_spH Tryz.prog gl drD 5 Tryz.f5 a5 Tryz.func5 m5 (dok _) d I O hl h
/-- firebell/firebelllaw20.MeterAdopts -/
def c6 : AC :=
 (.sq (.rg [.bx 4 (.s 0),
   .bx 5 (.s 1),
   .mv 8 (.c (.bool false))])
  (.sq (.sq (.rg [.cl 15 15 [],
   .un 16 .not (.s 15)])
  (.cd (.s 16) (.sq (.rg [.mv 8 (.c (.bool false))])
  .rt) .sk))
  (.sq (.sq (.rg [.lda 17 8 (.s 4),
   .cl 18 16 [(.s 17)],
   .mv 19 (.s 18),
   .gd 19 false 20 (.lda 20 8 (.s 4)),
   .gd 19 false 21 (.cl 21 17 [(.s 20)]),
   .gd 19 false 22 (.un 22 .not (.s 21)),
   .pk 23 (.s 19) (.c (.bool true)) (.s 22),
   .mv 24 (.s 23),
   .gd 24 false 25 (.lda 25 8 (.s 5)),
   .gd 24 false 26 (.cl 26 16 [(.s 25)]),
   .pk 27 (.s 24) (.c (.bool true)) (.s 26)])
  (.cd (.s 27) (.sq (.rg [.mv 8 (.c (.bool true))])
  .rt) .sk))
  (.sq (.rg [.lda 29 8 (.s 4),
   .ce 30 18 [(.s 29)],
   .mv 28 (.s 30),
   .exq 31 (.s 28) 0,
   .exq 32 (.s 28) 1,
   .exq 33 (.s 28) 2,
   .mv 9 (.s 31),
   .mv 10 (.s 32),
   .mv 11 (.s 33)])
  (.sq (.sq (.rg [.mv 34 (.s 10),
   .pn 35 false (.s 34)])
  (.cd (.s 35) (.sq (.rg [.mv 8 (.c (.bool false))])
  .rt) .sk))
  (.sq (.sq (.rg [.mv 12 (.c (.int .i64 0))])
  (.bl 0 (.lp (.sq (.sq (.rg [.mv 36 (.s 12),
   .mv 37 (.s 2),
   .ln 38 (.s 37),
   .bi 39 .lss (.s 36) (.s 38),
   .mv 40 (.s 39),
   .gd 40 true 41 (.mv 41 (.s 12)),
   .gd 40 true 42 (.bi 42 .lss (.s 41) (.c (.int .i64 100))),
   .pk 43 (.s 40) (.s 42) (.c (.bool false))])
  (.cd (.s 43) .sk (.ex 0)))
  (.sq (.bl 1 (.sq (.rg [.mv 46 (.s 9),
   .mv 47 (.s 10),
   .mv 48 (.s 2),
   .mv 49 (.s 12),
   .ia 50 4 (.s 48) (.s 49),
   .lda 51 4 (.s 50),
   .ce 52 20 [(.s 46), (.s 47), (.s 51)],
   .un 53 .not (.s 52)])
  (.cd (.s 53) (.sq (.rg [.mv 8 (.c (.bool false))])
  .rt) .sk)))
  (.rg [.mv 44 (.s 12),
   .bi 45 .add (.s 44) (.c (.int .i64 1)),
   .mv 12 (.s 45)]))))))
  (.sq (.rg [.mv 54 (.s 9),
   .lda 55 8 (.s 5),
   .ce 56 29 [(.s 54), (.s 55)],
   .mv 13 (.s 56)])
  (.sq (.sq (.rg [.lda 57 8 (.s 5),
   .cl 58 17 [(.s 57)],
   .mv 59 (.s 58),
   .gd 59 true 60 (.lda 60 8 (.s 4)),
   .gd 59 true 61 (.lda 61 8 (.s 5)),
   .gd 59 true 62 (.cl 62 30 [(.s 60), (.s 61)]),
   .pk 63 (.s 59) (.s 62) (.c (.bool false))])
  (.cd (.s 63) (.sq (.rg [.mv 64 (.s 10),
   .lda 65 8 (.s 5),
   .nc 66 (.s 64),
   .fa 67 (.s 66) 0,
   .st 8 (.s 67) (.s 65)])
  (.sq (.rg [.mv 68 (.s 13),
   .bi 69 .neq (.s 68) (.c (.int .i64 0))])
  (.cd (.s 69) (.sq (.rg [.mv 8 (.c (.bool false))])
  .rt) .sk))) (.sq (.rg [.mv 70 (.s 13),
   .bi 71 .neq (.s 70) (.c (.int .i64 2))])
  (.cd (.s 71) (.sq (.rg [.mv 8 (.c (.bool false))])
  .rt) .sk))))
  (.sq (.sq (.rg [.mv 14 (.c (.int .i64 0))])
  (.bl 2 (.lp (.sq (.sq (.rg [.mv 72 (.s 14),
   .mv 73 (.s 3),
   .ln 74 (.s 73),
   .bi 75 .lss (.s 72) (.s 74),
   .mv 76 (.s 75),
   .gd 76 true 77 (.mv 77 (.s 14)),
   .gd 76 true 78 (.bi 78 .lss (.s 77) (.c (.int .i64 100))),
   .pk 79 (.s 76) (.s 78) (.c (.bool false))])
  (.cd (.s 79) .sk (.ex 2)))
  (.sq (.bl 3 (.sq (.rg [.mv 82 (.s 9),
   .mv 83 (.s 10),
   .mv 84 (.s 3),
   .mv 85 (.s 14),
   .ia 86 4 (.s 84) (.s 85),
   .lda 87 4 (.s 86),
   .ce 88 20 [(.s 82), (.s 83), (.s 87)],
   .un 89 .not (.s 88)])
  (.cd (.s 89) (.sq (.rg [.mv 8 (.c (.bool false))])
  .rt) .sk)))
  (.rg [.mv 80 (.s 14),
   .bi 81 .add (.s 80) (.c (.int .i64 1)),
   .mv 14 (.s 81)]))))))
  (.sq (.rg [.mv 90 (.s 9),
   .mv 91 (.s 10),
   .ce 92 27 [(.s 90), (.s 91)],
   .mv 8 (.s 92)])
  .rt))))))))))
def a6 : AF := ⟨c6, [.t 8], 4, 93⟩
theorem m6 : mF Tryz.prog gl drD Tryz.f6 a6 = true := by kernel_rfl
theorem s6 {l : List AV} {r : AV} (hl : l.length = 4) (hi : idsL l = []) (h : wpA (SpH Tryz.prog gl) c6 (postA [.t 8] r) ⟨initE 0 l, [], []⟩) : Sp Tryz.prog gl 6 l r :=
  @fun_sp Tryz.prog gl drD 6 Tryz.f6 a6 Tryz.func6 m6 (dok _) l r hl hi h
theorem h6 {d : Nat} {I : In} {O : Out} (hl : I.vs.length = 4) (h : wpA (SpH Tryz.prog gl) c6 (postH d [.t 8] O) (inSt I)) : SpH Tryz.prog gl 6 d I O :=
  @fun_spH Tryz.prog gl drD 6 Tryz.f6 a6 Tryz.func6 m6 (dok _) d I O hl h
/-- firebell/firebelllaw20.MeterReads -/
def c7 : AC :=
 (.sq (.rg [.bx 3 (.s 0),
   .mv 6 (.c (.bool false))])
  (.sq (.sq (.rg [.cl 11 15 [],
   .un 12 .not (.s 11)])
  (.cd (.s 12) (.sq (.rg [.mv 6 (.c (.bool false))])
  .rt) .sk))
  (.sq (.sq (.rg [.lda 13 8 (.s 3),
   .cl 14 16 [(.s 13)],
   .mv 15 (.s 14),
   .gd 15 false 16 (.mv 16 (.s 1)),
   .gd 15 false 17 (.ln 17 (.s 16)),
   .gd 15 false 18 (.bi 18 .gtr (.s 17) (.c (.int .i64 5000))),
   .pk 19 (.s 15) (.c (.bool true)) (.s 18)])
  (.cd (.s 19) (.sq (.rg [.mv 6 (.c (.bool true))])
  .rt) .sk))
  (.sq (.rg [.mv 20 (.s 1),
   .ce 21 31 [(.s 20)],
   .mv 7 (.s 21)])
  (.sq (.rg [.mv 22 (.s 7),
   .lda 23 8 (.s 3),
   .mv 24 (.s 2),
   .ce 25 32 [(.s 22), (.s 23), (.s 24)],
   .mv 8 (.s 25)])
  (.sq (.rg [.mv 9 (.c (.int .i64 0)),
   .mv 10 (.c (.bool false))])
  (.sq (.sq (.rg [.lda 26 8 (.s 3),
   .cl 27 17 [(.s 26)]])
  (.cd (.s 27) (.rg [.mv 29 (.s 1),
   .lda 30 8 (.s 3),
   .mv 31 (.s 2),
   .cl 32 33 [(.s 29), (.s 30), (.s 31)],
   .mv 28 (.s 32),
   .exq 33 (.s 28) 0,
   .exq 34 (.s 28) 1,
   .mv 9 (.s 33),
   .mv 10 (.s 34)]) .sk))
  (.sq (.sq (.rg [.mv 35 (.s 10),
   .un 36 .not (.s 35)])
  (.cd (.s 36) (.sq (.rg [.mv 37 (.s 8),
   .pn 38 false (.s 37),
   .mv 39 (.s 38),
   .gd 39 true 40 (.mv 40 (.s 7)),
   .gd 39 true 41 (.ce 41 34 [(.s 40)]),
   .pk 42 (.s 39) (.s 41) (.c (.bool false)),
   .mv 6 (.s 42)])
  .rt) .sk))
  (.sq (.rd [[], [], [], [], [], [], [], [], [], [], [], [], [], [], [], [], [], [], [], [], [], [], [], [], [], [], [], [], [], [], [], [], []] [.mv 43 (.s 8),
   .pn 44 true (.s 43),
   .mv 45 (.s 44),
   .gd 45 true 46 (.mv 46 (.s 7)),
   .gd 45 true 47 (.cl 47 34 [(.s 46)]),
   .gd 45 true 48 (.un 48 .not (.s 47)),
   .pk 49 (.s 45) (.s 48) (.c (.bool false)),
   .mv 50 (.s 49),
   .gd 50 true 51 (.mv 51 (.s 7)),
   .gd 50 true 52 (.cl 52 35 [(.s 51)]),
   .gd 50 true 53 (.mv 53 (.s 1)),
   .gd 50 true 54 (.ln 54 (.s 53)),
   .gd 50 true 55 (.mv 55 (.s 9)),
   .gd 50 true 56 (.bi 56 .sub (.s 54) (.s 55)),
   .gd 50 true 57 (.bi 57 .eql (.s 52) (.s 56)),
   .pk 58 (.s 50) (.s 57) (.c (.bool false)),
   .mv 59 (.s 58),
   .gd 59 true 60 (.mv 60 (.s 8)),
   .gd 59 true 61 (.cl 61 28 [(.s 60)]),
   .gd 59 true 62 (.mv 62 (.s 2)),
   .gd 59 true 63 (.bi 63 .eql (.s 61) (.s 62)),
   .pk 64 (.s 59) (.s 63) (.c (.bool false)),
   .mv 65 (.s 64),
   .gd 65 true 66 (.mv 66 (.s 8)),
   .gd 65 true 67 (.cl 67 36 [(.s 66), (.c .nils)]),
   .gd 65 true 68 (.bq 68 (.s 67)),
   .gd 65 true 69 (.mv 69 (.s 1)),
   .gd 65 true 70 (.mv 70 (.s 9)),
   .gd 65 true 71 (.slc 71 1 (.s 69) none (some (.s 70))),
   .gd 65 true 72 (.bq 72 (.s 71)),
   .gd 65 true 73 (.bi 73 .eql (.s 68) (.s 72)),
   .pk 74 (.s 65) (.s 73) (.c (.bool false)),
   .mv 6 (.s 74)])
  .rt)))))))))
def a7 : AF := ⟨c7, [.t 6], 3, 75⟩
theorem m7 : mF Tryz.prog gl drD Tryz.f7 a7 = true := by kernel_rfl
theorem s7 {l : List AV} {r : AV} (hl : l.length = 3) (hi : idsL l = []) (h : wpA (SpH Tryz.prog gl) c7 (postA [.t 6] r) ⟨initE 0 l, [], []⟩) : Sp Tryz.prog gl 7 l r :=
  @fun_sp Tryz.prog gl drD 7 Tryz.f7 a7 Tryz.func7 m7 (dok _) l r hl hi h
theorem h7 {d : Nat} {I : In} {O : Out} (hl : I.vs.length = 3) (h : wpA (SpH Tryz.prog gl) c7 (postH d [.t 6] O) (inSt I)) : SpH Tryz.prog gl 7 d I O :=
  @fun_spH Tryz.prog gl drD 7 Tryz.f7 a7 Tryz.func7 m7 (dok _) d I O hl h
/-- firebell/firebelllaw21.BurnRules -/
def c8 : AC :=
 (.sq (.rg [.bx 4 (.s 0),
   .bx 7 (.s 3),
   .mv 8 (.c (.bool false))])
  (.sq (.sq (.rg [.cl 19 37 [],
   .un 20 .not (.s 19)])
  (.cd (.s 20) (.sq (.rg [.mv 8 (.c (.bool false))])
  .rt) .sk))
  (.sq (.sq (.rg [.lda 21 8 (.s 4),
   .cl 22 16 [(.s 21)],
   .mv 23 (.s 22),
   .gd 23 false 24 (.lda 24 8 (.s 4)),
   .gd 23 false 25 (.cl 25 17 [(.s 24)]),
   .gd 23 false 26 (.un 26 .not (.s 25)),
   .pk 27 (.s 23) (.c (.bool true)) (.s 26)])
  (.cd (.s 27) (.sq (.rg [.mv 8 (.c (.bool true))])
  .rt) .sk))
  (.sq (.rg [.lda 29 8 (.s 4),
   .ce 30 38 [(.s 29)],
   .mv 28 (.s 30),
   .exq 31 (.s 28) 0,
   .exq 32 (.s 28) 1,
   .mv 9 (.s 31),
   .mv 10 (.s 32)])
  (.sq (.rg [.lda 33 8 (.s 4),
   .bd 34 [(.str []), (.int .u32 0), (.int .i64 0), (.int .i64 0), (.int .i64 0), (.int .i64 0), .nils, .nils, (.int .i64 0), (.bool false), .nils] [(0, 8, (.s 33))],
   .bx 35 (.s 34),
   .mv 11 (.s 35)])
  (.sq (.sq (.rg [.mv 36 (.s 10),
   .bi 37 .neq (.s 36) (.c (.int .i64 0))])
  (.cd (.s 37) (.sq (.rg [.mv 8 (.c (.bool false))])
  .rt) .sk))
  (.sq (.sq (.rg [.mv 12 (.c (.int .i64 0))])
  (.bl 0 (.lp (.sq (.sq (.rg [.mv 38 (.s 12),
   .mv 39 (.s 1),
   .ln 40 (.s 39),
   .bi 41 .lss (.s 38) (.s 40),
   .mv 42 (.s 41),
   .gd 42 true 43 (.mv 43 (.s 12)),
   .gd 42 true 44 (.bi 44 .lss (.s 43) (.c (.int .i64 100))),
   .pk 45 (.s 42) (.s 44) (.c (.bool false))])
  (.cd (.s 45) .sk (.ex 0)))
  (.sq (.bl 1 (.sq (.rg [.mv 48 (.s 9),
   .mv 49 (.s 11),
   .mv 50 (.s 1),
   .mv 51 (.s 12),
   .ia 52 4 (.s 50) (.s 51),
   .lda 53 4 (.s 52),
   .ce 54 20 [(.s 48), (.s 49), (.s 53)],
   .un 55 .not (.s 54)])
  (.cd (.s 55) (.sq (.rg [.mv 8 (.c (.bool false))])
  .rt) .sk)))
  (.rg [.mv 46 (.s 12),
   .bi 47 .add (.s 46) (.c (.int .i64 1)),
   .mv 12 (.s 47)]))))))
  (.sq (.rg [.mv 57 (.s 9),
   .mv 58 (.s 2),
   .lda 59 7 (.s 7),
   .ce 60 39 [(.s 57), (.s 58), (.s 59)],
   .mv 56 (.s 60),
   .exq 61 (.s 56) 0,
   .exq 62 (.s 56) 1,
   .mv 13 (.s 61),
   .mv 14 (.s 62)])
  (.sq (.rg [.mv 64 (.s 11),
   .mv 65 (.s 2),
   .lda 66 7 (.s 7),
   .ce 67 40 [(.s 64), (.s 65), (.s 66)],
   .mv 63 (.s 67),
   .exq 68 (.s 63) 0,
   .exq 69 (.s 63) 1,
   .mv 15 (.s 68),
   .mv 16 (.s 69)])
  (.sq (.sq (.rg [.mv 70 (.s 13),
   .mv 71 (.s 15),
   .bb 72 true (.s 70) (.s 71),
   .mv 73 (.s 72),
   .gd 73 false 74 (.mv 74 (.s 14)),
   .gd 73 false 75 (.mv 75 (.s 16)),
   .gd 73 false 76 (.bi 76 .neq (.s 74) (.s 75)),
   .pk 77 (.s 73) (.c (.bool true)) (.s 76)])
  (.cd (.s 77) (.sq (.rg [.mv 8 (.c (.bool false))])
  .rt) .sk))
  (.sq (.sq (.rg [.mv 17 (.c (.int .i64 0))])
  (.bl 2 (.lp (.sq (.sq (.rg [.mv 78 (.s 17),
   .fa 79 (.s 4) 7,
   .lds 80 (.s 79),
   .ln 81 (.s 80),
   .bi 82 .lss (.s 78) (.s 81)])
  (.cd (.s 82) .sk (.ex 2)))
  (.sq (.bl 3 (.sq (.rd [[], [], [], [], [], [], [], [], [], [], [], [], [], []] [.mv 86 (.s 9),
   .fa 87 (.s 4) 1,
   .lds 88 (.s 87),
   .fa 89 (.s 4) 7,
   .lds 90 (.s 89),
   .mv 91 (.s 17),
   .ia 92 7 (.s 90) (.s 91),
   .lda 93 7 (.s 92),
   .cl 94 39 [(.s 86), (.s 88), (.s 93)],
   .mv 85 (.s 94),
   .exq 95 (.s 85) 0,
   .exq 96 (.s 85) 1,
   .mv 13 (.s 95),
   .mv 14 (.s 96)])
  (.sq (.rd [[], [], [], [], [], [], [], [], [], [], [], [], [], []] [.mv 98 (.s 11),
   .fa 99 (.s 4) 1,
   .lds 100 (.s 99),
   .fa 101 (.s 4) 7,
   .lds 102 (.s 101),
   .mv 103 (.s 17),
   .ia 104 7 (.s 102) (.s 103),
   .lda 105 7 (.s 104),
   .cl 106 40 [(.s 98), (.s 100), (.s 105)],
   .mv 97 (.s 106),
   .exq 107 (.s 97) 0,
   .exq 108 (.s 97) 1,
   .mv 15 (.s 107),
   .mv 16 (.s 108)])
  (.sq (.rg [.mv 109 (.s 13),
   .mv 110 (.s 15),
   .bb 111 true (.s 109) (.s 110),
   .mv 112 (.s 111),
   .gd 112 false 113 (.mv 113 (.s 14)),
   .gd 112 false 114 (.mv 114 (.s 16)),
   .gd 112 false 115 (.bi 115 .neq (.s 113) (.s 114)),
   .pk 116 (.s 112) (.c (.bool true)) (.s 115),
   .mv 117 (.s 116),
   .gd 117 false 118 (.mv 118 (.s 14)),
   .gd 117 false 119 (.bi 119 .eql (.s 118) (.c (.int .i64 17))),
   .gd 117 false 120 (.mv 120 (.s 11)),
   .gd 117 false 121 (.nc 121 (.s 120)),
   .gd 117 false 122 (.fa 122 (.s 121) 9),
   .gd 117 false 123 (.lds 123 (.s 122)),
   .gd 117 false 124 (.bb 124 true (.s 119) (.s 123)),
   .pk 125 (.s 117) (.c (.bool true)) (.s 124),
   .mv 126 (.s 125),
   .gd 126 false 127 (.mv 127 (.s 14)),
   .gd 126 false 128 (.bi 128 .neq (.s 127) (.c (.int .i64 17))),
   .gd 126 false 129 (.mv 129 (.s 128)),
   .gd 129 true 130 (.mv 130 (.s 14)),
   .gd 129 true 131 (.bi 131 .neq (.s 130) (.c (.int .i64 0))),
   .gd 126 false 132 (.pk 132 (.s 129) (.s 131) (.c (.bool false))),
   .pk 133 (.s 126) (.c (.bool true)) (.s 132)])
  (.cd (.s 133) (.sq (.rg [.mv 8 (.c (.bool false))])
  .rt) .sk)))))
  (.rg [.mv 83 (.s 17),
   .bi 84 .add (.s 83) (.c (.int .i64 1)),
   .mv 17 (.s 84)]))))))
  (.sq (.rg [.mv 18 (.c .nilp)])
  (.sq (.rg [.mv 135 (.s 18),
   .mv 136 (.s 2),
   .lda 137 7 (.s 7),
   .ce 138 39 [(.s 135), (.s 136), (.s 137)],
   .mv 134 (.s 138),
   .exq 139 (.s 134) 0,
   .exq 140 (.s 134) 1,
   .mv 13 (.s 139),
   .mv 14 (.s 140)])
  (.sq (.rg [.mv 141 (.s 13),
   .un 142 .not (.s 141),
   .mv 143 (.s 142),
   .gd 143 true 144 (.mv 144 (.s 14)),
   .gd 143 true 145 (.bi 145 .eql (.s 144) (.c (.int .i64 1))),
   .pk 146 (.s 143) (.s 145) (.c (.bool false)),
   .mv 8 (.s 146)])
  .rt))))))))))))))
def a8 : AF := ⟨c8, [.t 8], 4, 147⟩
theorem m8 : mF Tryz.prog gl drD Tryz.f8 a8 = true := by kernel_rfl
theorem s8 {l : List AV} {r : AV} (hl : l.length = 4) (hi : idsL l = []) (h : wpA (SpH Tryz.prog gl) c8 (postA [.t 8] r) ⟨initE 0 l, [], []⟩) : Sp Tryz.prog gl 8 l r :=
  @fun_sp Tryz.prog gl drD 8 Tryz.f8 a8 Tryz.func8 m8 (dok _) l r hl hi h
theorem h8 {d : Nat} {I : In} {O : Out} (hl : I.vs.length = 4) (h : wpA (SpH Tryz.prog gl) c8 (postH d [.t 8] O) (inSt I)) : SpH Tryz.prog gl 8 d I O :=
  @fun_spH Tryz.prog gl drD 8 Tryz.f8 a8 Tryz.func8 m8 (dok _) d I O hl h
/-- firebell/firebelllaw20.MeterBytes -/
def c9 : AC :=
 (.sq (.rg [.bx 3 (.s 0),
   .mv 6 (.c (.bool false))])
  (.sq (.sq (.rg [.cl 15 15 [],
   .un 16 .not (.s 15)])
  (.cd (.s 16) (.sq (.rg [.mv 6 (.c (.bool false))])
  .rt) .sk))
  (.sq (.sq (.rg [.lda 17 8 (.s 3),
   .cl 18 16 [(.s 17)],
   .mv 19 (.s 18),
   .gd 19 false 20 (.lda 20 8 (.s 3)),
   .gd 19 false 21 (.cl 21 17 [(.s 20)]),
   .gd 19 false 22 (.un 22 .not (.s 21)),
   .pk 23 (.s 19) (.c (.bool true)) (.s 22)])
  (.cd (.s 23) (.sq (.rg [.mv 6 (.c (.bool true))])
  .rt) .sk))
  (.sq (.rg [.lda 25 8 (.s 3),
   .ce 26 18 [(.s 25)],
   .mv 24 (.s 26),
   .exq 27 (.s 24) 0,
   .exq 28 (.s 24) 1,
   .exq 29 (.s 24) 2,
   .mv 7 (.s 27),
   .mv 8 (.s 28),
   .mv 9 (.s 29)])
  (.sq (.sq (.rg [.mv 30 (.s 8),
   .pn 31 false (.s 30)])
  (.cd (.s 31) (.sq (.rg [.mv 6 (.c (.bool false))])
  .rt) .sk))
  (.sq (.sq (.rg [.mv 10 (.c (.int .i64 0))])
  (.bl 0 (.lp (.sq (.sq (.rg [.mv 32 (.s 10),
   .mv 33 (.s 1),
   .ln 34 (.s 33),
   .bi 35 .lss (.s 32) (.s 34),
   .mv 36 (.s 35),
   .gd 36 true 37 (.mv 37 (.s 10)),
   .gd 36 true 38 (.bi 38 .lss (.s 37) (.c (.int .i64 100))),
   .pk 39 (.s 36) (.s 38) (.c (.bool false))])
  (.cd (.s 39) .sk (.ex 0)))
  (.sq (.bl 1 (.sq (.rg [.mv 42 (.s 7),
   .mv 43 (.s 8),
   .mv 44 (.s 1),
   .mv 45 (.s 10),
   .ia 46 4 (.s 44) (.s 45),
   .lda 47 4 (.s 46),
   .ce 48 20 [(.s 42), (.s 43), (.s 47)],
   .un 49 .not (.s 48)])
  (.cd (.s 49) (.sq (.rg [.mv 6 (.c (.bool false))])
  .rt) .sk)))
  (.rg [.mv 40 (.s 10),
   .bi 41 .add (.s 40) (.c (.int .i64 1)),
   .mv 10 (.s 41)]))))))
  (.sq (.rg [.mv 50 (.s 7),
   .bs 51 1 [(.c (.int .u8 7))],
   .ce 52 36 [(.s 50), (.s 51)],
   .mv 11 (.s 52)])
  (.sq (.rg [.mv 53 (.s 11),
   .slc 54 1 (.s 53) (some (.c (.int .i64 1))) none,
   .ce 55 31 [(.s 54)],
   .mv 12 (.s 55)])
  (.sq (.rd [[], [], [], [], [], []] [.mv 56 (.s 12),
   .lda 57 8 (.s 3),
   .mv 58 (.s 7),
   .cl 59 28 [(.s 58)],
   .cl 60 32 [(.s 56), (.s 57), (.s 59)],
   .mv 13 (.s 60)])
  (.sq (.sq (.rd [[], [], [], [], [], [], [], [], [], [], [], [], [], [], [], [], [], [], [], [], [], [], [], [], [], [], [], []] [.mv 61 (.s 11),
   .ia 62 1 (.s 61) (.c (.int .i64 0)),
   .lds 63 (.s 62),
   .bi 64 .neq (.s 63) (.c (.int .u8 7)),
   .mv 65 (.s 64),
   .gd 65 false 66 (.mv 66 (.s 11)),
   .gd 65 false 67 (.slc 67 1 (.s 66) (some (.c (.int .i64 1))) none),
   .gd 65 false 68 (.bq 68 (.s 67)),
   .gd 65 false 69 (.mv 69 (.s 8)),
   .gd 65 false 70 (.cl 70 41 [(.s 69)]),
   .gd 65 false 71 (.bq 71 (.s 70)),
   .gd 65 false 72 (.bi 72 .neq (.s 68) (.s 71)),
   .pk 73 (.s 65) (.c (.bool true)) (.s 72),
   .mv 74 (.s 73),
   .gd 74 false 75 (.mv 75 (.s 13)),
   .gd 74 false 76 (.pn 76 false (.s 75)),
   .pk 77 (.s 74) (.c (.bool true)) (.s 76),
   .mv 78 (.s 77),
   .gd 78 false 79 (.mv 79 (.s 12)),
   .gd 78 false 80 (.cl 80 42 [(.s 79)]),
   .gd 78 false 81 (.bi 81 .neq (.s 80) (.c (.int .i64 0))),
   .pk 82 (.s 78) (.c (.bool true)) (.s 81),
   .mv 83 (.s 82),
   .gd 83 false 84 (.mv 84 (.s 13)),
   .gd 83 false 85 (.mv 85 (.s 8)),
   .gd 83 false 86 (.cl 86 27 [(.s 84), (.s 85)]),
   .gd 83 false 87 (.un 87 .not (.s 86)),
   .pk 88 (.s 83) (.c (.bool true)) (.s 87)])
  (.cd (.s 88) (.sq (.rg [.mv 6 (.c (.bool false))])
  .rt) .sk))
  (.sq (.sq (.rg [.mv 14 (.c (.int .i64 0))])
  (.bl 2 (.lp (.sq (.sq (.rg [.mv 89 (.s 14),
   .mv 90 (.s 2),
   .ln 91 (.s 90),
   .bi 92 .lss (.s 89) (.s 91),
   .mv 93 (.s 92),
   .gd 93 true 94 (.mv 94 (.s 14)),
   .gd 93 true 95 (.bi 95 .lss (.s 94) (.c (.int .i64 100))),
   .pk 96 (.s 93) (.s 95) (.c (.bool false))])
  (.cd (.s 96) .sk (.ex 2)))
  (.sq (.bl 3 (.sq (.rg [.mv 99 (.s 13),
   .mv 100 (.s 8),
   .mv 101 (.s 2),
   .mv 102 (.s 14),
   .ia 103 4 (.s 101) (.s 102),
   .lda 104 4 (.s 103),
   .ce 105 20 [(.s 99), (.s 100), (.s 104)],
   .un 106 .not (.s 105)])
  (.cd (.s 106) (.sq (.rg [.mv 6 (.c (.bool false))])
  .rt) .sk)))
  (.rg [.mv 97 (.s 14),
   .bi 98 .add (.s 97) (.c (.int .i64 1)),
   .mv 14 (.s 98)]))))))
  (.sq (.rg [.mv 107 (.s 13),
   .mv 108 (.s 8),
   .ce 109 27 [(.s 107), (.s 108)],
   .mv 6 (.s 109)])
  .rt))))))))))))
def a9 : AF := ⟨c9, [.t 6], 3, 110⟩
theorem m9 : mF Tryz.prog gl drD Tryz.f9 a9 = true := by kernel_rfl
theorem s9 {l : List AV} {r : AV} (hl : l.length = 3) (hi : idsL l = []) (h : wpA (SpH Tryz.prog gl) c9 (postA [.t 6] r) ⟨initE 0 l, [], []⟩) : Sp Tryz.prog gl 9 l r :=
  @fun_sp Tryz.prog gl drD 9 Tryz.f9 a9 Tryz.func9 m9 (dok _) l r hl hi h
theorem h9 {d : Nat} {I : In} {O : Out} (hl : I.vs.length = 3) (h : wpA (SpH Tryz.prog gl) c9 (postH d [.t 6] O) (inSt I)) : SpH Tryz.prog gl 9 d I O :=
  @fun_spH Tryz.prog gl drD 9 Tryz.f9 a9 Tryz.func9 m9 (dok _) d I O hl h
/-- firebell/firebelllaw33.awake -/
def c10 : AC :=
 (.sq (.rg [.mv 0 (.c (.bool false))])
  (.sq (.rg [.bd 4 [(.int .i64 0), (.int .u64 0), .nils, (.int .i64 0), (.int .i64 0), (.int .i64 0), (.int .i64 0), (.int .i64 0), .nils, (.int .u64 0), .nils] [(0, 1, (.c (.int .i64 5)))],
   .cl 5 13 [(.s 4)],
   .cl 6 43 [(.s 5)],
   .mv 3 (.s 6),
   .exq 7 (.s 3) 0,
   .exq 8 (.s 3) 1,
   .mv 1 (.s 7),
   .mv 2 (.s 8)])
  (.sq (.rg [.mv 9 (.s 1),
   .bi 10 .eql (.s 9) (.c (.str [114, 101, 112, 111, 114, 116, 32, 97, 116, 32, 53, 32, 119, 97, 105, 116, 105, 110, 103, 32, 48, 32, 100, 114, 111, 112, 112, 101, 100, 32, 48, 10])),
   .mv 11 (.s 10),
   .gd 11 true 12 (.mv 12 (.s 2)),
   .gd 11 true 13 (.bi 13 .eql (.s 12) (.c (.int .i64 0))),
   .pk 14 (.s 11) (.s 13) (.c (.bool false)),
   .mv 0 (.s 14)])
  .rt)))
def a10 : AF := ⟨c10, [.t 0], 0, 15⟩
theorem m10 : mF Tryz.prog gl drD Tryz.f10 a10 = true := by kernel_rfl
theorem s10 {l : List AV} {r : AV} (hl : l.length = 0) (hi : idsL l = []) (h : wpA (SpH Tryz.prog gl) c10 (postA [.t 0] r) ⟨initE 0 l, [], []⟩) : Sp Tryz.prog gl 10 l r :=
  @fun_sp Tryz.prog gl drD 10 Tryz.f10 a10 Tryz.func10 m10 (dok _) l r hl hi h
theorem h10 {d : Nat} {I : In} {O : Out} (hl : I.vs.length = 0) (h : wpA (SpH Tryz.prog gl) c10 (postH d [.t 0] O) (inSt I)) : SpH Tryz.prog gl 10 d I O :=
  @fun_spH Tryz.prog gl drD 10 Tryz.f10 a10 Tryz.func10 m10 (dok _) d I O hl h
/-- firebell/firebellref33.Heavy -/
def c11 : AC :=
 (.sq (.rg [.bx 1 (.s 0),
   .mv 2 (.c (.bool false))])
  (.sq (.sq (.rg [.fa 4 (.s 1) 2,
   .lds 5 (.s 4),
   .ln 6 (.s 5),
   .bi 7 .gtr (.s 6) (.c (.int .i64 8)),
   .mv 8 (.s 7),
   .gd 8 false 9 (.fa 9 (.s 1) 8),
   .gd 8 false 10 (.lda 10 2 (.s 9)),
   .gd 8 false 11 (.cl 11 44 [(.s 10)]),
   .pk 12 (.s 8) (.c (.bool true)) (.s 11),
   .mv 13 (.s 12),
   .gd 13 false 14 (.fa 14 (.s 1) 10),
   .gd 13 false 15 (.lds 15 (.s 14)),
   .gd 13 false 16 (.cl 16 45 [(.s 15)]),
   .pk 17 (.s 13) (.c (.bool true)) (.s 16)])
  (.cd (.s 17) (.sq (.rg [.mv 2 (.c (.bool true))])
  .rt) .sk))
  (.sq (.sq (.rg [.mv 3 (.c (.int .i64 0))])
  (.bl 0 (.lp (.sq (.sq (.rg [.mv 18 (.s 3),
   .fa 19 (.s 1) 2,
   .lds 20 (.s 19),
   .ln 21 (.s 20),
   .bi 22 .lss (.s 18) (.s 21)])
  (.cd (.s 22) .sk (.ex 0)))
  (.sq (.bl 1 (.sq (.rg [.fa 25 (.s 1) 2,
   .lds 26 (.s 25),
   .mv 27 (.s 3),
   .ia 28 15 (.s 26) (.s 27),
   .fa 29 (.s 28) 0,
   .lda 30 8 (.s 29),
   .cl 31 16 [(.s 30)],
   .mv 32 (.s 31),
   .gd 32 false 33 (.fa 33 (.s 1) 2),
   .gd 32 false 34 (.lds 34 (.s 33)),
   .gd 32 false 35 (.mv 35 (.s 3)),
   .gd 32 false 36 (.ia 36 15 (.s 34) (.s 35)),
   .gd 32 false 37 (.fa 37 (.s 36) 9),
   .gd 32 false 38 (.lds 38 (.s 37)),
   .gd 32 false 39 (.ln 39 (.s 38)),
   .gd 32 false 40 (.bi 40 .gtr (.s 39) (.c (.int .i64 20))),
   .pk 41 (.s 32) (.c (.bool true)) (.s 40),
   .mv 42 (.s 41),
   .gd 42 false 43 (.fa 43 (.s 1) 2),
   .gd 42 false 44 (.lds 44 (.s 43)),
   .gd 42 false 45 (.mv 45 (.s 3)),
   .gd 42 false 46 (.ia 46 15 (.s 44) (.s 45)),
   .gd 42 false 47 (.fa 47 (.s 46) 14),
   .gd 42 false 48 (.lds 48 (.s 47)),
   .gd 42 false 49 (.ln 49 (.s 48)),
   .gd 42 false 50 (.bi 50 .gtr (.s 49) (.c (.int .i64 10))),
   .pk 51 (.s 42) (.c (.bool true)) (.s 50)])
  (.cd (.s 51) (.sq (.rg [.mv 2 (.c (.bool true))])
  .rt) .sk)))
  (.rg [.mv 23 (.s 3),
   .bi 24 .add (.s 23) (.c (.int .i64 1)),
   .mv 3 (.s 24)]))))))
  (.sq (.rg [.mv 2 (.c (.bool false))])
  .rt))))
def a11 : AF := ⟨c11, [.t 2], 1, 52⟩
theorem m11 : mF Tryz.prog gl drD Tryz.f11 a11 = true := by kernel_rfl
theorem s11 {l : List AV} {r : AV} (hl : l.length = 1) (hi : idsL l = []) (h : wpA (SpH Tryz.prog gl) c11 (postA [.t 2] r) ⟨initE 0 l, [], []⟩) : Sp Tryz.prog gl 11 l r :=
  @fun_sp Tryz.prog gl drD 11 Tryz.f11 a11 Tryz.func11 m11 (dok _) l r hl hi h
theorem h11 {d : Nat} {I : In} {O : Out} (hl : I.vs.length = 1) (h : wpA (SpH Tryz.prog gl) c11 (postH d [.t 2] O) (inSt I)) : SpH Tryz.prog gl 11 d I O :=
  @fun_spH Tryz.prog gl drD 11 Tryz.f11 a11 Tryz.func11 m11 (dok _) d I O hl h
/-- firebell/firebellref33.Same -/
def c12 : AC :=
 (.sq (.rg [.bx 2 (.s 0),
   .bx 3 (.s 1),
   .mv 4 (.c (.bool false))])
  (.sq (.sq (.rg [.fa 9 (.s 2) 0,
   .lds 10 (.s 9),
   .fa 11 (.s 3) 0,
   .lds 12 (.s 11),
   .bi 13 .neq (.s 10) (.s 12),
   .mv 14 (.s 13),
   .gd 14 false 15 (.fa 15 (.s 2) 1),
   .gd 14 false 16 (.lds 16 (.s 15)),
   .gd 14 false 17 (.fa 17 (.s 3) 1),
   .gd 14 false 18 (.lds 18 (.s 17)),
   .gd 14 false 19 (.bi 19 .neq (.s 16) (.s 18)),
   .pk 20 (.s 14) (.c (.bool true)) (.s 19),
   .mv 21 (.s 20),
   .gd 21 false 22 (.fa 22 (.s 2) 2),
   .gd 21 false 23 (.lds 23 (.s 22)),
   .gd 21 false 24 (.fa 24 (.s 3) 2),
   .gd 21 false 25 (.lds 25 (.s 24)),
   .gd 21 false 26 (.bi 26 .neq (.s 23) (.s 25)),
   .pk 27 (.s 21) (.c (.bool true)) (.s 26),
   .mv 28 (.s 27),
   .gd 28 false 29 (.fa 29 (.s 2) 3),
   .gd 28 false 30 (.lds 30 (.s 29)),
   .gd 28 false 31 (.ln 31 (.s 30)),
   .gd 28 false 32 (.fa 32 (.s 3) 3),
   .gd 28 false 33 (.lds 33 (.s 32)),
   .gd 28 false 34 (.ln 34 (.s 33)),
   .gd 28 false 35 (.bi 35 .neq (.s 31) (.s 34)),
   .pk 36 (.s 28) (.c (.bool true)) (.s 35)])
  (.cd (.s 36) (.sq (.rg [.mv 4 (.c (.bool false))])
  .rt) .sk))
  (.sq (.sq (.rg [.mv 5 (.c (.int .i64 0))])
  (.bl 0 (.lp (.sq (.sq (.rg [.mv 37 (.s 5),
   .fa 38 (.s 2) 3,
   .lds 39 (.s 38),
   .ln 40 (.s 39),
   .bi 41 .lss (.s 37) (.s 40)])
  (.cd (.s 41) .sk (.ex 0)))
  (.sq (.bl 1 (.sq (.rd [[], [], [], [], [], [], [], [], [], [], [1, 4, 6, 9], [1, 4, 6, 9, 10], [6, 9], []] [.fa 44 (.s 2) 3,
   .lds 45 (.s 44),
   .mv 46 (.s 5),
   .ia 47 12 (.s 45) (.s 46),
   .lda 48 12 (.s 47),
   .fa 49 (.s 3) 3,
   .lds 50 (.s 49),
   .mv 51 (.s 5),
   .ia 52 12 (.s 50) (.s 51),
   .lda 53 12 (.s 52),
   .al 6 [(.str []), (.bool false), (.bool false), (.int .u64 0), (.int .u64 0), (.bool false), (.int .u64 0), (.int .u64 0), (.int .i64 0), (.int .u64 0), (.int .u64 0), .nils],
   .al 7 [(.str []), (.bool false), (.bool false), (.int .u64 0), (.int .u64 0), (.bool false), (.int .u64 0), (.int .u64 0), (.int .i64 0), (.int .u64 0), (.int .u64 0), .nils],
   .st 12 (.s 6) (.s 48),
   .st 12 (.s 7) (.s 53)])
  (.sq (.sq (.rg [.fa 54 (.s 6) 0,
   .lds 55 (.s 54),
   .fa 56 (.s 7) 0,
   .lds 57 (.s 56),
   .bi 58 .neq (.s 55) (.s 57),
   .mv 59 (.s 58),
   .gd 59 false 60 (.fa 60 (.s 6) 1),
   .gd 59 false 61 (.lds 61 (.s 60)),
   .gd 59 false 62 (.fa 62 (.s 7) 1),
   .gd 59 false 63 (.lds 63 (.s 62)),
   .gd 59 false 64 (.bb 64 true (.s 61) (.s 63)),
   .pk 65 (.s 59) (.c (.bool true)) (.s 64),
   .mv 66 (.s 65),
   .gd 66 false 67 (.fa 67 (.s 6) 2),
   .gd 66 false 68 (.lda 68 3 (.s 67)),
   .gd 66 false 69 (.fa 69 (.s 7) 2),
   .gd 66 false 70 (.lda 70 3 (.s 69)),
   .gd 66 false 71 (.ea 71 true [.b, .i, .i] (.s 68) (.s 70)),
   .pk 72 (.s 66) (.c (.bool true)) (.s 71),
   .mv 73 (.s 72),
   .gd 73 false 74 (.fa 74 (.s 6) 5),
   .gd 73 false 75 (.lda 75 3 (.s 74)),
   .gd 73 false 76 (.fa 76 (.s 7) 5),
   .gd 73 false 77 (.lda 77 3 (.s 76)),
   .gd 73 false 78 (.ea 78 true [.b, .i, .i] (.s 75) (.s 77)),
   .pk 79 (.s 73) (.c (.bool true)) (.s 78),
   .mv 80 (.s 79),
   .gd 80 false 81 (.fa 81 (.s 6) 8),
   .gd 80 false 82 (.lda 82 3 (.s 81)),
   .gd 80 false 83 (.fa 83 (.s 7) 8),
   .gd 80 false 84 (.lda 84 3 (.s 83)),
   .gd 80 false 85 (.ea 85 true [.i, .i, .i] (.s 82) (.s 84)),
   .pk 86 (.s 80) (.c (.bool true)) (.s 85),
   .mv 87 (.s 86),
   .gd 87 false 88 (.fa 88 (.s 6) 11),
   .gd 87 false 89 (.lds 89 (.s 88)),
   .gd 87 false 90 (.ln 90 (.s 89)),
   .gd 87 false 91 (.fa 91 (.s 7) 11),
   .gd 87 false 92 (.lds 92 (.s 91)),
   .gd 87 false 93 (.ln 93 (.s 92)),
   .gd 87 false 94 (.bi 94 .neq (.s 90) (.s 93)),
   .pk 95 (.s 87) (.c (.bool true)) (.s 94)])
  (.cd (.s 95) (.sq (.rg [.mv 4 (.c (.bool false))])
  .rt) .sk))
  (.sq (.rg [.mv 8 (.c (.int .i64 0))])
  (.bl 2 (.lp (.sq (.sq (.rg [.mv 96 (.s 8),
   .fa 97 (.s 6) 11,
   .lds 98 (.s 97),
   .ln 99 (.s 98),
   .bi 100 .lss (.s 96) (.s 99)])
  (.cd (.s 100) .sk (.ex 2)))
  (.sq (.bl 3 (.sq (.rd [[], [], [], [], [], [], [], [], [], [], []] [.fa 103 (.s 6) 11,
   .lds 104 (.s 103),
   .mv 105 (.s 8),
   .ia 106 5 (.s 104) (.s 105),
   .lda 107 5 (.s 106),
   .fa 108 (.s 7) 11,
   .lds 109 (.s 108),
   .mv 110 (.s 8),
   .ia 111 5 (.s 109) (.s 110),
   .lda 112 5 (.s 111),
   .ea 113 true [.s, .b, .i, .i, .i] (.s 107) (.s 112)])
  (.cd (.s 113) (.sq (.rg [.mv 4 (.c (.bool false))])
  .rt) .sk)))
  (.rg [.mv 101 (.s 8),
   .bi 102 .add (.s 101) (.c (.int .i64 1)),
   .mv 8 (.s 102)])))))))))
  (.rg [.mv 42 (.s 5),
   .bi 43 .add (.s 42) (.c (.int .i64 1)),
   .mv 5 (.s 43)]))))))
  (.sq (.rg [.mv 4 (.c (.bool true))])
  .rt))))
def a12 : AF := ⟨c12, [.t 4], 2, 114⟩
theorem m12 : mF Tryz.prog gl drD Tryz.f12 a12 = true := by kernel_rfl
theorem s12 {l : List AV} {r : AV} (hl : l.length = 2) (hi : idsL l = []) (h : wpA (SpH Tryz.prog gl) c12 (postA [.t 4] r) ⟨initE 0 l, [], []⟩) : Sp Tryz.prog gl 12 l r :=
  @fun_sp Tryz.prog gl drD 12 Tryz.f12 a12 Tryz.func12 m12 (dok _) l r hl hi h
theorem h12 {d : Nat} {I : In} {O : Out} (hl : I.vs.length = 2) (h : wpA (SpH Tryz.prog gl) c12 (postH d [.t 4] O) (inSt I)) : SpH Tryz.prog gl 12 d I O :=
  @fun_spH Tryz.prog gl drD 12 Tryz.f12 a12 Tryz.func12 m12 (dok _) d I O hl h
/-- firebell/report.Of -/
def c13 : AC :=
 (.sq (.rg [.bx 1 (.s 0),
   .al 2 [(.int .i64 0), (.int .i64 0), (.int .u64 0), .nils]])
  (.sq (.rd [[], [], [], [], [], [], [], [], [], [1, 3, 7], []] [.fa 6 (.s 1) 0,
   .lds 7 (.s 6),
   .fa 8 (.s 1) 8,
   .lda 9 2 (.s 8),
   .cl 10 46 [(.s 9)],
   .fa 11 (.s 1) 8,
   .fa 12 (.s 11) 1,
   .lds 13 (.s 12),
   .bd 14 [(.int .i64 0), (.int .i64 0), (.int .u64 0), .nils] [(0, 1, (.s 7)), (1, 1, (.s 10)), (2, 1, (.s 13))],
   .al 3 [(.int .i64 0), (.int .i64 0), (.int .u64 0), .nils],
   .st 4 (.s 3) (.s 14)])
  (.sq (.sq (.rg [.fa 15 (.s 1) 2,
   .lds 16 (.s 15),
   .ln 17 (.s 16),
   .mv 18 (.c (.int .i64 0))])
  (.bl 0 (.lp (.sq (.rg [.bi 19 .lss (.s 18) (.s 17)])
  (.sq (.cd (.s 19) .sk (.ex 0))
  (.sq (.bl 1 (.sq (.rg [.ia 20 15 (.s 16) (.s 18),
   .lda 21 15 (.s 20),
   .al 5 [(.str []), (.int .u32 0), (.int .i64 0), (.int .i64 0), (.int .i64 0), (.int .i64 0), .nils, .nils, (.bool false), .nils, (.int .i64 0), (.int .i64 0), (.int .u64 0), (.int .u64 0), .nils],
   .st 15 (.s 5) (.s 21)])
  (.rd [[], [], [1], [], [], [], [], []] [.fa 22 (.s 3) 3,
   .lo 23 (.s 22),
   .lda 24 15 (.s 5),
   .cl 25 47 [(.s 24)],
   .bs 26 12 [(.s 25)],
   .ap 27 12 120 (.s 23) (.s 26),
   .fa 28 (.s 3) 3,
   .so (.s 28) 27])))
  (.rg [.bi 29 .add (.s 18) (.c (.int .i64 1)),
   .mv 18 (.s 29)])))))))
  (.sq (.rg [.lda 30 4 (.s 3),
   .st 4 (.s 2) (.s 30)])
  .rt))))
def a13 : AF := ⟨c13, [.ca 2 4], 1, 31⟩
theorem m13 : mF Tryz.prog gl drD Tryz.f13 a13 = true := by kernel_rfl
theorem s13 {l : List AV} {r : AV} (hl : l.length = 1) (hi : idsL l = []) (h : wpA (SpH Tryz.prog gl) c13 (postA [.ca 2 4] r) ⟨initE 0 l, [], []⟩) : Sp Tryz.prog gl 13 l r :=
  @fun_sp Tryz.prog gl drD 13 Tryz.f13 a13 Tryz.func13 m13 (dok _) l r hl hi h
theorem h13 {d : Nat} {I : In} {O : Out} (hl : I.vs.length = 1) (h : wpA (SpH Tryz.prog gl) c13 (postH d [.ca 2 4] O) (inSt I)) : SpH Tryz.prog gl 13 d I O :=
  @fun_spH Tryz.prog gl drD 13 Tryz.f13 a13 Tryz.func13 m13 (dok _) d I O hl h
/-- firebell/firebellref33.Of -/
def c14 : AC :=
 (.sq (.rg [.bx 1 (.s 0),
   .al 2 [(.int .i64 0), (.int .i64 0), (.int .u64 0), .nils]])
  (.sq (.rg [.fa 6 (.s 1) 0,
   .lds 7 (.s 6),
   .fa 8 (.s 1) 8,
   .fa 9 (.s 8) 1,
   .lds 10 (.s 9),
   .bd 11 [(.int .i64 0), (.int .i64 0), (.int .u64 0), .nils] [(0, 1, (.s 7)), (2, 1, (.s 10))],
   .al 3 [(.int .i64 0), (.int .i64 0), (.int .u64 0), .nils],
   .st 4 (.s 3) (.s 11)])
  (.sq (.sq (.rg [.mv 4 (.c (.int .i64 0))])
  (.bl 0 (.lp (.sq (.sq (.rg [.mv 12 (.s 4),
   .fa 13 (.s 1) 8,
   .fa 14 (.s 13) 0,
   .lds 15 (.s 14),
   .ln 16 (.s 15),
   .bi 17 .lss (.s 12) (.s 16)])
  (.cd (.s 17) .sk (.ex 0)))
  (.sq (.bl 1 (.sq (.rg [.fa 20 (.s 1) 8,
   .fa 21 (.s 20) 0,
   .lds 22 (.s 21),
   .mv 23 (.s 4),
   .ia 24 9 (.s 22) (.s 23),
   .fa 25 (.s 24) 8,
   .lds 26 (.s 25),
   .un 27 .not (.s 26)])
  (.cd (.s 27) (.rg [.fa 28 (.s 3) 1,
   .lds 29 (.s 28),
   .bi 30 .add (.s 29) (.c (.int .i64 1)),
   .fa 31 (.s 3) 1,
   .st 1 (.s 31) (.s 30)]) .sk)))
  (.rg [.mv 18 (.s 4),
   .bi 19 .add (.s 18) (.c (.int .i64 1)),
   .mv 4 (.s 19)]))))))
  (.sq (.sq (.rg [.mv 5 (.c (.int .i64 0))])
  (.bl 2 (.lp (.sq (.sq (.rg [.mv 32 (.s 5),
   .fa 33 (.s 1) 2,
   .lds 34 (.s 33),
   .ln 35 (.s 34),
   .bi 36 .lss (.s 32) (.s 35)])
  (.cd (.s 36) .sk (.ex 2)))
  (.sq (.bl 3 (.rd [[], [], [], [1], [], [], [1], [], [], [], [], []] [.fa 39 (.s 3) 3,
   .lo 40 (.s 39),
   .fa 41 (.s 1) 2,
   .lds 42 (.s 41),
   .mv 43 (.s 5),
   .ia 44 15 (.s 42) (.s 43),
   .lda 45 15 (.s 44),
   .cl 46 48 [(.s 45)],
   .bs 47 12 [(.s 46)],
   .ap 48 12 120 (.s 40) (.s 47),
   .fa 49 (.s 3) 3,
   .so (.s 49) 48]))
  (.rg [.mv 37 (.s 5),
   .bi 38 .add (.s 37) (.c (.int .i64 1)),
   .mv 5 (.s 38)]))))))
  (.sq (.rg [.lda 50 4 (.s 3),
   .st 4 (.s 2) (.s 50)])
  .rt)))))
def a14 : AF := ⟨c14, [.ca 2 4], 1, 51⟩
theorem m14 : mF Tryz.prog gl drD Tryz.f14 a14 = true := by kernel_rfl
theorem s14 {l : List AV} {r : AV} (hl : l.length = 1) (hi : idsL l = []) (h : wpA (SpH Tryz.prog gl) c14 (postA [.ca 2 4] r) ⟨initE 0 l, [], []⟩) : Sp Tryz.prog gl 14 l r :=
  @fun_sp Tryz.prog gl drD 14 Tryz.f14 a14 Tryz.func14 m14 (dok _) l r hl hi h
theorem h14 {d : Nat} {I : In} {O : Out} (hl : I.vs.length = 1) (h : wpA (SpH Tryz.prog gl) c14 (postH d [.ca 2 4] O) (inSt I)) : SpH Tryz.prog gl 14 d I O :=
  @fun_spH Tryz.prog gl drD 14 Tryz.f14 a14 Tryz.func14 m14 (dok _) d I O hl h
/-- firebell/firebelllaw20.awake -/
def c15 : AC :=
 (.sq (.rg [.mv 0 (.c (.bool false))])
  (.sq (.rg [.bd 9 [(.str []), (.bool false), (.int .i64 0), (.int .i64 0), (.int .u64 0), (.int .i64 0), (.int .i64 0)] [(0, 1, (.c (.str [114]))), (2, 1, (.c (.int .i64 100))), (3, 1, (.c (.int .i64 10))), (4, 1, (.c (.int .u64 1)))],
   .bs 10 7 [(.s 9)],
   .bd 11 [(.str []), (.int .u32 0), (.int .i64 0), (.int .i64 0), (.int .i64 0), (.int .i64 0), .nils, .nils] [(0, 1, (.c (.str [97]))), (1, 1, (.c (.int .u32 5))), (2, 1, (.c (.int .i64 10))), (3, 1, (.c (.int .i64 10))), (7, 1, (.s 10))],
   .al 1 [(.str []), (.int .u32 0), (.int .i64 0), (.int .i64 0), (.int .i64 0), (.int .i64 0), .nils, .nils],
   .st 8 (.s 1) (.s 11)])
  (.sq (.rg [.lda 13 8 (.s 1),
   .ce 14 38 [(.s 13)],
   .mv 12 (.s 14),
   .exq 15 (.s 12) 0,
   .exq 16 (.s 12) 1,
   .mv 2 (.s 15),
   .mv 3 (.s 16)])
  (.sq (.rg [.mv 17 (.s 2),
   .ce 18 49 [(.s 17), (.c (.int .i64 100))]])
  (.sq (.rg [.mv 19 (.s 2),
   .bd 20 [(.int .u64 0), (.int .u64 0)] [(0, 1, (.c (.int .u64 1))), (1, 1, (.c (.int .u64 2)))],
   .ce 21 26 [(.s 19), (.c (.int .i64 90)), (.s 20)],
   .mv 22 (.s 2),
   .bd 23 [(.int .u64 0), (.int .u64 0)] [],
   .ce 24 26 [(.s 22), (.c (.int .i64 89)), (.s 23)],
   .mv 25 (.s 2),
   .bd 26 [(.int .u64 0), (.int .u64 0)] [],
   .ce 27 26 [(.s 25), (.c (.int .i64 101)), (.s 26)],
   .mv 4 (.s 21),
   .mv 5 (.s 24),
   .mv 6 (.s 27)])
  (.sq (.rg [.mv 29 (.s 2),
   .ce 30 21 [(.s 29), (.c (.int .i64 100))],
   .mv 28 (.s 30),
   .exq 31 (.s 28) 0,
   .exq 32 (.s 28) 1,
   .al 7 [(.int .u64 0), (.int .u64 0)],
   .st 2 (.s 7) (.s 31),
   .mv 8 (.s 32)])
  (.sq (.rg [.mv 33 (.s 3),
   .bi 34 .eql (.s 33) (.c (.int .i64 0)),
   .mv 35 (.s 34),
   .gd 35 true 36 (.mv 36 (.s 4)),
   .gd 35 true 37 (.bi 37 .eql (.s 36) (.c (.int .i64 0))),
   .pk 38 (.s 35) (.s 37) (.c (.bool false)),
   .mv 39 (.s 38),
   .gd 39 true 40 (.mv 40 (.s 5)),
   .gd 39 true 41 (.bi 41 .eql (.s 40) (.c (.int .i64 13))),
   .pk 42 (.s 39) (.s 41) (.c (.bool false)),
   .mv 43 (.s 42),
   .gd 43 true 44 (.mv 44 (.s 6)),
   .gd 43 true 45 (.bi 45 .eql (.s 44) (.c (.int .i64 14))),
   .pk 46 (.s 43) (.s 45) (.c (.bool false)),
   .mv 47 (.s 46),
   .gd 47 true 48 (.mv 48 (.s 8)),
   .gd 47 true 49 (.bi 49 .eql (.s 48) (.c (.int .i64 0))),
   .pk 50 (.s 47) (.s 49) (.c (.bool false)),
   .mv 51 (.s 50),
   .gd 51 true 52 (.lda 52 2 (.s 7)),
   .gd 51 true 53 (.bd 53 [(.int .u64 0), (.int .u64 0)] [(0, 1, (.c (.int .u64 1))), (1, 1, (.c (.int .u64 2)))]),
   .gd 51 true 54 (.ea 54 false [.i, .i] (.s 52) (.s 53)),
   .pk 55 (.s 51) (.s 54) (.c (.bool false)),
   .mv 0 (.s 55)])
  .rt)))))))
def a15 : AF := ⟨c15, [.t 0], 0, 56⟩
theorem m15 : mF Tryz.prog gl drD Tryz.f15 a15 = true := by kernel_rfl
theorem s15 {l : List AV} {r : AV} (hl : l.length = 0) (hi : idsL l = []) (h : wpA (SpH Tryz.prog gl) c15 (postA [.t 0] r) ⟨initE 0 l, [], []⟩) : Sp Tryz.prog gl 15 l r :=
  @fun_sp Tryz.prog gl drD 15 Tryz.f15 a15 Tryz.func15 m15 (dok _) l r hl hi h
theorem h15 {d : Nat} {I : In} {O : Out} (hl : I.vs.length = 0) (h : wpA (SpH Tryz.prog gl) c15 (postH d [.t 0] O) (inSt I)) : SpH Tryz.prog gl 15 d I O :=
  @fun_spH Tryz.prog gl drD 15 Tryz.f15 a15 Tryz.func15 m15 (dok _) d I O hl h
/-- firebell/firebellref17.HeavyGoal -/
def c16 : AC :=
 (.sq (.rg [.bx 1 (.s 0),
   .mv 2 (.c (.bool false))])
  (.sq (.sq (.rg [.fa 5 (.s 1) 0,
   .lds 6 (.s 5),
   .lns 7 (.s 6),
   .bi 8 .gtr (.s 7) (.c (.int .i64 2000)),
   .mv 9 (.s 8),
   .gd 9 false 10 (.fa 10 (.s 1) 6),
   .gd 9 false 11 (.lds 11 (.s 10)),
   .gd 9 false 12 (.ln 12 (.s 11)),
   .gd 9 false 13 (.bi 13 .gtr (.s 12) (.c (.int .i64 10))),
   .pk 14 (.s 9) (.c (.bool true)) (.s 13),
   .mv 15 (.s 14),
   .gd 15 false 16 (.fa 16 (.s 1) 7),
   .gd 15 false 17 (.lds 17 (.s 16)),
   .gd 15 false 18 (.ln 18 (.s 17)),
   .gd 15 false 19 (.bi 19 .gtr (.s 18) (.c (.int .i64 10))),
   .pk 20 (.s 15) (.c (.bool true)) (.s 19)])
  (.cd (.s 20) (.sq (.rg [.mv 2 (.c (.bool true))])
  .rt) .sk))
  (.sq (.sq (.rg [.mv 3 (.c (.int .i64 0))])
  (.bl 0 (.lp (.sq (.sq (.rg [.mv 21 (.s 3),
   .fa 22 (.s 1) 6,
   .lds 23 (.s 22),
   .ln 24 (.s 23),
   .bi 25 .lss (.s 21) (.s 24)])
  (.cd (.s 25) .sk (.ex 0)))
  (.sq (.bl 1 (.sq (.rg [.fa 28 (.s 1) 6,
   .lds 29 (.s 28),
   .mv 30 (.s 3),
   .ia 31 2 (.s 29) (.s 30),
   .fa 32 (.s 31) 0,
   .lds 33 (.s 32),
   .lns 34 (.s 33),
   .bi 35 .gtr (.s 34) (.c (.int .i64 2000)),
   .mv 36 (.s 35),
   .gd 36 false 37 (.fa 37 (.s 1) 6),
   .gd 36 false 38 (.lds 38 (.s 37)),
   .gd 36 false 39 (.mv 39 (.s 3)),
   .gd 36 false 40 (.ia 40 2 (.s 38) (.s 39)),
   .gd 36 false 41 (.fa 41 (.s 40) 1),
   .gd 36 false 42 (.lds 42 (.s 41)),
   .gd 36 false 43 (.lns 43 (.s 42)),
   .gd 36 false 44 (.bi 44 .gtr (.s 43) (.c (.int .i64 2000))),
   .pk 45 (.s 36) (.c (.bool true)) (.s 44)])
  (.cd (.s 45) (.sq (.rg [.mv 2 (.c (.bool true))])
  .rt) .sk)))
  (.rg [.mv 26 (.s 3),
   .bi 27 .add (.s 26) (.c (.int .i64 1)),
   .mv 3 (.s 27)]))))))
  (.sq (.sq (.rg [.mv 4 (.c (.int .i64 0))])
  (.bl 2 (.lp (.sq (.sq (.rg [.mv 46 (.s 4),
   .fa 47 (.s 1) 7,
   .lds 48 (.s 47),
   .ln 49 (.s 48),
   .bi 50 .lss (.s 46) (.s 49)])
  (.cd (.s 50) .sk (.ex 2)))
  (.sq (.bl 3 (.sq (.rg [.fa 53 (.s 1) 7,
   .lds 54 (.s 53),
   .mv 55 (.s 4),
   .ia 56 7 (.s 54) (.s 55),
   .fa 57 (.s 56) 0,
   .lds 58 (.s 57),
   .lns 59 (.s 58),
   .bi 60 .gtr (.s 59) (.c (.int .i64 2000))])
  (.cd (.s 60) (.sq (.rg [.mv 2 (.c (.bool true))])
  .rt) .sk)))
  (.rg [.mv 51 (.s 4),
   .bi 52 .add (.s 51) (.c (.int .i64 1)),
   .mv 4 (.s 52)]))))))
  (.sq (.rg [.mv 2 (.c (.bool false))])
  .rt)))))
def a16 : AF := ⟨c16, [.t 2], 1, 61⟩
theorem m16 : mF Tryz.prog gl drD Tryz.f16 a16 = true := by kernel_rfl
theorem s16 {l : List AV} {r : AV} (hl : l.length = 1) (hi : idsL l = []) (h : wpA (SpH Tryz.prog gl) c16 (postA [.t 2] r) ⟨initE 0 l, [], []⟩) : Sp Tryz.prog gl 16 l r :=
  @fun_sp Tryz.prog gl drD 16 Tryz.f16 a16 Tryz.func16 m16 (dok _) l r hl hi h
theorem h16 {d : Nat} {I : In} {O : Out} (hl : I.vs.length = 1) (h : wpA (SpH Tryz.prog gl) c16 (postH d [.t 2] O) (inSt I)) : SpH Tryz.prog gl 16 d I O :=
  @fun_spH Tryz.prog gl drD 16 Tryz.f16 a16 Tryz.func16 m16 (dok _) d I O hl h
/-- firebell/firebellref17.RightGoal -/
def c17 : AC :=
 (.sq (.rg [.bx 1 (.s 0),
   .mv 2 (.c (.bool false))])
  (.sq (.sq (.rg [.fa 8 (.s 1) 0,
   .lds 9 (.s 8),
   .cl 10 50 [(.s 9)],
   .un 11 .not (.s 10),
   .mv 12 (.s 11),
   .gd 12 false 13 (.fa 13 (.s 1) 1),
   .gd 12 false 14 (.lds 14 (.s 13)),
   .gd 12 false 15 (.bi 15 .lss (.s 14) (.c (.int .u32 1))),
   .pk 16 (.s 12) (.c (.bool true)) (.s 15),
   .mv 17 (.s 16),
   .gd 17 false 18 (.fa 18 (.s 1) 1),
   .gd 17 false 19 (.lds 19 (.s 18)),
   .gd 17 false 20 (.bi 20 .gtr (.s 19) (.c (.int .u32 999999))),
   .pk 21 (.s 17) (.c (.bool true)) (.s 20),
   .mv 22 (.s 21),
   .gd 22 false 23 (.fa 23 (.s 1) 2),
   .gd 22 false 24 (.lds 24 (.s 23)),
   .gd 22 false 25 (.cl 25 51 [(.s 24), (.c (.int .i64 1)), (.c (.int .i64 86400))]),
   .gd 22 false 26 (.un 26 .not (.s 25)),
   .pk 27 (.s 22) (.c (.bool true)) (.s 26),
   .mv 28 (.s 27),
   .gd 28 false 29 (.fa 29 (.s 1) 3),
   .gd 28 false 30 (.lds 30 (.s 29)),
   .gd 28 false 31 (.cl 31 51 [(.s 30), (.c (.int .i64 0)), (.c (.int .i64 86400))]),
   .gd 28 false 32 (.un 32 .not (.s 31)),
   .pk 33 (.s 28) (.c (.bool true)) (.s 32),
   .mv 34 (.s 33),
   .gd 34 false 35 (.fa 35 (.s 1) 4),
   .gd 34 false 36 (.lds 36 (.s 35)),
   .gd 34 false 37 (.cl 37 51 [(.s 36), (.c (.int .i64 0)), (.c (.int .i64 34560000))]),
   .gd 34 false 38 (.un 38 .not (.s 37)),
   .pk 39 (.s 34) (.c (.bool true)) (.s 38),
   .mv 40 (.s 39),
   .gd 40 false 41 (.fa 41 (.s 1) 4),
   .gd 40 false 42 (.lds 42 (.s 41)),
   .gd 40 false 43 (.fa 43 (.s 1) 2),
   .gd 40 false 44 (.lds 44 (.s 43)),
   .gd 40 false 45 (.bi 45 .rem (.s 42) (.s 44)),
   .gd 40 false 46 (.bi 46 .neq (.s 45) (.c (.int .i64 0))),
   .pk 47 (.s 40) (.c (.bool true)) (.s 46),
   .mv 48 (.s 47),
   .gd 48 false 49 (.fa 49 (.s 1) 5),
   .gd 48 false 50 (.lds 50 (.s 49)),
   .gd 48 false 51 (.bi 51 .lss (.s 50) (.c (.int .i64 0))),
   .pk 52 (.s 48) (.c (.bool true)) (.s 51),
   .mv 53 (.s 52),
   .gd 53 false 54 (.fa 54 (.s 1) 5),
   .gd 53 false 55 (.lds 55 (.s 54)),
   .gd 53 false 56 (.bi 56 .gtr (.s 55) (.c (.int .i64 2))),
   .pk 57 (.s 53) (.c (.bool true)) (.s 56),
   .mv 58 (.s 57),
   .gd 58 false 59 (.fa 59 (.s 1) 6),
   .gd 58 false 60 (.lds 60 (.s 59)),
   .gd 58 false 61 (.ln 61 (.s 60)),
   .gd 58 false 62 (.bi 62 .gtr (.s 61) (.c (.int .i64 4))),
   .pk 63 (.s 58) (.c (.bool true)) (.s 62),
   .mv 64 (.s 63),
   .gd 64 false 65 (.fa 65 (.s 1) 7),
   .gd 64 false 66 (.lds 66 (.s 65)),
   .gd 64 false 67 (.ln 67 (.s 66)),
   .gd 64 false 68 (.bi 68 .lss (.s 67) (.c (.int .i64 1))),
   .pk 69 (.s 64) (.c (.bool true)) (.s 68),
   .mv 70 (.s 69),
   .gd 70 false 71 (.fa 71 (.s 1) 7),
   .gd 70 false 72 (.lds 72 (.s 71)),
   .gd 70 false 73 (.ln 73 (.s 72)),
   .gd 70 false 74 (.bi 74 .gtr (.s 73) (.c (.int .i64 4))),
   .pk 75 (.s 70) (.c (.bool true)) (.s 74)])
  (.cd (.s 75) (.sq (.rg [.mv 2 (.c (.bool false))])
  .rt) .sk))
  (.sq (.sq (.rg [.mv 3 (.c (.int .i64 0))])
  (.bl 0 (.lp (.sq (.sq (.rg [.mv 76 (.s 3),
   .fa 77 (.s 1) 6,
   .lds 78 (.s 77),
   .ln 79 (.s 78),
   .bi 80 .lss (.s 76) (.s 79)])
  (.cd (.s 80) .sk (.ex 0)))
  (.sq (.bl 1 (.sq (.rg [.fa 83 (.s 1) 6,
   .lds 84 (.s 83),
   .mv 85 (.s 3),
   .ia 86 2 (.s 84) (.s 85),
   .lda 87 2 (.s 86),
   .al 4 [(.str []), (.str [])],
   .st 2 (.s 4) (.s 87)])
  (.sq (.sq (.rg [.fa 88 (.s 4) 0,
   .lds 89 (.s 88),
   .cl 90 50 [(.s 89)],
   .un 91 .not (.s 90),
   .mv 92 (.s 91),
   .gd 92 false 93 (.fa 93 (.s 4) 1),
   .gd 92 false 94 (.lds 94 (.s 93)),
   .gd 92 false 95 (.cl 95 52 [(.s 94)]),
   .gd 92 false 96 (.un 96 .not (.s 95)),
   .pk 97 (.s 92) (.c (.bool true)) (.s 96),
   .mv 98 (.s 97),
   .gd 98 false 99 (.fa 99 (.s 4) 1),
   .gd 98 false 100 (.lds 100 (.s 99)),
   .gd 98 false 101 (.cl 101 53 [(.s 100)]),
   .gd 98 false 102 (.ln 102 (.s 101)),
   .gd 98 false 103 (.bi 103 .gtr (.s 102) (.c (.int .i64 120))),
   .pk 104 (.s 98) (.c (.bool true)) (.s 103)])
  (.cd (.s 104) (.sq (.rg [.mv 2 (.c (.bool false))])
  .rt) .sk))
  (.sq (.rg [.mv 5 (.c (.int .i64 0))])
  (.bl 2 (.lp (.sq (.sq (.rg [.mv 105 (.s 5),
   .mv 106 (.s 3),
   .bi 107 .lss (.s 105) (.s 106)])
  (.cd (.s 107) .sk (.ex 2)))
  (.sq (.bl 3 (.sq (.rd [[], [], [], [], [], [], [], [], []] [.fa 110 (.s 1) 6,
   .lds 111 (.s 110),
   .mv 112 (.s 5),
   .ia 113 2 (.s 111) (.s 112),
   .fa 114 (.s 113) 0,
   .lds 115 (.s 114),
   .fa 116 (.s 4) 0,
   .lds 117 (.s 116),
   .bi 118 .eql (.s 115) (.s 117)])
  (.cd (.s 118) (.sq (.rg [.mv 2 (.c (.bool false))])
  .rt) .sk)))
  (.rg [.mv 108 (.s 5),
   .bi 109 .add (.s 108) (.c (.int .i64 1)),
   .mv 5 (.s 109)])))))))))
  (.rg [.mv 81 (.s 3),
   .bi 82 .add (.s 81) (.c (.int .i64 1)),
   .mv 3 (.s 82)]))))))
  (.sq (.sq (.rg [.mv 6 (.c (.int .i64 0))])
  (.bl 4 (.lp (.sq (.sq (.rg [.mv 119 (.s 6),
   .fa 120 (.s 1) 7,
   .lds 121 (.s 120),
   .ln 122 (.s 121),
   .bi 123 .lss (.s 119) (.s 122)])
  (.cd (.s 123) .sk (.ex 4)))
  (.sq (.bl 5 (.sq (.sq (.rd [[], [], [], [], [], [], [], [], []] [.fa 126 (.s 1) 7,
   .lds 127 (.s 126),
   .mv 128 (.s 6),
   .ia 129 7 (.s 127) (.s 128),
   .lda 130 7 (.s 129),
   .fa 131 (.s 1) 2,
   .lds 132 (.s 131),
   .cl 133 54 [(.s 130), (.s 132)],
   .un 134 .not (.s 133)])
  (.cd (.s 134) (.sq (.rg [.mv 2 (.c (.bool false))])
  .rt) .sk))
  (.sq (.rg [.mv 7 (.c (.int .i64 0))])
  (.bl 6 (.lp (.sq (.sq (.rg [.mv 135 (.s 7),
   .mv 136 (.s 6),
   .bi 137 .lss (.s 135) (.s 136)])
  (.cd (.s 137) .sk (.ex 6)))
  (.sq (.bl 7 (.sq (.rd [[], [], [], [], [], [], [], [], [], [], [], [], []] [.fa 140 (.s 1) 7,
   .lds 141 (.s 140),
   .mv 142 (.s 7),
   .ia 143 7 (.s 141) (.s 142),
   .fa 144 (.s 143) 0,
   .lds 145 (.s 144),
   .fa 146 (.s 1) 7,
   .lds 147 (.s 146),
   .mv 148 (.s 6),
   .ia 149 7 (.s 147) (.s 148),
   .fa 150 (.s 149) 0,
   .lds 151 (.s 150),
   .bi 152 .eql (.s 145) (.s 151)])
  (.cd (.s 152) (.sq (.rg [.mv 2 (.c (.bool false))])
  .rt) .sk)))
  (.rg [.mv 138 (.s 7),
   .bi 139 .add (.s 138) (.c (.int .i64 1)),
   .mv 7 (.s 139)]))))))))
  (.rg [.mv 124 (.s 6),
   .bi 125 .add (.s 124) (.c (.int .i64 1)),
   .mv 6 (.s 125)]))))))
  (.sq (.rg [.mv 2 (.c (.bool true))])
  .rt)))))
def a17 : AF := ⟨c17, [.t 2], 1, 153⟩
theorem m17 : mF Tryz.prog gl drD Tryz.f17 a17 = true := by kernel_rfl
theorem s17 {l : List AV} {r : AV} (hl : l.length = 1) (hi : idsL l = []) (h : wpA (SpH Tryz.prog gl) c17 (postA [.t 2] r) ⟨initE 0 l, [], []⟩) : Sp Tryz.prog gl 17 l r :=
  @fun_sp Tryz.prog gl drD 17 Tryz.f17 a17 Tryz.func17 m17 (dok _) l r hl hi h
theorem h17 {d : Nat} {I : In} {O : Out} (hl : I.vs.length = 1) (h : wpA (SpH Tryz.prog gl) c17 (postH d [.t 2] O) (inSt I)) : SpH Tryz.prog gl 17 d I O :=
  @fun_spH Tryz.prog gl drD 17 Tryz.f17 a17 Tryz.func17 m17 (dok _) d I O hl h
/-- firebell/firebelllaw20.fresh -/
def c18 : AC :=
 (.sq (.rg [.bx 1 (.s 0),
   .mv 2 (.c .nilp),
   .mv 3 (.c .nilp),
   .mv 4 (.c (.bool false))])
  (.sq (.rg [.lda 8 8 (.s 1),
   .ce 9 38 [(.s 8)],
   .mv 7 (.s 9),
   .exq 10 (.s 7) 0,
   .exq 11 (.s 7) 1,
   .mv 5 (.s 10),
   .mv 6 (.s 11)])
  (.sq (.sq (.rg [.lda 12 8 (.s 1),
   .cl 13 17 [(.s 12)],
   .un 14 .not (.s 13)])
  (.cd (.s 14) (.sq (.rg [.mv 15 (.s 5),
   .pn 16 true (.s 15),
   .mv 17 (.s 16),
   .gd 17 false 18 (.mv 18 (.s 6)),
   .gd 17 false 19 (.bi 19 .neq (.s 18) (.c (.int .i64 2))),
   .pk 20 (.s 17) (.c (.bool true)) (.s 19),
   .mv 2 (.c .nilp),
   .mv 3 (.c .nilp),
   .mv 4 (.s 20)])
  .rt) .sk))
  (.sq (.sq (.rg [.mv 21 (.s 6),
   .bi 22 .neq (.s 21) (.c (.int .i64 0))])
  (.cd (.s 22) (.sq (.rg [.mv 2 (.c .nilp),
   .mv 3 (.c .nilp),
   .mv 4 (.c (.bool true))])
  .rt) .sk))
  (.sq (.rd [[], [], [], [], [], [], []] [.mv 23 (.s 5),
   .lda 24 8 (.s 1),
   .bd 25 [(.str []), (.int .u32 0), (.int .i64 0), (.int .i64 0), (.int .i64 0), (.int .i64 0), .nils, .nils, (.int .i64 0), (.bool false), .nils] [(0, 8, (.s 24))],
   .bx 26 (.s 25),
   .mv 2 (.s 23),
   .mv 3 (.s 26),
   .mv 4 (.c (.bool true))])
  .rt)))))
def a18 : AF := ⟨c18, [.t 2, .t 3, .t 4], 1, 27⟩
theorem m18 : mF Tryz.prog gl drD Tryz.f18 a18 = true := by kernel_rfl
theorem s18 {l : List AV} {r : AV} (hl : l.length = 1) (hi : idsL l = []) (h : wpA (SpH Tryz.prog gl) c18 (postA [.t 2, .t 3, .t 4] r) ⟨initE 0 l, [], []⟩) : Sp Tryz.prog gl 18 l r :=
  @fun_sp Tryz.prog gl drD 18 Tryz.f18 a18 Tryz.func18 m18 (dok _) l r hl hi h
theorem h18 {d : Nat} {I : In} {O : Out} (hl : I.vs.length = 1) (h : wpA (SpH Tryz.prog gl) c18 (postH d [.t 2, .t 3, .t 4] O) (inSt I)) : SpH Tryz.prog gl 18 d I O :=
  @fun_spH Tryz.prog gl drD 18 Tryz.f18 a18 Tryz.func18 m18 (dok _) d I O hl h
/-- firebell/firebelllaw20.Does -/
def c20 : AC :=
 (.sq (.rg [.bx 5 (.s 2),
   .mv 6 (.c (.bool false))])
  (.sq (.sq (.rg [.fa 7 (.s 5) 0,
   .lds 8 (.s 7)])
  (.bl 0 (.sq (.rg [.bi 10 .eql (.s 8) (.c (.int .i64 1)),
   .mv 9 (.s 10)])
  (.cd (.s 9) (.sq (.rd [[], [], [], [], [], [], [], [], [], []] [.mv 11 (.s 0),
   .fa 12 (.s 5) 1,
   .lds 13 (.s 12),
   .cl 14 49 [(.s 11), (.s 13)],
   .mv 15 (.s 1),
   .fa 16 (.s 5) 1,
   .lds 17 (.s 16),
   .cl 18 55 [(.s 15), (.s 17)],
   .bi 19 .eql (.s 14) (.s 18),
   .mv 6 (.s 19)])
  .rt) (.sq (.rg [.bi 21 .eql (.s 8) (.c (.int .i64 2)),
   .mv 20 (.s 21)])
  (.cd (.s 20) (.sq (.rd [[], [], [], [], [], [], [], [], [], [], [], [], [], []] [.mv 22 (.s 0),
   .fa 23 (.s 5) 1,
   .lds 24 (.s 23),
   .fa 25 (.s 5) 2,
   .lda 26 2 (.s 25),
   .cl 27 26 [(.s 22), (.s 24), (.s 26)],
   .mv 28 (.s 1),
   .fa 29 (.s 5) 1,
   .lds 30 (.s 29),
   .fa 31 (.s 5) 2,
   .lda 32 2 (.s 31),
   .cl 33 56 [(.s 28), (.s 30), (.s 32)],
   .bi 34 .eql (.s 27) (.s 33),
   .mv 6 (.s 34)])
  .rt) (.sq (.rg [.bi 36 .eql (.s 8) (.c (.int .i64 3)),
   .mv 35 (.s 36)])
  (.cd (.s 35) (.sq (.rg [.mv 37 (.s 0),
   .ce 38 57 [(.s 37)]])
  (.sq (.rg [.mv 39 (.s 1),
   .nc 40 (.s 39),
   .fa 41 (.s 40) 10,
   .st 1 (.s 41) (.c .nils)])
  (.rg [.mv 42 (.s 1),
   .nc 43 (.s 42),
   .fa 44 (.s 43) 9,
   .st 1 (.s 44) (.c (.bool false))]))) .sk))))))))
  (.sq (.rg [.mv 6 (.c (.bool true))])
  .rt)))
def a20 : AF := ⟨c20, [.t 6], 3, 45⟩
theorem m20 : mF Tryz.prog gl drD Tryz.f20 a20 = true := by kernel_rfl
theorem s20 {l : List AV} {r : AV} (hl : l.length = 3) (hi : idsL l = []) (h : wpA (SpH Tryz.prog gl) c20 (postA [.t 6] r) ⟨initE 0 l, [], []⟩) : Sp Tryz.prog gl 20 l r :=
  @fun_sp Tryz.prog gl drD 20 Tryz.f20 a20 Tryz.func20 m20 (dok _) l r hl hi h
theorem h20 {d : Nat} {I : In} {O : Out} (hl : I.vs.length = 3) (h : wpA (SpH Tryz.prog gl) c20 (postH d [.t 6] O) (inSt I)) : SpH Tryz.prog gl 20 d I O :=
  @fun_spH Tryz.prog gl drD 20 Tryz.f20 a20 Tryz.func20 m20 (dok _) d I O hl h
/-- (*firebell/firebellref20.Meter).Window -/
def c22 : AC :=
 (.sq (.rg [.al 4 [(.int .u64 0), (.int .u64 0)],
   .mv 5 (.c (.int .i64 0))])
  (.sq (.rg [.mv 8 (.s 0),
   .nc 9 (.s 8),
   .fa 10 (.s 9) 0,
   .lda 11 8 (.s 10),
   .cl 12 19 [(.s 11)],
   .mv 6 (.s 12)])
  (.sq (.sq (.rg [.mv 7 (.c (.int .i64 0))])
  (.bl 0 (.lp (.sq (.sq (.rg [.mv 13 (.s 7),
   .mv 14 (.s 6),
   .ln 15 (.s 14),
   .bi 16 .lss (.s 13) (.s 15)])
  (.cd (.s 16) .sk (.ex 0)))
  (.sq (.bl 1 (.sq (.sq (.rg [.mv 19 (.s 6),
   .mv 20 (.s 7),
   .ia 21 1 (.s 19) (.s 20),
   .lds 22 (.s 21),
   .mv 23 (.s 1),
   .bi 24 .neq (.s 22) (.s 23)])
  (.cd (.s 24) (.ex 1) .sk))
  (.sq (.sq (.rg [.mv 25 (.s 0),
   .nc 26 (.s 25),
   .fa 27 (.s 26) 9,
   .lds 28 (.s 27)])
  (.cd (.s 28) (.sq (.rg [.bd 29 [(.int .u64 0), (.int .u64 0)] [],
   .st 2 (.s 4) (.s 29),
   .mv 5 (.c (.int .i64 17))])
  .rt) .sk))
  (.sq (.rg [.mv 30 (.s 0),
   .mv 31 (.s 1),
   .ce 32 60 [(.s 30), (.s 31)],
   .ce 33 61 [(.s 32)],
   .st 2 (.s 4) (.s 33),
   .mv 5 (.c (.int .i64 0))])
  .rt))))
  (.rg [.mv 17 (.s 7),
   .bi 18 .add (.s 17) (.c (.int .i64 1)),
   .mv 7 (.s 18)]))))))
  (.sq (.rg [.bd 34 [(.int .u64 0), (.int .u64 0)] [],
   .st 2 (.s 4) (.s 34),
   .mv 5 (.c (.int .i64 7))])
  .rt))))
def a22 : AF := ⟨c22, [.ca 4 2, .t 5], 2, 35⟩
theorem m22 : mF Tryz.prog gl drD Tryz.f22 a22 = true := by kernel_rfl
theorem s22 {l : List AV} {r : AV} (hl : l.length = 2) (hi : idsL l = []) (h : wpA (SpH Tryz.prog gl) c22 (postA [.ca 4 2, .t 5] r) ⟨initE 0 l, [], []⟩) : Sp Tryz.prog gl 22 l r :=
  @fun_sp Tryz.prog gl drD 22 Tryz.f22 a22 Tryz.func22 m22 (dok _) l r hl hi h
theorem h22 {d : Nat} {I : In} {O : Out} (hl : I.vs.length = 2) (h : wpA (SpH Tryz.prog gl) c22 (postH d [.ca 4 2, .t 5] O) (inSt I)) : SpH Tryz.prog gl 22 d I O :=
  @fun_spH Tryz.prog gl drD 22 Tryz.f22 a22 Tryz.func22 m22 (dok _) d I O hl h
/-- (*firebell/firebellref20.Meter).Calendar -/
def c24 : AC :=
 (.sq (.rg [.al 2 [(.int .u64 0), (.int .u64 0)],
   .mv 3 (.c (.int .i64 0))])
  (.sq (.sq (.rg [.mv 4 (.s 0),
   .nc 5 (.s 4),
   .fa 6 (.s 5) 0,
   .fa 7 (.s 6) 5,
   .lds 8 (.s 7),
   .bi 9 .eql (.s 8) (.c (.int .i64 0))])
  (.cd (.s 9) (.sq (.rg [.bd 10 [(.int .u64 0), (.int .u64 0)] [],
   .st 2 (.s 2) (.s 10),
   .mv 3 (.c (.int .i64 7))])
  .rt) .sk))
  (.sq (.sq (.rg [.mv 11 (.s 0),
   .nc 12 (.s 11),
   .fa 13 (.s 12) 9,
   .lds 14 (.s 13)])
  (.cd (.s 14) (.sq (.rg [.bd 15 [(.int .u64 0), (.int .u64 0)] [],
   .st 2 (.s 2) (.s 15),
   .mv 3 (.c (.int .i64 17))])
  .rt) .sk))
  (.sq (.rg [.mv 16 (.s 0),
   .ce 17 63 [(.s 16)],
   .st 2 (.s 2) (.s 17),
   .mv 3 (.c (.int .i64 0))])
  .rt))))
def a24 : AF := ⟨c24, [.ca 2 2, .t 3], 1, 18⟩
theorem m24 : mF Tryz.prog gl drD Tryz.f24 a24 = true := by kernel_rfl
theorem s24 {l : List AV} {r : AV} (hl : l.length = 1) (hi : idsL l = []) (h : wpA (SpH Tryz.prog gl) c24 (postA [.ca 2 2, .t 3] r) ⟨initE 0 l, [], []⟩) : Sp Tryz.prog gl 24 l r :=
  @fun_sp Tryz.prog gl drD 24 Tryz.f24 a24 Tryz.func24 m24 (dok _) l r hl hi h
theorem h24 {d : Nat} {I : In} {O : Out} (hl : I.vs.length = 1) (h : wpA (SpH Tryz.prog gl) c24 (postH d [.ca 2 2, .t 3] O) (inSt I)) : SpH Tryz.prog gl 24 d I O :=
  @fun_spH Tryz.prog gl drD 24 Tryz.f24 a24 Tryz.func24 m24 (dok _) d I O hl h
/-- firebell/wire.New -/
def c31 : AC :=
 (.sq (.rg [.mv 2 (.c .nilp)])
  (.sq (.rg [.mv 3 (.s 0),
   .bd 4 [.nils, (.bool false)] [(0, 1, (.s 3))],
   .bx 5 (.s 4),
   .mv 2 (.s 5)])
  .rt))
def a31 : AF := ⟨c31, [.t 2], 1, 6⟩
theorem m31 : mF Tryz.prog gl drD Tryz.f31 a31 = true := by kernel_rfl
theorem s31 {l : List AV} {r : AV} (hl : l.length = 1) (hi : idsL l = []) (h : wpA (SpH Tryz.prog gl) c31 (postA [.t 2] r) ⟨initE 0 l, [], []⟩) : Sp Tryz.prog gl 31 l r :=
  @fun_sp Tryz.prog gl drD 31 Tryz.f31 a31 Tryz.func31 m31 (dok _) l r hl hi h
theorem h31 {d : Nat} {I : In} {O : Out} (hl : I.vs.length = 1) (h : wpA (SpH Tryz.prog gl) c31 (postH d [.t 2] O) (inSt I)) : SpH Tryz.prog gl 31 d I O :=
  @fun_spH Tryz.prog gl drD 31 Tryz.f31 a31 Tryz.func31 m31 (dok _) d I O hl h
/-- firebell/meter.Get -/
def c32 : AC :=
 (.sq (.rg [.bx 4 (.s 1),
   .mv 6 (.c .nilp)])
  (.sq (.rg [.lda 12 8 (.s 4),
   .ce 13 38 [(.s 12)],
   .mv 11 (.s 13),
   .exq 14 (.s 11) 0,
   .exq 15 (.s 11) 1,
   .mv 7 (.s 14),
   .mv 8 (.s 15)])
  (.sq (.sq (.rg [.mv 16 (.s 8),
   .bi 17 .neq (.s 16) (.c (.int .i64 0)),
   .mv 18 (.s 17),
   .gd 18 false 19 (.mv 19 (.s 7)),
   .gd 18 false 20 (.mv 20 (.s 2)),
   .gd 18 false 21 (.ce 21 49 [(.s 19), (.s 20)]),
   .gd 18 false 22 (.bi 22 .neq (.s 21) (.c (.int .i64 0))),
   .pk 23 (.s 18) (.c (.bool true)) (.s 22)])
  (.cd (.s 23) (.sq (.rg [.mv 24 (.s 0),
   .ce 25 76 [(.s 24)],
   .mv 6 (.s 25)])
  .rt) .sk))
  (.sq (.rg [.mv 26 (.s 7),
   .mv 27 (.s 0),
   .ce 28 77 [(.s 27)],
   .nc 29 (.s 26),
   .fa 30 (.s 29) 15,
   .st 1 (.s 30) (.s 28)])
  (.sq (.sq (.rg [.mv 31 (.s 7),
   .ce 32 62 [(.s 31)]])
  (.cd (.s 32) (.sq (.rg [.mv 33 (.s 7),
   .mv 34 (.s 0),
   .ce 35 78 [(.s 34)],
   .nc 36 (.s 33),
   .fa 37 (.s 36) 12,
   .fa 38 (.s 37) 0,
   .st 1 (.s 38) (.s 35)])
  (.rg [.mv 39 (.s 7),
   .mv 40 (.s 0),
   .ce 41 78 [(.s 40)],
   .nc 42 (.s 39),
   .fa 43 (.s 42) 12,
   .fa 44 (.s 43) 1,
   .st 1 (.s 44) (.s 41)])) .sk))
  (.sq (.sq (.rd [[], [], [], [], [], [], [], [], [], [], [], [], [], [], [], [], [], [], []] [.mv 45 (.s 7),
   .nc 46 (.s 45),
   .fa 47 (.s 46) 12,
   .fa 48 (.s 47) 0,
   .lds 49 (.s 48),
   .mv 50 (.s 7),
   .nc 51 (.s 50),
   .fa 52 (.s 51) 12,
   .fa 53 (.s 52) 1,
   .lds 54 (.s 53),
   .bi 55 .gtr (.s 49) (.s 54),
   .mv 56 (.s 55),
   .gd 56 false 57 (.mv 57 (.s 7)),
   .gd 56 false 58 (.nc 58 (.s 57)),
   .gd 56 false 59 (.fa 59 (.s 58) 12),
   .gd 56 false 60 (.fa 60 (.s 59) 1),
   .gd 56 false 61 (.lds 61 (.s 60)),
   .gd 56 false 62 (.bi 62 .gtr (.s 61) (.c (.int .u64 9223372036854775807))),
   .pk 63 (.s 56) (.c (.bool true)) (.s 62)])
  (.cd (.s 63) (.sq (.rg [.mv 64 (.s 0),
   .ce 65 76 [(.s 64)],
   .mv 6 (.s 65)])
  .rt) .sk))
  (.sq (.sq (.rg [.mv 66 (.s 7),
   .nc 67 (.s 66),
   .fa 68 (.s 67) 8,
   .lds 69 (.s 68),
   .ln 70 (.s 69),
   .mv 71 (.c (.int .i64 0))])
  (.bl 0 (.lp (.sq (.rg [.bi 72 .lss (.s 71) (.s 70)])
  (.sq (.cd (.s 72) .sk (.ex 0))
  (.sq (.bl 1 (.sq (.rg [.mv 73 (.s 71),
   .ia 74 1 (.s 69) (.s 71),
   .lds 75 (.s 74),
   .mv 9 (.s 73),
   .mv 10 (.s 75)])
  (.rd [[], [], [], [], [], [], [], [], [], [], [], [], []] [.mv 76 (.s 7),
   .nc 77 (.s 76),
   .fa 78 (.s 77) 9,
   .lds 79 (.s 78),
   .mv 80 (.s 9),
   .mv 81 (.s 0),
   .mv 82 (.s 10),
   .fa 83 (.s 4) 2,
   .lds 84 (.s 83),
   .mv 85 (.s 2),
   .cl 86 79 [(.s 81), (.s 82), (.s 84), (.s 85)],
   .ia 87 1 (.s 79) (.s 80),
   .st 1 (.s 87) (.s 86)])))
  (.rg [.bi 88 .add (.s 71) (.c (.int .i64 1)),
   .mv 71 (.s 88)])))))))
  (.sq (.sq (.rg [.mv 89 (.s 0),
   .ce 90 34 [(.s 89)]])
  (.cd (.s 90) (.sq (.rg [.mv 6 (.c .nilp)])
  .rt) .sk))
  (.sq (.rg [.mv 91 (.s 7),
   .mv 6 (.s 91)])
  .rt)))))))))
def a32 : AF := ⟨c32, [.t 6], 3, 92⟩
theorem m32 : mF Tryz.prog gl drD Tryz.f32 a32 = true := by kernel_rfl
theorem s32 {l : List AV} {r : AV} (hl : l.length = 3) (hi : idsL l = []) (h : wpA (SpH Tryz.prog gl) c32 (postA [.t 6] r) ⟨initE 0 l, [], []⟩) : Sp Tryz.prog gl 32 l r :=
  @fun_sp Tryz.prog gl drD 32 Tryz.f32 a32 Tryz.func32 m32 (dok _) l r hl hi h
theorem h32 {d : Nat} {I : In} {O : Out} (hl : I.vs.length = 3) (h : wpA (SpH Tryz.prog gl) c32 (postH d [.t 6] O) (inSt I)) : SpH Tryz.prog gl 32 d I O :=
  @fun_spH Tryz.prog gl drD 32 Tryz.f32 a32 Tryz.func32 m32 (dok _) d I O hl h
/-- firebell/firebelllaw21.awake -/
def c37 : AC :=
 (.sq (.rg [.mv 0 (.c (.bool false))])
  (.sq (.rg [.bd 8 [(.int .u64 0), (.int .u64 0)] [(0, 1, (.c (.int .u64 986))), (1, 1, (.c (.int .u64 1000)))],
   .cl 9 86 [(.c (.int .u32 999000)), (.s 8)],
   .mv 7 (.s 9),
   .exq 10 (.s 7) 0,
   .exq 11 (.s 7) 1,
   .mv 1 (.s 10),
   .mv 2 (.s 11)])
  (.sq (.rg [.bd 13 [(.int .u64 0), (.int .u64 0)] [(0, 1, (.c (.int .u64 986))), (1, 1, (.c (.int .u64 1000)))],
   .cl 14 87 [(.c (.int .u32 999000)), (.c (.int .u64 14400)), (.s 13)],
   .mv 12 (.s 14),
   .exq 15 (.s 12) 0,
   .exq 16 (.s 12) 1,
   .mv 3 (.s 15),
   .mv 4 (.s 16)])
  (.sq (.rg [.bd 18 [(.int .u64 0), (.int .u64 0)] [(0, 1, (.c (.int .u64 985))), (1, 1, (.c (.int .u64 1000)))],
   .cl 19 87 [(.c (.int .u32 999000)), (.c (.int .u64 14400)), (.s 18)],
   .mv 17 (.s 19),
   .exq 20 (.s 17) 0,
   .exq 21 (.s 17) 1,
   .mv 5 (.s 20),
   .mv 6 (.s 21)])
  (.sq (.rg [.mv 22 (.s 1),
   .bi 23 .eql (.s 22) (.c (.int .u64 14000)),
   .mv 24 (.s 23),
   .gd 24 true 25 (.mv 25 (.s 2)),
   .gd 24 true 26 (.bi 26 .eql (.s 25) (.c (.int .i64 0))),
   .pk 27 (.s 24) (.s 26) (.c (.bool false)),
   .mv 28 (.s 27),
   .gd 28 true 29 (.mv 29 (.s 3)),
   .gd 28 true 30 (.un 30 .not (.s 29)),
   .pk 31 (.s 28) (.s 30) (.c (.bool false)),
   .mv 32 (.s 31),
   .gd 32 true 33 (.mv 33 (.s 4)),
   .gd 32 true 34 (.bi 34 .eql (.s 33) (.c (.int .i64 0))),
   .pk 35 (.s 32) (.s 34) (.c (.bool false)),
   .mv 36 (.s 35),
   .gd 36 true 37 (.mv 37 (.s 5)),
   .pk 38 (.s 36) (.s 37) (.c (.bool false)),
   .mv 39 (.s 38),
   .gd 39 true 40 (.mv 40 (.s 6)),
   .gd 39 true 41 (.bi 41 .eql (.s 40) (.c (.int .i64 0))),
   .pk 42 (.s 39) (.s 41) (.c (.bool false)),
   .mv 0 (.s 42)])
  .rt)))))
def a37 : AF := ⟨c37, [.t 0], 0, 43⟩
theorem m37 : mF Tryz.prog gl drD Tryz.f37 a37 = true := by kernel_rfl
theorem s37 {l : List AV} {r : AV} (hl : l.length = 0) (hi : idsL l = []) (h : wpA (SpH Tryz.prog gl) c37 (postA [.t 0] r) ⟨initE 0 l, [], []⟩) : Sp Tryz.prog gl 37 l r :=
  @fun_sp Tryz.prog gl drD 37 Tryz.f37 a37 Tryz.func37 m37 (dok _) l r hl hi h
theorem h37 {d : Nat} {I : In} {O : Out} (hl : I.vs.length = 0) (h : wpA (SpH Tryz.prog gl) c37 (postH d [.t 0] O) (inSt I)) : SpH Tryz.prog gl 37 d I O :=
  @fun_spH Tryz.prog gl drD 37 Tryz.f37 a37 Tryz.func37 m37 (dok _) d I O hl h
/-- firebell/report.Print -/
def c43 : AC :=
 (.sq (.rg [.bx 1 (.s 0),
   .mv 2 (.c (.str [])),
   .mv 3 (.c (.int .i64 0))])
  (.sq (.sq (.rg [.lda 9 4 (.s 1),
   .cl 10 93 [(.s 9)],
   .un 11 .not (.s 10)])
  (.cd (.s 11) (.sq (.rg [.mv 2 (.c (.str [])),
   .mv 3 (.c (.int .i64 6))])
  .rt) .sk))
  (.sq (.rg [.bd 12 [.nilp, .nils] [],
   .bxT 13 168 0 (.s 12),
   .mv 4 (.s 13)])
  (.sq (.rd [[], [], [], [], [], [], [], [], [], [], [], [], [], []] [.mv 14 (.s 4),
   .fa 15 (.s 1) 0,
   .lds 16 (.s 15),
   .cv 17 .u64 (.s 16),
   .cl 18 95 [(.s 17)],
   .fa 19 (.s 1) 1,
   .lds 20 (.s 19),
   .cv 21 .u64 (.s 20),
   .cl 22 95 [(.s 21)],
   .fa 23 (.s 1) 2,
   .lds 24 (.s 23),
   .cl 25 95 [(.s 24)],
   .bs 26 1 [(.c (.str [114, 101, 112, 111, 114, 116])), (.c (.str [97, 116])), (.s 18), (.c (.str [119, 97, 105, 116, 105, 110, 103])), (.s 22), (.c (.str [100, 114, 111, 112, 112, 101, 100])), (.s 25)],
   .ce 27 94 [(.s 14), (.s 26)]])
  (.sq (.sq (.rg [.fa 28 (.s 1) 3,
   .lds 29 (.s 28),
   .ln 30 (.s 29),
   .mv 31 (.c (.int .i64 0))])
  (.bl 0 (.lp (.sq (.rg [.bi 32 .lss (.s 31) (.s 30)])
  (.sq (.cd (.s 32) .sk (.ex 0))
  (.sq (.bl 1 (.sq (.rg [.ia 33 12 (.s 29) (.s 31),
   .lda 34 12 (.s 33),
   .al 6 [(.str []), (.bool false), (.bool false), (.int .u64 0), (.int .u64 0), (.bool false), (.int .u64 0), (.int .u64 0), (.int .i64 0), (.int .u64 0), (.int .u64 0), .nils],
   .st 12 (.s 6) (.s 34)])
  (.sq (.sq (.rg [.fa 35 (.s 6) 1,
   .lds 36 (.s 35)])
  (.cd (.s 36) (.rg [.mv 37 (.s 4),
   .fa 38 (.s 6) 0,
   .lds 39 (.s 38),
   .bs 40 1 [(.c (.str [103, 111, 97, 108])), (.s 39), (.c (.str [115, 97, 116, 101, 100]))],
   .ce 41 94 [(.s 37), (.s 40)]]) (.rd [[], [], [], [], [], [], [], [], [], [], [], [], [], []] [.mv 42 (.s 4),
   .fa 43 (.s 6) 0,
   .lds 44 (.s 43),
   .fa 45 (.s 6) 2,
   .lda 46 3 (.s 45),
   .cl 47 96 [(.s 46)],
   .fa 48 (.s 6) 5,
   .lda 49 3 (.s 48),
   .cl 50 96 [(.s 49)],
   .fa 51 (.s 6) 8,
   .lda 52 3 (.s 51),
   .cl 53 97 [(.s 52)],
   .bs 54 1 [(.c (.str [103, 111, 97, 108])), (.s 44), (.c (.str [114, 111, 108, 108, 105, 110, 103])), (.s 47), (.c (.str [99, 97, 108, 101, 110, 100, 97, 114])), (.s 50), (.c (.str [111, 117, 116, 108, 111, 111, 107])), (.s 53)],
   .ce 55 94 [(.s 42), (.s 54)]])))
  (.sq (.rg [.fa 56 (.s 6) 11,
   .lds 57 (.s 56),
   .ln 58 (.s 57),
   .mv 59 (.c (.int .i64 0))])
  (.bl 2 (.lp (.sq (.rg [.bi 60 .lss (.s 59) (.s 58)])
  (.sq (.cd (.s 60) .sk (.ex 2))
  (.sq (.bl 3 (.sq (.rg [.ia 61 5 (.s 57) (.s 59),
   .lda 62 5 (.s 61),
   .al 8 [(.str []), (.bool false), (.int .i64 0), (.int .u64 0), (.int .u64 0)],
   .st 5 (.s 8) (.s 62)])
  (.rd [[], [], [], [], [], [], [], [], [], [], [], [], [], [], [], [], []] [.mv 63 (.s 4),
   .fa 64 (.s 8) 0,
   .lds 65 (.s 64),
   .fa 66 (.s 8) 1,
   .lds 67 (.s 66),
   .cl 68 98 [(.s 67)],
   .fa 69 (.s 8) 2,
   .lds 70 (.s 69),
   .cl 71 99 [(.s 70)],
   .fa 72 (.s 8) 3,
   .lds 73 (.s 72),
   .cl 74 95 [(.s 73)],
   .fa 75 (.s 8) 4,
   .lds 76 (.s 75),
   .cl 77 95 [(.s 76)],
   .bs 78 1 [(.c (.str [114, 117, 108, 101])), (.s 65), (.s 68), (.s 71), (.c (.str [108, 111, 110, 103])), (.s 74), (.c (.str [115, 104, 111, 114, 116])), (.s 77)],
   .ce 79 94 [(.s 63), (.s 78)]])))
  (.rg [.bi 80 .add (.s 59) (.c (.int .i64 1)),
   .mv 59 (.s 80)]))))))))))
  (.rg [.bi 81 .add (.s 31) (.c (.int .i64 1)),
   .mv 31 (.s 81)])))))))
  (.sq (.rg [.mv 82 (.s 4),
   .nc 83 (.s 82),
   .fa 84 (.s 83) 0,
   .ce 85 100 [(.s 84)],
   .mv 2 (.s 85),
   .mv 3 (.c (.int .i64 0))])
  .rt))))))
def a43 : AF := ⟨c43, [.t 2, .t 3], 1, 86⟩
theorem m43 : mF Tryz.prog gl drD Tryz.f43 a43 = true := by kernel_rfl
theorem s43 {l : List AV} {r : AV} (hl : l.length = 1) (hi : idsL l = []) (h : wpA (SpH Tryz.prog gl) c43 (postA [.t 2, .t 3] r) ⟨initE 0 l, [], []⟩) : Sp Tryz.prog gl 43 l r :=
  @fun_sp Tryz.prog gl drD 43 Tryz.f43 a43 Tryz.func43 m43 (dok _) l r hl hi h
theorem h43 {d : Nat} {I : In} {O : Out} (hl : I.vs.length = 1) (h : wpA (SpH Tryz.prog gl) c43 (postH d [.t 2, .t 3] O) (inSt I)) : SpH Tryz.prog gl 43 d I O :=
  @fun_spH Tryz.prog gl drD 43 Tryz.f43 a43 Tryz.func43 m43 (dok _) d I O hl h
/-- firebell/firebellref29.Heavy -/
def c44 : AC :=
 (.sq (.rg [.bx 1 (.s 0),
   .mv 2 (.c (.bool false))])
  (.sq (.sq (.rg [.fa 4 (.s 1) 0,
   .lds 5 (.s 4),
   .ln 6 (.s 5),
   .bi 7 .gtr (.s 6) (.c (.int .i64 80))])
  (.cd (.s 7) (.sq (.rg [.mv 2 (.c (.bool true))])
  .rt) .sk))
  (.sq (.sq (.rg [.mv 3 (.c (.int .i64 0))])
  (.bl 0 (.lp (.sq (.sq (.rg [.mv 8 (.s 3),
   .fa 9 (.s 1) 0,
   .lds 10 (.s 9),
   .ln 11 (.s 10),
   .bi 12 .lss (.s 8) (.s 11)])
  (.cd (.s 12) .sk (.ex 0)))
  (.sq (.bl 1 (.sq (.rg [.fa 15 (.s 1) 0,
   .lds 16 (.s 15),
   .mv 17 (.s 3),
   .ia 18 9 (.s 16) (.s 17),
   .fa 19 (.s 18) 0,
   .lda 20 5 (.s 19),
   .cl 21 101 [(.s 20)]])
  (.cd (.s 21) (.sq (.rg [.mv 2 (.c (.bool true))])
  .rt) .sk)))
  (.rg [.mv 13 (.s 3),
   .bi 14 .add (.s 13) (.c (.int .i64 1)),
   .mv 3 (.s 14)]))))))
  (.sq (.rg [.mv 2 (.c (.bool false))])
  .rt))))
def a44 : AF := ⟨c44, [.t 2], 1, 22⟩
theorem m44 : mF Tryz.prog gl drD Tryz.f44 a44 = true := by kernel_rfl
theorem s44 {l : List AV} {r : AV} (hl : l.length = 1) (hi : idsL l = []) (h : wpA (SpH Tryz.prog gl) c44 (postA [.t 2] r) ⟨initE 0 l, [], []⟩) : Sp Tryz.prog gl 44 l r :=
  @fun_sp Tryz.prog gl drD 44 Tryz.f44 a44 Tryz.func44 m44 (dok _) l r hl hi h
theorem h44 {d : Nat} {I : In} {O : Out} (hl : I.vs.length = 1) (h : wpA (SpH Tryz.prog gl) c44 (postH d [.t 2] O) (inSt I)) : SpH Tryz.prog gl 44 d I O :=
  @fun_spH Tryz.prog gl drD 44 Tryz.f44 a44 Tryz.func44 m44 (dok _) d I O hl h
/-- firebell/firebellref27.Heavy -/
def c45 : AC :=
 (.sq (.rg [.mv 2 (.c (.bool false))])
  (.sq (.sq (.rg [.mv 4 (.s 0),
   .ln 5 (.s 4),
   .bi 6 .gtr (.s 5) (.c (.int .i64 30))])
  (.cd (.s 6) (.sq (.rg [.mv 2 (.c (.bool true))])
  .rt) .sk))
  (.sq (.sq (.rg [.mv 3 (.c (.int .i64 0))])
  (.bl 0 (.lp (.sq (.sq (.rg [.mv 7 (.s 3),
   .mv 8 (.s 0),
   .ln 9 (.s 8),
   .bi 10 .lss (.s 7) (.s 9)])
  (.cd (.s 10) .sk (.ex 0)))
  (.sq (.bl 1 (.sq (.rg [.mv 13 (.s 0),
   .mv 14 (.s 3),
   .ia 15 5 (.s 13) (.s 14),
   .fa 16 (.s 15) 0,
   .lds 17 (.s 16),
   .lns 18 (.s 17),
   .bi 19 .gtr (.s 18) (.c (.int .i64 500)),
   .mv 20 (.s 19),
   .gd 20 false 21 (.mv 21 (.s 0)),
   .gd 20 false 22 (.mv 22 (.s 3)),
   .gd 20 false 23 (.ia 23 5 (.s 21) (.s 22)),
   .gd 20 false 24 (.fa 24 (.s 23) 1),
   .gd 20 false 25 (.lds 25 (.s 24)),
   .gd 20 false 26 (.lns 26 (.s 25)),
   .gd 20 false 27 (.bi 27 .gtr (.s 26) (.c (.int .i64 500))),
   .pk 28 (.s 20) (.c (.bool true)) (.s 27)])
  (.cd (.s 28) (.sq (.rg [.mv 2 (.c (.bool true))])
  .rt) .sk)))
  (.rg [.mv 11 (.s 3),
   .bi 12 .add (.s 11) (.c (.int .i64 1)),
   .mv 3 (.s 12)]))))))
  (.sq (.rg [.mv 2 (.c (.bool false))])
  .rt))))
def a45 : AF := ⟨c45, [.t 2], 1, 29⟩
theorem m45 : mF Tryz.prog gl drD Tryz.f45 a45 = true := by kernel_rfl
theorem s45 {l : List AV} {r : AV} (hl : l.length = 1) (hi : idsL l = []) (h : wpA (SpH Tryz.prog gl) c45 (postA [.t 2] r) ⟨initE 0 l, [], []⟩) : Sp Tryz.prog gl 45 l r :=
  @fun_sp Tryz.prog gl drD 45 Tryz.f45 a45 Tryz.func45 m45 (dok _) l r hl hi h
theorem h45 {d : Nat} {I : In} {O : Out} (hl : I.vs.length = 1) (h : wpA (SpH Tryz.prog gl) c45 (postH d [.t 2] O) (inSt I)) : SpH Tryz.prog gl 45 d I O :=
  @fun_spH Tryz.prog gl drD 45 Tryz.f45 a45 Tryz.func45 m45 (dok _) d I O hl h
/-- firebell/outbox.Waiting -/
def c46 : AC :=
 (.sq (.rg [.bx 1 (.s 0),
   .mv 2 (.c (.int .i64 0))])
  (.sq (.rg [.mv 3 (.c (.int .i64 0))])
  (.sq (.sq (.rg [.fa 6 (.s 1) 0,
   .lds 7 (.s 6),
   .ln 8 (.s 7),
   .mv 9 (.c (.int .i64 0))])
  (.bl 0 (.lp (.sq (.rg [.bi 10 .lss (.s 9) (.s 8)])
  (.sq (.cd (.s 10) .sk (.ex 0))
  (.sq (.bl 1 (.sq (.rg [.ia 11 9 (.s 7) (.s 9),
   .lda 12 9 (.s 11),
   .al 5 [(.str []), (.str []), (.bool false), (.int .u64 0), (.bool false), (.int .i64 0), (.int .i64 0), (.int .i64 0), (.bool false)],
   .st 9 (.s 5) (.s 12)])
  (.sq (.rg [.fa 13 (.s 5) 8,
   .lds 14 (.s 13),
   .un 15 .not (.s 14)])
  (.cd (.s 15) (.rg [.mv 16 (.s 3),
   .bi 17 .add (.s 16) (.c (.int .i64 1)),
   .mv 3 (.s 17)]) .sk))))
  (.rg [.bi 18 .add (.s 9) (.c (.int .i64 1)),
   .mv 9 (.s 18)])))))))
  (.sq (.rg [.mv 19 (.s 3),
   .mv 2 (.s 19)])
  .rt))))
def a46 : AF := ⟨c46, [.t 2], 1, 20⟩
theorem m46 : mF Tryz.prog gl drD Tryz.f46 a46 = true := by kernel_rfl
theorem s46 {l : List AV} {r : AV} (hl : l.length = 1) (hi : idsL l = []) (h : wpA (SpH Tryz.prog gl) c46 (postA [.t 2] r) ⟨initE 0 l, [], []⟩) : Sp Tryz.prog gl 46 l r :=
  @fun_sp Tryz.prog gl drD 46 Tryz.f46 a46 Tryz.func46 m46 (dok _) l r hl hi h
theorem h46 {d : Nat} {I : In} {O : Out} (hl : I.vs.length = 1) (h : wpA (SpH Tryz.prog gl) c46 (postH d [.t 2] O) (inSt I)) : SpH Tryz.prog gl 46 d I O :=
  @fun_spH Tryz.prog gl drD 46 Tryz.f46 a46 Tryz.func46 m46 (dok _) d I O hl h
/-- firebell/report.goal -/
def c47 : AC :=
 (.sq (.rg [.bx 1 (.s 0),
   .al 2 [(.str []), (.bool false), (.bool false), (.int .u64 0), (.int .u64 0), (.bool false), (.int .u64 0), (.int .u64 0), (.int .i64 0), (.int .u64 0), (.int .u64 0), .nils]])
  (.sq (.rd [[], [], [], [], [], [], [], [], [2, 4, 5], []] [.fa 8 (.s 1) 0,
   .fa 9 (.s 8) 0,
   .lds 10 (.s 9),
   .fa 11 (.s 1) 8,
   .lds 12 (.s 11),
   .lda 13 15 (.s 1),
   .cl 14 102 [(.s 13)],
   .bd 15 [(.str []), (.bool false), (.bool false), (.int .u64 0), (.int .u64 0), (.bool false), (.int .u64 0), (.int .u64 0), (.int .i64 0), (.int .u64 0), (.int .u64 0), .nils] [(0, 1, (.s 10)), (1, 1, (.s 12)), (11, 1, (.s 14))],
   .al 3 [(.str []), (.bool false), (.bool false), (.int .u64 0), (.int .u64 0), (.bool false), (.int .u64 0), (.int .u64 0), (.int .i64 0), (.int .u64 0), (.int .u64 0), .nils],
   .st 12 (.s 3) (.s 15)])
  (.sq (.sq (.rg [.fa 16 (.s 1) 8,
   .lds 17 (.s 16)])
  (.cd (.s 17) (.sq (.rg [.lda 18 12 (.s 3),
   .st 12 (.s 2) (.s 18)])
  .rt) .sk))
  (.sq (.rg [.lda 20 15 (.s 1),
   .ce 21 103 [(.s 20), (.s 3)],
   .mv 19 (.s 21),
   .exq 22 (.s 19) 0,
   .exq 23 (.s 19) 1,
   .al 4 [(.bool false), (.int .u64 0), (.int .u64 0)],
   .st 3 (.s 4) (.s 22),
   .mv 5 (.s 23)])
  (.sq (.sq (.rg [.mv 24 (.s 5),
   .un 25 .not (.s 24)])
  (.cd (.s 25) (.sq (.rg [.fa 26 (.s 3) 8,
   .fa 27 (.s 26) 0,
   .st 1 (.s 27) (.c (.int .i64 1))])
  (.sq (.rg [.lda 28 12 (.s 3),
   .st 12 (.s 2) (.s 28)])
  .rt)) .sk))
  (.sq (.rg [.fa 29 (.s 1) 0,
   .fa 30 (.s 29) 7,
   .lds 31 (.s 30),
   .cl 32 104 [(.s 31)],
   .mv 6 (.s 32)])
  (.sq (.rg [.lda 33 15 (.s 1),
   .mv 34 (.s 6),
   .cl 35 105 [(.s 33), (.s 34)],
   .al 7 [(.int .u64 0), (.int .u64 0)],
   .st 2 (.s 7) (.s 35)])
  (.sq (.rg [.lda 37 3 (.s 4),
   .fa 38 (.s 7) 1,
   .lds 39 (.s 38),
   .fa 40 (.s 7) 0,
   .lds 41 (.s 40),
   .bi 42 .sub (.s 39) (.s 41),
   .mv 43 (.s 6),
   .cl 44 106 [(.s 37), (.s 42), (.s 43)],
   .mv 36 (.s 44),
   .exq 45 (.s 36) 0,
   .exq 46 (.s 36) 1,
   .fa 47 (.s 3) 8,
   .st 3 (.s 47) (.s 45)])
  (.sq (.rg [.lda 48 12 (.s 3),
   .st 12 (.s 2) (.s 48)])
  .rt)))))))))
def a47 : AF := ⟨c47, [.ca 2 12], 1, 49⟩
theorem m47 : mF Tryz.prog gl drD Tryz.f47 a47 = true := by kernel_rfl
theorem s47 {l : List AV} {r : AV} (hl : l.length = 1) (hi : idsL l = []) (h : wpA (SpH Tryz.prog gl) c47 (postA [.ca 2 12] r) ⟨initE 0 l, [], []⟩) : Sp Tryz.prog gl 47 l r :=
  @fun_sp Tryz.prog gl drD 47 Tryz.f47 a47 Tryz.func47 m47 (dok _) l r hl hi h
theorem h47 {d : Nat} {I : In} {O : Out} (hl : I.vs.length = 1) (h : wpA (SpH Tryz.prog gl) c47 (postH d [.ca 2 12] O) (inSt I)) : SpH Tryz.prog gl 47 d I O :=
  @fun_spH Tryz.prog gl drD 47 Tryz.f47 a47 Tryz.func47 m47 (dok _) d I O hl h
/-- firebell/firebellref33.Goal -/
def c48 : AC :=
 (.sq (.rg [.bx 1 (.s 0),
   .al 2 [(.str []), (.bool false), (.bool false), (.int .u64 0), (.int .u64 0), (.bool false), (.int .u64 0), (.int .u64 0), (.int .i64 0), (.int .u64 0), (.int .u64 0), .nils]])
  (.sq (.rg [.fa 10 (.s 1) 0,
   .fa 11 (.s 10) 0,
   .lds 12 (.s 11),
   .fa 13 (.s 1) 8,
   .lds 14 (.s 13),
   .bd 15 [(.str []), (.bool false), (.bool false), (.int .u64 0), (.int .u64 0), (.bool false), (.int .u64 0), (.int .u64 0), (.int .i64 0), (.int .u64 0), (.int .u64 0), .nils] [(0, 1, (.s 12)), (1, 1, (.s 14))],
   .al 3 [(.str []), (.bool false), (.bool false), (.int .u64 0), (.int .u64 0), (.bool false), (.int .u64 0), (.int .u64 0), (.int .i64 0), (.int .u64 0), (.int .u64 0), .nils],
   .st 12 (.s 3) (.s 15)])
  (.sq (.rg [.mv 4 (.c (.int .i64 0))])
  (.sq (.sq (.rg [.mv 5 (.c (.int .i64 0))])
  (.bl 0 (.lp (.sq (.sq (.rg [.mv 16 (.s 5),
   .fa 17 (.s 1) 0,
   .fa 18 (.s 17) 7,
   .lds 19 (.s 18),
   .ln 20 (.s 19),
   .bi 21 .lss (.s 16) (.s 20)])
  (.cd (.s 21) .sk (.ex 0)))
  (.sq (.bl 1 (.sq (.rg [.fa 24 (.s 1) 0,
   .fa 25 (.s 24) 7,
   .lds 26 (.s 25),
   .mv 27 (.s 5),
   .ia 28 7 (.s 26) (.s 27),
   .lda 29 7 (.s 28),
   .al 6 [(.str []), (.bool false), (.int .i64 0), (.int .i64 0), (.int .u64 0), (.int .i64 0), (.int .i64 0)],
   .st 7 (.s 6) (.s 29)])
  (.sq (.sq (.rg [.mv 30 (.s 5),
   .bi 31 .eql (.s 30) (.c (.int .i64 0)),
   .mv 32 (.s 31),
   .gd 32 false 33 (.fa 33 (.s 6) 3),
   .gd 32 false 34 (.lds 34 (.s 33)),
   .gd 32 false 35 (.mv 35 (.s 4)),
   .gd 32 false 36 (.bi 36 .lss (.s 34) (.s 35)),
   .pk 37 (.s 32) (.c (.bool true)) (.s 36)])
  (.cd (.s 37) (.rg [.fa 38 (.s 6) 3,
   .lds 39 (.s 38),
   .mv 4 (.s 39)]) .sk))
  (.sq (.rg [.fa 40 (.s 6) 0,
   .lds 41 (.s 40),
   .fa 42 (.s 6) 1,
   .lds 43 (.s 42),
   .bd 44 [(.str []), (.bool false), (.int .i64 0), (.int .u64 0), (.int .u64 0)] [(0, 1, (.s 41)), (1, 1, (.s 43))],
   .al 7 [(.str []), (.bool false), (.int .i64 0), (.int .u64 0), (.int .u64 0)],
   .st 5 (.s 7) (.s 44)])
  (.sq (.sq (.rg [.mv 45 (.s 5),
   .fa 46 (.s 1) 14,
   .lds 47 (.s 46),
   .ln 48 (.s 47),
   .bi 49 .lss (.s 45) (.s 48)])
  (.cd (.s 49) (.rg [.fa 50 (.s 1) 14,
   .lds 51 (.s 50),
   .mv 52 (.s 5),
   .ia 53 4 (.s 51) (.s 52),
   .fa 54 (.s 53) 0,
   .lds 55 (.s 54),
   .fa 56 (.s 7) 2,
   .st 1 (.s 56) (.s 55)]) .sk))
  (.sq (.sq (.rg [.fa 57 (.s 1) 8,
   .lds 58 (.s 57),
   .un 59 .not (.s 58)])
  (.cd (.s 59) (.sq (.rd [[], [], [], [], [], [], [], [], [], [], [], [], []] [.fa 61 (.s 1) 0,
   .fa 62 (.s 61) 1,
   .lds 63 (.s 62),
   .lda 64 15 (.s 1),
   .fa 65 (.s 6) 2,
   .lds 66 (.s 65),
   .cl 67 108 [(.s 64), (.s 66)],
   .cl 68 107 [(.s 63), (.s 67)],
   .mv 60 (.s 68),
   .exq 69 (.s 60) 0,
   .exq 70 (.s 60) 1,
   .fa 71 (.s 7) 3,
   .st 1 (.s 71) (.s 69)])
  (.rd [[], [], [], [], [], [], [], [], [], [], [], [], []] [.fa 73 (.s 1) 0,
   .fa 74 (.s 73) 1,
   .lds 75 (.s 74),
   .lda 76 15 (.s 1),
   .fa 77 (.s 6) 3,
   .lds 78 (.s 77),
   .cl 79 108 [(.s 76), (.s 78)],
   .cl 80 107 [(.s 75), (.s 79)],
   .mv 72 (.s 80),
   .exq 81 (.s 72) 0,
   .exq 82 (.s 72) 1,
   .fa 83 (.s 7) 4,
   .st 1 (.s 83) (.s 81)])) .sk))
  (.rg [.fa 84 (.s 3) 11,
   .lo 85 (.s 84),
   .lda 86 5 (.s 7),
   .bs 87 5 [(.s 86)],
   .ap 88 5 48 (.s 85) (.s 87),
   .fa 89 (.s 3) 11,
   .so (.s 89) 88])))))))
  (.rg [.mv 22 (.s 5),
   .bi 23 .add (.s 22) (.c (.int .i64 1)),
   .mv 5 (.s 23)]))))))
  (.sq (.sq (.rg [.fa 90 (.s 1) 8,
   .lds 91 (.s 90)])
  (.cd (.s 91) (.sq (.rg [.lda 92 12 (.s 3),
   .st 12 (.s 2) (.s 92)])
  .rt) .sk))
  (.sq (.sq (.rg [.fa 93 (.s 1) 0,
   .fa 94 (.s 93) 4,
   .lds 95 (.s 94),
   .bi 96 .neq (.s 95) (.c (.int .i64 0))])
  (.cd (.s 96) (.rd [[], [], [], [], [], [], [], [], [], [], [], [], [], []] [.fa 98 (.s 1) 0,
   .fa 99 (.s 98) 1,
   .lds 100 (.s 99),
   .lda 101 15 (.s 1),
   .fa 102 (.s 1) 0,
   .fa 103 (.s 102) 4,
   .lds 104 (.s 103),
   .cl 105 108 [(.s 101), (.s 104)],
   .cl 106 109 [(.s 100), (.s 105)],
   .mv 97 (.s 106),
   .exq 107 (.s 97) 0,
   .exq 108 (.s 97) 1,
   .fa 109 (.s 3) 2,
   .st 3 (.s 109) (.s 107)]) .sk))
  (.sq (.sq (.rg [.fa 110 (.s 1) 0,
   .fa 111 (.s 110) 5,
   .lds 112 (.s 111),
   .bi 113 .neq (.s 112) (.c (.int .i64 0))])
  (.cd (.s 113) (.rg [.fa 115 (.s 1) 0,
   .fa 116 (.s 115) 1,
   .lds 117 (.s 116),
   .fa 118 (.s 1) 12,
   .lda 119 2 (.s 118),
   .cl 120 109 [(.s 117), (.s 119)],
   .mv 114 (.s 120),
   .exq 121 (.s 114) 0,
   .exq 122 (.s 114) 1,
   .fa 123 (.s 3) 5,
   .st 3 (.s 123) (.s 121)]) .sk))
  (.sq (.sq (.rg [.fa 124 (.s 1) 0,
   .fa 125 (.s 124) 4,
   .lds 126 (.s 125),
   .bi 127 .eql (.s 126) (.c (.int .i64 0)),
   .mv 128 (.s 127),
   .gd 128 true 129 (.fa 129 (.s 1) 0),
   .gd 128 true 130 (.fa 130 (.s 129) 5),
   .gd 128 true 131 (.lds 131 (.s 130)),
   .gd 128 true 132 (.bi 132 .eql (.s 131) (.c (.int .i64 0))),
   .pk 133 (.s 128) (.s 132) (.c (.bool false))])
  (.cd (.s 133) (.sq (.rg [.bd 134 [(.int .i64 0), (.int .u64 0), (.int .u64 0)] [(0, 1, (.c (.int .i64 1)))],
   .fa 135 (.s 3) 8,
   .st 3 (.s 135) (.s 134)])
  (.sq (.rg [.lda 136 12 (.s 3),
   .st 12 (.s 2) (.s 136)])
  .rt)) .sk))
  (.sq (.rg [.fa 137 (.s 3) 5,
   .lda 138 3 (.s 137),
   .al 8 [(.bool false), (.int .u64 0), (.int .u64 0)],
   .st 3 (.s 8) (.s 138)])
  (.sq (.sq (.rg [.fa 139 (.s 1) 0,
   .fa 140 (.s 139) 4,
   .lds 141 (.s 140),
   .bi 142 .neq (.s 141) (.c (.int .i64 0))])
  (.cd (.s 142) (.rg [.fa 143 (.s 3) 2,
   .lda 144 3 (.s 143),
   .st 3 (.s 8) (.s 144)]) .sk))
  (.sq (.rg [.lda 145 15 (.s 1),
   .mv 146 (.s 4),
   .cl 147 108 [(.s 145), (.s 146)],
   .al 9 [(.int .u64 0), (.int .u64 0)],
   .st 2 (.s 9) (.s 147)])
  (.sq (.rg [.lda 149 3 (.s 8),
   .fa 150 (.s 9) 1,
   .lds 151 (.s 150),
   .fa 152 (.s 9) 0,
   .lds 153 (.s 152),
   .bi 154 .sub (.s 151) (.s 153),
   .mv 155 (.s 4),
   .cl 156 110 [(.s 149), (.s 154), (.s 155)],
   .mv 148 (.s 156),
   .exq 157 (.s 148) 0,
   .exq 158 (.s 148) 1,
   .fa 159 (.s 3) 8,
   .st 3 (.s 159) (.s 157)])
  (.sq (.rg [.lda 160 12 (.s 3),
   .st 12 (.s 2) (.s 160)])
  .rt)))))))))))))
def a48 : AF := ⟨c48, [.ca 2 12], 1, 161⟩
theorem m48 : mF Tryz.prog gl drD Tryz.f48 a48 = true := by kernel_rfl
theorem s48 {l : List AV} {r : AV} (hl : l.length = 1) (hi : idsL l = []) (h : wpA (SpH Tryz.prog gl) c48 (postA [.ca 2 12] r) ⟨initE 0 l, [], []⟩) : Sp Tryz.prog gl 48 l r :=
  @fun_sp Tryz.prog gl drD 48 Tryz.f48 a48 Tryz.func48 m48 (dok _) l r hl hi h
theorem h48 {d : Nat} {I : In} {O : Out} (hl : I.vs.length = 1) (h : wpA (SpH Tryz.prog gl) c48 (postH d [.ca 2 12] O) (inSt I)) : SpH Tryz.prog gl 48 d I O :=
  @fun_spH Tryz.prog gl drD 48 Tryz.f48 a48 Tryz.func48 m48 (dok _) d I O hl h
/-- firebell/firebellref06.Name -/
def c50 : AC :=
 (.sq (.rg [.mv 2 (.c (.bool false))])
  (.sq (.rg [.mv 7 (.s 0),
   .cl 8 53 [(.s 7)],
   .mv 3 (.s 8)])
  (.sq (.sq (.rg [.mv 9 (.s 3),
   .ln 10 (.s 9),
   .bi 11 .eql (.s 10) (.c (.int .i64 0)),
   .mv 12 (.s 11),
   .gd 12 false 13 (.mv 13 (.s 3)),
   .gd 12 false 14 (.ln 14 (.s 13)),
   .gd 12 false 15 (.bi 15 .gtr (.s 14) (.c (.int .i64 24))),
   .pk 16 (.s 12) (.c (.bool true)) (.s 15),
   .mv 17 (.s 16),
   .gd 17 false 18 (.mv 18 (.s 3)),
   .gd 17 false 19 (.ia 19 1 (.s 18) (.c (.int .i64 0))),
   .gd 17 false 20 (.lds 20 (.s 19)),
   .gd 17 false 21 (.cl 21 112 [(.s 20)]),
   .gd 17 false 22 (.un 22 .not (.s 21)),
   .pk 23 (.s 17) (.c (.bool true)) (.s 22)])
  (.cd (.s 23) (.sq (.rg [.mv 2 (.c (.bool false))])
  .rt) .sk))
  (.sq (.sq (.rg [.mv 4 (.c (.int .i64 0))])
  (.bl 0 (.lp (.sq (.sq (.rg [.mv 24 (.s 4),
   .mv 25 (.s 3),
   .ln 26 (.s 25),
   .bi 27 .lss (.s 24) (.s 26)])
  (.cd (.s 27) .sk (.ex 0)))
  (.sq (.bl 1 (.sq (.rg [.mv 30 (.s 4),
   .mv 31 (.s 3),
   .ln 32 (.s 31),
   .bi 33 .sub (.s 32) (.c (.int .i64 1)),
   .bi 34 .eql (.s 30) (.s 33),
   .mv 5 (.s 34)])
  (.sq (.rg [.mv 35 (.s 3),
   .mv 36 (.s 4),
   .ia 37 1 (.s 35) (.s 36),
   .lds 38 (.s 37),
   .bi 39 .geq (.s 38) (.c (.int .i32 48)),
   .mv 40 (.s 39),
   .gd 40 true 41 (.mv 41 (.s 3)),
   .gd 40 true 42 (.mv 42 (.s 4)),
   .gd 40 true 43 (.ia 43 1 (.s 41) (.s 42)),
   .gd 40 true 44 (.lds 44 (.s 43)),
   .gd 40 true 45 (.bi 45 .leq (.s 44) (.c (.int .i32 57))),
   .pk 46 (.s 40) (.s 45) (.c (.bool false)),
   .mv 6 (.s 46)])
  (.sq (.rg [.mv 47 (.s 3),
   .mv 48 (.s 4),
   .ia 49 1 (.s 47) (.s 48),
   .lds 50 (.s 49),
   .cl 51 112 [(.s 50)],
   .un 52 .not (.s 51),
   .mv 53 (.s 52),
   .gd 53 true 54 (.mv 54 (.s 6)),
   .gd 53 true 55 (.un 55 .not (.s 54)),
   .pk 56 (.s 53) (.s 55) (.c (.bool false)),
   .mv 57 (.s 56),
   .gd 57 true 58 (.mv 58 (.s 5)),
   .gd 57 true 59 (.mv 59 (.s 58)),
   .gd 59 false 60 (.mv 60 (.s 3)),
   .gd 59 false 61 (.mv 61 (.s 4)),
   .gd 59 false 62 (.ia 62 1 (.s 60) (.s 61)),
   .gd 59 false 63 (.lds 63 (.s 62)),
   .gd 59 false 64 (.bi 64 .neq (.s 63) (.c (.int .i32 95))),
   .gd 59 false 65 (.mv 65 (.s 64)),
   .gd 65 true 66 (.mv 66 (.s 3)),
   .gd 65 true 67 (.mv 67 (.s 4)),
   .gd 65 true 68 (.ia 68 1 (.s 66) (.s 67)),
   .gd 65 true 69 (.lds 69 (.s 68)),
   .gd 65 true 70 (.bi 70 .neq (.s 69) (.c (.int .i32 45))),
   .gd 59 false 71 (.pk 71 (.s 65) (.s 70) (.c (.bool false))),
   .gd 57 true 72 (.pk 72 (.s 59) (.c (.bool true)) (.s 71)),
   .pk 73 (.s 57) (.s 72) (.c (.bool false))])
  (.cd (.s 73) (.sq (.rg [.mv 2 (.c (.bool false))])
  .rt) .sk)))))
  (.rg [.mv 28 (.s 4),
   .bi 29 .add (.s 28) (.c (.int .i64 1)),
   .mv 4 (.s 29)]))))))
  (.sq (.rg [.mv 2 (.c (.bool true))])
  .rt)))))
def a50 : AF := ⟨c50, [.t 2], 1, 74⟩
theorem m50 : mF Tryz.prog gl drD Tryz.f50 a50 = true := by kernel_rfl
theorem s50 {l : List AV} {r : AV} (hl : l.length = 1) (hi : idsL l = []) (h : wpA (SpH Tryz.prog gl) c50 (postA [.t 2] r) ⟨initE 0 l, [], []⟩) : Sp Tryz.prog gl 50 l r :=
  @fun_sp Tryz.prog gl drD 50 Tryz.f50 a50 Tryz.func50 m50 (dok _) l r hl hi h
theorem h50 {d : Nat} {I : In} {O : Out} (hl : I.vs.length = 1) (h : wpA (SpH Tryz.prog gl) c50 (postH d [.t 2] O) (inSt I)) : SpH Tryz.prog gl 50 d I O :=
  @fun_spH Tryz.prog gl drD 50 Tryz.f50 a50 Tryz.func50 m50 (dok _) d I O hl h
/-- firebell/firebellref17.in -/
def c51 : AC :=
 (.sq (.rg [.mv 6 (.c (.bool false))])
  (.sq (.rg [.mv 7 (.s 1),
   .mv 8 (.s 0),
   .bi 9 .leq (.s 7) (.s 8),
   .mv 10 (.s 9),
   .gd 10 true 11 (.mv 11 (.s 0)),
   .gd 10 true 12 (.mv 12 (.s 2)),
   .gd 10 true 13 (.bi 13 .leq (.s 11) (.s 12)),
   .pk 14 (.s 10) (.s 13) (.c (.bool false)),
   .mv 6 (.s 14)])
  .rt))
def a51 : AF := ⟨c51, [.t 6], 3, 15⟩
theorem m51 : mF Tryz.prog gl drD Tryz.f51 a51 = true := by kernel_rfl
theorem s51 {l : List AV} {r : AV} (hl : l.length = 3) (hi : idsL l = []) (h : wpA (SpH Tryz.prog gl) c51 (postA [.t 6] r) ⟨initE 0 l, [], []⟩) : Sp Tryz.prog gl 51 l r :=
  @fun_sp Tryz.prog gl drD 51 Tryz.f51 a51 Tryz.func51 m51 (dok _) l r hl hi h
theorem h51 {d : Nat} {I : In} {O : Out} (hl : I.vs.length = 3) (h : wpA (SpH Tryz.prog gl) c51 (postH d [.t 6] O) (inSt I)) : SpH Tryz.prog gl 51 d I O :=
  @fun_spH Tryz.prog gl drD 51 Tryz.f51 a51 Tryz.func51 m51 (dok _) d I O hl h
/-- firebell/firebellref06.Runes -/
def c53 : AC :=
 (.sq (.rg [.mv 2 (.c .nils)])
  (.sq (.rg [.bs 10 1 [],
   .mo 3 10])
  (.sq (.rg [.mv 4 (.c (.int .i64 0))])
  (.sq (.bl 0 (.lp (.sq (.sq (.rg [.mv 11 (.s 4),
   .mv 12 (.s 0),
   .lns 13 (.s 12),
   .bi 14 .lss (.s 11) (.s 13)])
  (.cd (.s 14) .sk (.ex 0)))
  (.bl 1 (.sq (.rg [.mv 15 (.s 0),
   .mv 16 (.s 4),
   .ixs 17 (.s 15) (.s 16),
   .cv 18 .i32 (.s 17),
   .mv 5 (.s 18)])
  (.sq (.rg [.mv 6 (.c (.int .i64 0))])
  (.sq (.rg [.mv 7 (.c (.int .i32 0))])
  (.sq (.bl 2 (.sq (.rg [.mv 20 (.s 5),
   .bi 21 .lss (.s 20) (.c (.int .i32 128)),
   .mv 19 (.s 21)])
  (.cd (.s 19) (.sq (.rg [.mo 22 3,
   .mv 23 (.s 5),
   .bs 24 1 [(.s 23)],
   .ap 25 1 4 (.s 22) (.s 24),
   .mo 3 25])
  (.sq (.rg [.mv 26 (.s 4),
   .bi 27 .add (.s 26) (.c (.int .i64 1)),
   .mv 4 (.s 27)])
  (.ex 1))) (.sq (.rg [.mv 29 (.s 5),
   .bi 30 .geq (.s 29) (.c (.int .i32 192)),
   .mv 31 (.s 30),
   .gd 31 true 32 (.mv 32 (.s 5)),
   .gd 31 true 33 (.bi 33 .lss (.s 32) (.c (.int .i32 224))),
   .pk 34 (.s 31) (.s 33) (.c (.bool false)),
   .mv 28 (.s 34)])
  (.cd (.s 28) (.sq (.rg [.mv 6 (.c (.int .i64 1))])
  (.sq (.rg [.mv 35 (.s 5),
   .bi 36 .sub (.s 35) (.c (.int .i32 192)),
   .mv 5 (.s 36)])
  (.rg [.mv 7 (.c (.int .i32 128))]))) (.sq (.rg [.mv 38 (.s 5),
   .bi 39 .geq (.s 38) (.c (.int .i32 224)),
   .mv 40 (.s 39),
   .gd 40 true 41 (.mv 41 (.s 5)),
   .gd 40 true 42 (.bi 42 .lss (.s 41) (.c (.int .i32 240))),
   .pk 43 (.s 40) (.s 42) (.c (.bool false)),
   .mv 37 (.s 43)])
  (.cd (.s 37) (.sq (.rg [.mv 6 (.c (.int .i64 2))])
  (.sq (.rg [.mv 44 (.s 5),
   .bi 45 .sub (.s 44) (.c (.int .i32 224)),
   .mv 5 (.s 45)])
  (.rg [.mv 7 (.c (.int .i32 2048))]))) (.sq (.rg [.mv 47 (.s 5),
   .bi 48 .geq (.s 47) (.c (.int .i32 240)),
   .mv 49 (.s 48),
   .gd 49 true 50 (.mv 50 (.s 5)),
   .gd 49 true 51 (.bi 51 .lss (.s 50) (.c (.int .i32 248))),
   .pk 52 (.s 49) (.s 51) (.c (.bool false)),
   .mv 46 (.s 52)])
  (.cd (.s 46) (.sq (.rg [.mv 6 (.c (.int .i64 3))])
  (.sq (.rg [.mv 53 (.s 5),
   .bi 54 .sub (.s 53) (.c (.int .i32 240)),
   .mv 5 (.s 54)])
  (.rg [.mv 7 (.c (.int .i32 65536))]))) .sk)))))))))
  (.sq (.rg [.mv 55 (.s 6),
   .bi 56 .gtr (.s 55) (.c (.int .i64 0)),
   .mv 8 (.s 56)])
  (.sq (.sq (.rg [.mv 9 (.c (.int .i64 1))])
  (.bl 3 (.lp (.sq (.sq (.rg [.mv 57 (.s 9),
   .mv 58 (.s 6),
   .bi 59 .leq (.s 57) (.s 58)])
  (.cd (.s 59) .sk (.ex 3)))
  (.sq (.bl 4 (.sq (.sq (.rg [.mv 62 (.s 4),
   .mv 63 (.s 9),
   .bi 64 .add (.s 62) (.s 63),
   .mv 65 (.s 0),
   .lns 66 (.s 65),
   .bi 67 .geq (.s 64) (.s 66),
   .mv 68 (.s 67),
   .gd 68 false 69 (.mv 69 (.s 0)),
   .gd 68 false 70 (.mv 70 (.s 4)),
   .gd 68 false 71 (.mv 71 (.s 9)),
   .gd 68 false 72 (.bi 72 .add (.s 70) (.s 71)),
   .gd 68 false 73 (.ixs 73 (.s 69) (.s 72)),
   .gd 68 false 74 (.bi 74 .lss (.s 73) (.c (.int .u8 128))),
   .pk 75 (.s 68) (.c (.bool true)) (.s 74),
   .mv 76 (.s 75),
   .gd 76 false 77 (.mv 77 (.s 0)),
   .gd 76 false 78 (.mv 78 (.s 4)),
   .gd 76 false 79 (.mv 79 (.s 9)),
   .gd 76 false 80 (.bi 80 .add (.s 78) (.s 79)),
   .gd 76 false 81 (.ixs 81 (.s 77) (.s 80)),
   .gd 76 false 82 (.bi 82 .gtr (.s 81) (.c (.int .u8 191))),
   .pk 83 (.s 76) (.c (.bool true)) (.s 82)])
  (.cd (.s 83) (.sq (.rg [.mv 8 (.c (.bool false))])
  (.ex 3)) .sk))
  (.rg [.mv 84 (.s 5),
   .bi 85 .mul (.c (.int .i32 64)) (.s 84),
   .mv 86 (.s 0),
   .mv 87 (.s 4),
   .mv 88 (.s 9),
   .bi 89 .add (.s 87) (.s 88),
   .ixs 90 (.s 86) (.s 89),
   .cv 91 .i32 (.s 90),
   .bi 92 .add (.s 85) (.s 91),
   .bi 93 .sub (.s 92) (.c (.int .i32 128)),
   .mv 5 (.s 93)])))
  (.rg [.mv 60 (.s 9),
   .bi 61 .add (.s 60) (.c (.int .i64 1)),
   .mv 9 (.s 61)]))))))
  (.sq (.sq (.rg [.mv 94 (.s 8),
   .un 95 .not (.s 94),
   .mv 96 (.s 95),
   .gd 96 false 97 (.mv 97 (.s 5)),
   .gd 96 false 98 (.mv 98 (.s 7)),
   .gd 96 false 99 (.bi 99 .lss (.s 97) (.s 98)),
   .pk 100 (.s 96) (.c (.bool true)) (.s 99),
   .mv 101 (.s 100),
   .gd 101 false 102 (.mv 102 (.s 5)),
   .gd 101 false 103 (.bi 103 .gtr (.s 102) (.c (.int .i32 1114111))),
   .pk 104 (.s 101) (.c (.bool true)) (.s 103),
   .mv 105 (.s 104),
   .gd 105 false 106 (.mv 106 (.s 5)),
   .gd 105 false 107 (.bi 107 .geq (.s 106) (.c (.int .i32 55296))),
   .gd 105 false 108 (.mv 108 (.s 107)),
   .gd 108 true 109 (.mv 109 (.s 5)),
   .gd 108 true 110 (.bi 110 .lss (.s 109) (.c (.int .i32 57344))),
   .gd 105 false 111 (.pk 111 (.s 108) (.s 110) (.c (.bool false))),
   .pk 112 (.s 105) (.c (.bool true)) (.s 111)])
  (.cd (.s 112) (.sq (.rg [.mo 113 3,
   .bs 114 1 [(.c (.int .i32 (-1)))],
   .ap 115 1 4 (.s 113) (.s 114),
   .mo 3 115])
  (.sq (.rg [.mv 116 (.s 4),
   .bi 117 .add (.s 116) (.c (.int .i64 1)),
   .mv 4 (.s 117)])
  (.ex 1))) .sk))
  (.sq (.rg [.mo 118 3,
   .mv 119 (.s 5),
   .bs 120 1 [(.s 119)],
   .ap 121 1 4 (.s 118) (.s 120),
   .mo 3 121])
  (.rg [.mv 122 (.s 4),
   .bi 123 .add (.s 122) (.c (.int .i64 1)),
   .mv 124 (.s 6),
   .bi 125 .add (.s 123) (.s 124),
   .mv 4 (.s 125)])))))))))))))
  (.sq (.rg [.mv 126 (.s 3),
   .mv 2 (.s 126)])
  .rt)))))
def a53 : AF := ⟨c53, [.t 2], 1, 127⟩
theorem m53 : mF Tryz.prog gl drD Tryz.f53 a53 = true := by kernel_rfl
theorem s53 {l : List AV} {r : AV} (hl : l.length = 1) (hi : idsL l = []) (h : wpA (SpH Tryz.prog gl) c53 (postA [.t 2] r) ⟨initE 0 l, [], []⟩) : Sp Tryz.prog gl 53 l r :=
  @fun_sp Tryz.prog gl drD 53 Tryz.f53 a53 Tryz.func53 m53 (dok _) l r hl hi h
theorem h53 {d : Nat} {I : In} {O : Out} (hl : I.vs.length = 1) (h : wpA (SpH Tryz.prog gl) c53 (postH d [.t 2] O) (inSt I)) : SpH Tryz.prog gl 53 d I O :=
  @fun_spH Tryz.prog gl drD 53 Tryz.f53 a53 Tryz.func53 m53 (dok _) d I O hl h
/-- (*firebell/meter.Meter).Windows -/
def c70 : AC :=
 (.sq (.rg [.mv 2 (.c .nils)])
  (.sq (.sq (.rg [.mv 6 (.s 0),
   .pn 7 false (.s 6)])
  (.cd (.s 7) (.sq (.rg [.mv 2 (.c .nils)])
  .rt) .sk))
  (.sq (.rg [.mv 3 (.c .nils)])
  (.sq (.sq (.rg [.mv 8 (.s 0),
   .nc 9 (.s 8),
   .fa 10 (.s 9) 8,
   .lds 11 (.s 10),
   .ln 12 (.s 11),
   .mv 13 (.c (.int .i64 0))])
  (.bl 0 (.lp (.sq (.rg [.bi 14 .lss (.s 13) (.s 12)])
  (.sq (.cd (.s 14) .sk (.ex 0))
  (.sq (.bl 1 (.sq (.rg [.mv 15 (.s 13),
   .ia 16 1 (.s 11) (.s 13),
   .lds 17 (.s 16),
   .mv 4 (.s 15),
   .mv 5 (.s 17)])
  (.rg [.mo 18 3,
   .mv 19 (.s 5),
   .mv 20 (.s 0),
   .nc 21 (.s 20),
   .fa 22 (.s 21) 9,
   .lds 23 (.s 22),
   .mv 24 (.s 4),
   .ia 25 1 (.s 23) (.s 24),
   .lds 26 (.s 25),
   .ce 27 59 [(.s 26)],
   .bd 28 [(.int .i64 0), (.int .u64 0), (.int .u64 0)] [(0, 1, (.s 19)), (1, 2, (.s 27))],
   .bs 29 3 [(.s 28)],
   .ap 30 3 24 (.s 18) (.s 29),
   .mo 3 30])))
  (.rg [.bi 31 .add (.s 13) (.c (.int .i64 1)),
   .mv 13 (.s 31)])))))))
  (.sq (.rg [.mv 32 (.s 3),
   .mv 2 (.s 32)])
  .rt)))))
def a70 : AF := ⟨c70, [.t 2], 1, 33⟩
theorem m70 : mF Tryz.prog gl drD Tryz.f70 a70 = true := by kernel_rfl
theorem s70 {l : List AV} {r : AV} (hl : l.length = 1) (hi : idsL l = []) (h : wpA (SpH Tryz.prog gl) c70 (postA [.t 2] r) ⟨initE 0 l, [], []⟩) : Sp Tryz.prog gl 70 l r :=
  @fun_sp Tryz.prog gl drD 70 Tryz.f70 a70 Tryz.func70 m70 (dok _) l r hl hi h
theorem h70 {d : Nat} {I : In} {O : Out} (hl : I.vs.length = 1) (h : wpA (SpH Tryz.prog gl) c70 (postH d [.t 2] O) (inSt I)) : SpH Tryz.prog gl 70 d I O :=
  @fun_spH Tryz.prog gl drD 70 Tryz.f70 a70 Tryz.func70 m70 (dok _) d I O hl h
/-- firebell/show.RightGoal -/
def c72 : AC :=
 (.sq (.rg [.bx 1 (.s 0),
   .mv 2 (.c (.bool false))])
  (.sq (.sq (.rg [.fa 3 (.s 1) 0,
   .lds 4 (.s 3),
   .cl 5 126 [(.s 4)],
   .un 6 .not (.s 5),
   .mv 7 (.s 6),
   .gd 7 false 8 (.fa 8 (.s 1) 1),
   .gd 7 false 9 (.lds 9 (.s 8)),
   .gd 7 false 10 (.cl 10 127 [(.s 9), (.c (.int .u32 1)), (.c (.int .u32 999999))]),
   .gd 7 false 11 (.un 11 .not (.s 10)),
   .pk 12 (.s 7) (.c (.bool true)) (.s 11),
   .mv 13 (.s 12),
   .gd 13 false 14 (.fa 14 (.s 1) 2),
   .gd 13 false 15 (.lds 15 (.s 14)),
   .gd 13 false 16 (.cl 16 128 [(.s 15), (.c (.int .i64 1)), (.c (.int .i64 86400))]),
   .gd 13 false 17 (.un 17 .not (.s 16)),
   .pk 18 (.s 13) (.c (.bool true)) (.s 17),
   .mv 19 (.s 18),
   .gd 19 false 20 (.fa 20 (.s 1) 3),
   .gd 19 false 21 (.lds 21 (.s 20)),
   .gd 19 false 22 (.cl 22 128 [(.s 21), (.c (.int .i64 0)), (.c (.int .i64 86400))]),
   .gd 19 false 23 (.un 23 .not (.s 22)),
   .pk 24 (.s 19) (.c (.bool true)) (.s 23)])
  (.cd (.s 24) (.sq (.rg [.mv 2 (.c (.bool false))])
  .rt) .sk))
  (.sq (.sq (.rg [.fa 25 (.s 1) 4,
   .lds 26 (.s 25),
   .cl 27 128 [(.s 26), (.c (.int .i64 0)), (.c (.int .i64 34560000))],
   .un 28 .not (.s 27),
   .mv 29 (.s 28),
   .gd 29 false 30 (.fa 30 (.s 1) 4),
   .gd 29 false 31 (.lds 31 (.s 30)),
   .gd 29 false 32 (.fa 32 (.s 1) 2),
   .gd 29 false 33 (.lds 33 (.s 32)),
   .gd 29 false 34 (.bi 34 .rem (.s 31) (.s 33)),
   .gd 29 false 35 (.bi 35 .neq (.s 34) (.c (.int .i64 0))),
   .pk 36 (.s 29) (.c (.bool true)) (.s 35),
   .mv 37 (.s 36),
   .gd 37 false 38 (.fa 38 (.s 1) 5),
   .gd 37 false 39 (.lds 39 (.s 38)),
   .gd 37 false 40 (.cl 40 129 [(.s 39), (.c (.int .i64 0)), (.c (.int .i64 2))]),
   .gd 37 false 41 (.un 41 .not (.s 40)),
   .pk 42 (.s 37) (.c (.bool true)) (.s 41)])
  (.cd (.s 42) (.sq (.rg [.mv 2 (.c (.bool false))])
  .rt) .sk))
  (.sq (.rg [.fa 43 (.s 1) 6,
   .lds 44 (.s 43),
   .cl 45 130 [(.s 44)],
   .mv 46 (.s 45),
   .gd 46 true 47 (.fa 47 (.s 1) 7),
   .gd 46 true 48 (.lds 48 (.s 47)),
   .gd 46 true 49 (.fa 49 (.s 1) 2),
   .gd 46 true 50 (.lds 50 (.s 49)),
   .gd 46 true 51 (.cl 51 131 [(.s 48), (.s 50)]),
   .pk 52 (.s 46) (.s 51) (.c (.bool false)),
   .mv 2 (.s 52)])
  .rt))))
def a72 : AF := ⟨c72, [.t 2], 1, 53⟩
theorem m72 : mF Tryz.prog gl drD Tryz.f72 a72 = true := by kernel_rfl
theorem s72 {l : List AV} {r : AV} (hl : l.length = 1) (hi : idsL l = []) (h : wpA (SpH Tryz.prog gl) c72 (postA [.t 2] r) ⟨initE 0 l, [], []⟩) : Sp Tryz.prog gl 72 l r :=
  @fun_sp Tryz.prog gl drD 72 Tryz.f72 a72 Tryz.func72 m72 (dok _) l r hl hi h
theorem h72 {d : Nat} {I : In} {O : Out} (hl : I.vs.length = 1) (h : wpA (SpH Tryz.prog gl) c72 (postH d [.t 2] O) (inSt I)) : SpH Tryz.prog gl 72 d I O :=
  @fun_spH Tryz.prog gl drD 72 Tryz.f72 a72 Tryz.func72 m72 (dok _) d I O hl h
/-- firebell/firebellref18.Same -/
def c75 : AC :=
 (.sq (.rg [.mv 4 (.c (.bool false))])
  (.sq (.sq (.rg [.mv 6 (.s 0),
   .ln 7 (.s 6),
   .mv 8 (.s 1),
   .ln 9 (.s 8),
   .bi 10 .neq (.s 7) (.s 9)])
  (.cd (.s 10) (.sq (.rg [.mv 4 (.c (.bool false))])
  .rt) .sk))
  (.sq (.sq (.rg [.mv 5 (.c (.int .i64 0))])
  (.bl 0 (.lp (.sq (.sq (.rg [.mv 11 (.s 5),
   .mv 12 (.s 0),
   .ln 13 (.s 12),
   .bi 14 .lss (.s 11) (.s 13)])
  (.cd (.s 14) .sk (.ex 0)))
  (.sq (.bl 1 (.sq (.rd [[], [], [], [], [], [], [], [], []] [.mv 17 (.s 0),
   .mv 18 (.s 5),
   .ia 19 1 (.s 17) (.s 18),
   .lds 20 (.s 19),
   .mv 21 (.s 1),
   .mv 22 (.s 5),
   .ia 23 1 (.s 21) (.s 22),
   .lds 24 (.s 23),
   .bi 25 .neq (.s 20) (.s 24)])
  (.cd (.s 25) (.sq (.rg [.mv 4 (.c (.bool false))])
  .rt) .sk)))
  (.rg [.mv 15 (.s 5),
   .bi 16 .add (.s 15) (.c (.int .i64 1)),
   .mv 5 (.s 16)]))))))
  (.sq (.rg [.mv 4 (.c (.bool true))])
  .rt))))
def a75 : AF := ⟨c75, [.t 4], 2, 26⟩
theorem m75 : mF Tryz.prog gl drD Tryz.f75 a75 = true := by kernel_rfl
theorem s75 {l : List AV} {r : AV} (hl : l.length = 2) (hi : idsL l = []) (h : wpA (SpH Tryz.prog gl) c75 (postA [.t 4] r) ⟨initE 0 l, [], []⟩) : Sp Tryz.prog gl 75 l r :=
  @fun_sp Tryz.prog gl drD 75 Tryz.f75 a75 Tryz.func75 m75 (dok _) l r hl hi h
theorem h75 {d : Nat} {I : In} {O : Out} (hl : I.vs.length = 2) (h : wpA (SpH Tryz.prog gl) c75 (postH d [.t 4] O) (inSt I)) : SpH Tryz.prog gl 75 d I O :=
  @fun_spH Tryz.prog gl drD 75 Tryz.f75 a75 Tryz.func75 m75 (dok _) d I O hl h
/-- firebell/meter.spoil -/
def c76 : AC :=
 (.sq (.rg [.mv 2 (.c .nilp)])
  (.sq (.rg [.mv 3 (.s 0),
   .ce 4 134 [(.s 3), (.c (.int .i64 (-1)))]])
  (.sq (.rg [.mv 2 (.c .nilp)])
  .rt)))
def a76 : AF := ⟨c76, [.t 2], 1, 5⟩
theorem m76 : mF Tryz.prog gl drD Tryz.f76 a76 = true := by kernel_rfl
theorem s76 {l : List AV} {r : AV} (hl : l.length = 1) (hi : idsL l = []) (h : wpA (SpH Tryz.prog gl) c76 (postA [.t 2] r) ⟨initE 0 l, [], []⟩) : Sp Tryz.prog gl 76 l r :=
  @fun_sp Tryz.prog gl drD 76 Tryz.f76 a76 Tryz.func76 m76 (dok _) l r hl hi h
theorem h76 {d : Nat} {I : In} {O : Out} (hl : I.vs.length = 1) (h : wpA (SpH Tryz.prog gl) c76 (postH d [.t 2] O) (inSt I)) : SpH Tryz.prog gl 76 d I O :=
  @fun_spH Tryz.prog gl drD 76 Tryz.f76 a76 Tryz.func76 m76 (dok _) d I O hl h
/-- firebell/burn.Rate -/
def c86 : AC :=
 (.sq (.rg [.bx 3 (.s 1),
   .mv 4 (.c (.int .u64 0)),
   .mv 5 (.c (.int .i64 0))])
  (.sq (.rg [.mv 10 (.s 0),
   .lda 11 2 (.s 3),
   .cl 12 145 [(.s 10), (.s 11)],
   .mv 6 (.s 12)])
  (.sq (.bl 0 (.sq (.rg [.mv 14 (.s 6),
   .bi 15 .neq (.s 14) (.c (.int .i64 0)),
   .mv 13 (.s 15)])
  (.cd (.s 13) (.sq (.rg [.mv 16 (.s 6),
   .mv 4 (.c (.int .u64 0)),
   .mv 5 (.s 16)])
  .rt) (.sq (.rg [.mv 18 (.s 0),
   .cl 19 146 [(.s 18)],
   .bi 20 .eql (.s 19) (.c (.int .u32 0)),
   .mv 17 (.s 20)])
  (.cd (.s 17) (.sq (.rg [.mv 4 (.c (.int .u64 0)),
   .mv 5 (.c (.int .i64 4))])
  .rt) (.sq (.rg [.fa 22 (.s 3) 1,
   .lds 23 (.s 22),
   .bi 24 .eql (.s 23) (.c (.int .u64 0)),
   .mv 21 (.s 24)])
  (.cd (.s 21) (.sq (.rg [.mv 4 (.c (.int .u64 0)),
   .mv 5 (.c (.int .i64 0))])
  .rt) .sk)))))))
  (.sq (.rd [[], [], [], [], [], [], [], [], [], [0, 3], [], [], []] [.lda 26 2 (.s 3),
   .cl 27 148 [(.s 26)],
   .fa 28 (.s 3) 1,
   .lds 29 (.s 28),
   .cl 30 147 [(.s 27), (.s 29)],
   .mv 25 (.s 30),
   .exq 31 (.s 25) 0,
   .exq 32 (.s 25) 1,
   .exq 33 (.s 25) 2,
   .al 7 [(.int .u64 0), (.int .u64 0)],
   .st 2 (.s 7) (.s 31),
   .mv 8 (.s 32),
   .mv 9 (.s 33)])
  (.sq (.rd [[], [], [], [], [], [], [], [], [], []] [.lda 35 2 (.s 7),
   .mv 36 (.s 0),
   .cl 37 146 [(.s 36)],
   .cv 38 .u64 (.s 37),
   .cl 39 147 [(.s 35), (.s 38)],
   .mv 34 (.s 39),
   .exq 40 (.s 34) 0,
   .exq 41 (.s 34) 1,
   .exq 42 (.s 34) 2,
   .st 2 (.s 7) (.s 40)])
  (.sq (.rg [.fa 43 (.s 7) 1,
   .lds 44 (.s 43),
   .mv 4 (.s 44),
   .mv 5 (.c (.int .i64 0))])
  .rt))))))
def a86 : AF := ⟨c86, [.t 4, .t 5], 2, 45⟩
theorem m86 : mF Tryz.prog gl drD Tryz.f86 a86 = true := by kernel_rfl
theorem s86 {l : List AV} {r : AV} (hl : l.length = 2) (hi : idsL l = []) (h : wpA (SpH Tryz.prog gl) c86 (postA [.t 4, .t 5] r) ⟨initE 0 l, [], []⟩) : Sp Tryz.prog gl 86 l r :=
  @fun_sp Tryz.prog gl drD 86 Tryz.f86 a86 Tryz.func86 m86 (dok _) l r hl hi h
theorem h86 {d : Nat} {I : In} {O : Out} (hl : I.vs.length = 2) (h : wpA (SpH Tryz.prog gl) c86 (postH d [.t 4, .t 5] O) (inSt I)) : SpH Tryz.prog gl 86 d I O :=
  @fun_spH Tryz.prog gl drD 86 Tryz.f86 a86 Tryz.func86 m86 (dok _) d I O hl h
/-- firebell/burn.Holds -/
def c87 : AC :=
 (.sq (.rg [.bx 5 (.s 2),
   .mv 6 (.c (.bool false)),
   .mv 7 (.c (.int .i64 0))])
  (.sq (.sq (.rg [.mv 10 (.s 1),
   .bi 11 .gtr (.s 10) (.c (.int .u64 1000000))])
  (.cd (.s 11) (.sq (.rg [.mv 6 (.c (.bool false)),
   .mv 7 (.c (.int .i64 8))])
  .rt) .sk))
  (.sq (.sq (.rg [.mv 12 (.s 0),
   .lda 13 2 (.s 5),
   .cl 14 145 [(.s 12), (.s 13)],
   .mv 8 (.s 14)])
  (.sq (.rg [.mv 15 (.s 8),
   .bi 16 .neq (.s 15) (.c (.int .i64 0))])
  (.cd (.s 16) (.sq (.rg [.mv 17 (.s 8),
   .mv 6 (.c (.bool false)),
   .mv 7 (.s 17)])
  .rt) .sk)))
  (.sq (.rd [[], [], [], [], [], [], [], [], [6], []] [.mv 18 (.s 1),
   .mv 19 (.s 0),
   .cl 20 146 [(.s 19)],
   .cv 21 .u64 (.s 20),
   .bi 22 .mul (.s 18) (.s 21),
   .fa 23 (.s 5) 1,
   .lds 24 (.s 23),
   .cl 25 149 [(.s 22), (.s 24)],
   .al 9 [(.int .u64 0), (.int .u64 0)],
   .st 2 (.s 9) (.s 25)])
  (.sq (.rd [[], [], [], [], [], [], []] [.lda 26 2 (.s 5),
   .cl 27 148 [(.s 26)],
   .lda 28 2 (.s 9),
   .cl 29 150 [(.s 27), (.s 28)],
   .bi 30 .gtr (.s 29) (.c (.int .i64 0)),
   .mv 6 (.s 30),
   .mv 7 (.c (.int .i64 0))])
  .rt)))))
def a87 : AF := ⟨c87, [.t 6, .t 7], 3, 31⟩
theorem m87 : mF Tryz.prog gl drD Tryz.f87 a87 = true := by kernel_rfl
theorem s87 {l : List AV} {r : AV} (hl : l.length = 3) (hi : idsL l = []) (h : wpA (SpH Tryz.prog gl) c87 (postA [.t 6, .t 7] r) ⟨initE 0 l, [], []⟩) : Sp Tryz.prog gl 87 l r :=
  @fun_sp Tryz.prog gl drD 87 Tryz.f87 a87 Tryz.func87 m87 (dok _) l r hl hi h
theorem h87 {d : Nat} {I : In} {O : Out} (hl : I.vs.length = 3) (h : wpA (SpH Tryz.prog gl) c87 (postH d [.t 6, .t 7] O) (inSt I)) : SpH Tryz.prog gl 87 d I O :=
  @fun_spH Tryz.prog gl drD 87 Tryz.f87 a87 Tryz.func87 m87 (dok _) d I O hl h
/-- firebell/firebellref21.Holds -/
def c90 : AC :=
 (.sq (.rg [.bx 5 (.s 2),
   .mv 6 (.c (.bool false)),
   .mv 7 (.c (.int .i64 0))])
  (.sq (.sq (.rg [.mv 8 (.s 0),
   .bi 9 .gtr (.s 8) (.c (.int .u32 1000000)),
   .mv 10 (.s 9),
   .gd 10 false 11 (.mv 11 (.s 1)),
   .gd 10 false 12 (.bi 12 .gtr (.s 11) (.c (.int .u64 1000000))),
   .pk 13 (.s 10) (.c (.bool true)) (.s 12)])
  (.cd (.s 13) (.sq (.rg [.mv 6 (.c (.bool false)),
   .mv 7 (.c (.int .i64 8))])
  .rt) .sk))
  (.sq (.sq (.rg [.fa 14 (.s 5) 0,
   .lds 15 (.s 14),
   .fa 16 (.s 5) 1,
   .lds 17 (.s 16),
   .bi 18 .gtr (.s 15) (.s 17)])
  (.cd (.s 18) (.sq (.rg [.mv 6 (.c (.bool false)),
   .mv 7 (.c (.int .i64 16))])
  .rt) .sk))
  (.sq (.rd [[], [], [], [], [], [], [], [], [], []] [.lda 19 2 (.s 5),
   .cl 20 155 [(.s 19)],
   .mv 21 (.s 0),
   .mv 22 (.s 1),
   .lda 23 2 (.s 5),
   .cl 24 156 [(.s 21), (.s 22), (.s 23)],
   .cl 25 154 [(.s 20), (.s 24)],
   .bi 26 .gtr (.s 25) (.c (.int .i64 0)),
   .mv 6 (.s 26),
   .mv 7 (.c (.int .i64 0))])
  .rt))))
def a90 : AF := ⟨c90, [.t 6, .t 7], 3, 27⟩
theorem m90 : mF Tryz.prog gl drD Tryz.f90 a90 = true := by kernel_rfl
theorem s90 {l : List AV} {r : AV} (hl : l.length = 3) (hi : idsL l = []) (h : wpA (SpH Tryz.prog gl) c90 (postA [.t 6, .t 7] r) ⟨initE 0 l, [], []⟩) : Sp Tryz.prog gl 90 l r :=
  @fun_sp Tryz.prog gl drD 90 Tryz.f90 a90 Tryz.func90 m90 (dok _) l r hl hi h
theorem h90 {d : Nat} {I : In} {O : Out} (hl : I.vs.length = 3) (h : wpA (SpH Tryz.prog gl) c90 (postH d [.t 6, .t 7] O) (inSt I)) : SpH Tryz.prog gl 90 d I O :=
  @fun_spH Tryz.prog gl drD 90 Tryz.f90 a90 Tryz.func90 m90 (dok _) d I O hl h
/-- firebell/report.Right -/
def c93 : AC :=
 (.sq (.rg [.bx 1 (.s 0),
   .mv 2 (.c (.bool false))])
  (.sq (.sq (.rg [.fa 5 (.s 1) 3,
   .lds 6 (.s 5),
   .ln 7 (.s 6),
   .mv 8 (.c (.int .i64 0))])
  (.bl 0 (.lp (.sq (.rg [.bi 9 .lss (.s 8) (.s 7)])
  (.sq (.cd (.s 9) .sk (.ex 0))
  (.sq (.bl 1 (.sq (.rg [.ia 10 12 (.s 6) (.s 8),
   .lda 11 12 (.s 10),
   .al 4 [(.str []), (.bool false), (.bool false), (.int .u64 0), (.int .u64 0), (.bool false), (.int .u64 0), (.int .u64 0), (.int .i64 0), (.int .u64 0), (.int .u64 0), .nils],
   .st 12 (.s 4) (.s 11)])
  (.sq (.rg [.lda 12 12 (.s 4),
   .cl 13 158 [(.s 12)],
   .un 14 .not (.s 13)])
  (.cd (.s 14) (.sq (.rg [.mv 2 (.c (.bool false))])
  .rt) .sk))))
  (.rg [.bi 15 .add (.s 8) (.c (.int .i64 1)),
   .mv 8 (.s 15)])))))))
  (.sq (.rg [.fa 16 (.s 1) 0,
   .lds 17 (.s 16),
   .bi 18 .geq (.s 17) (.c (.int .i64 0)),
   .mv 19 (.s 18),
   .gd 19 true 20 (.fa 20 (.s 1) 0),
   .gd 19 true 21 (.lds 21 (.s 20)),
   .gd 19 true 22 (.bi 22 .leq (.s 21) (.c (.int .i64 253402300799))),
   .pk 23 (.s 19) (.s 22) (.c (.bool false)),
   .mv 24 (.s 23),
   .gd 24 true 25 (.fa 25 (.s 1) 1),
   .gd 24 true 26 (.lds 26 (.s 25)),
   .gd 24 true 27 (.bi 27 .geq (.s 26) (.c (.int .i64 0))),
   .pk 28 (.s 24) (.s 27) (.c (.bool false)),
   .mv 29 (.s 28),
   .gd 29 true 30 (.fa 30 (.s 1) 1),
   .gd 29 true 31 (.lds 31 (.s 30)),
   .gd 29 true 32 (.bi 32 .leq (.s 31) (.c (.int .i64 64))),
   .pk 33 (.s 29) (.s 32) (.c (.bool false)),
   .mv 34 (.s 33),
   .gd 34 true 35 (.fa 35 (.s 1) 3),
   .gd 34 true 36 (.lds 36 (.s 35)),
   .gd 34 true 37 (.ln 37 (.s 36)),
   .gd 34 true 38 (.bi 38 .leq (.s 37) (.c (.int .i64 6))),
   .pk 39 (.s 34) (.s 38) (.c (.bool false)),
   .mv 2 (.s 39)])
  .rt)))
def a93 : AF := ⟨c93, [.t 2], 1, 40⟩
theorem m93 : mF Tryz.prog gl drD Tryz.f93 a93 = true := by kernel_rfl
theorem s93 {l : List AV} {r : AV} (hl : l.length = 1) (hi : idsL l = []) (h : wpA (SpH Tryz.prog gl) c93 (postA [.t 2] r) ⟨initE 0 l, [], []⟩) : Sp Tryz.prog gl 93 l r :=
  @fun_sp Tryz.prog gl drD 93 Tryz.f93 a93 Tryz.func93 m93 (dok _) l r hl hi h
theorem h93 {d : Nat} {I : In} {O : Out} (hl : I.vs.length = 1) (h : wpA (SpH Tryz.prog gl) c93 (postH d [.t 2] O) (inSt I)) : SpH Tryz.prog gl 93 d I O :=
  @fun_spH Tryz.prog gl drD 93 Tryz.f93 a93 Tryz.func93 m93 (dok _) d I O hl h
/-- (*firebell/report.printer).line -/
def c94 : AC :=
 (.sq (.rd [[], [], [], [], [], []] [.mv 4 (.s 0),
   .nc 5 (.s 4),
   .fa 6 (.s 5) 0,
   .mv 7 (.s 1),
   .cl 8 160 [(.s 7), (.c (.str [32]))],
   .ce 9 159 [(.s 6), (.s 8)]])
  (.rg [.mv 10 (.s 0),
   .nc 11 (.s 10),
   .fa 12 (.s 11) 0,
   .ce 13 161 [(.s 12), (.c (.int .u8 10))]]))
def a94 : AF := ⟨c94, [], 2, 14⟩
theorem m94 : mF Tryz.prog gl drD Tryz.f94 a94 = true := by kernel_rfl
theorem s94 {l : List AV} {r : AV} (hl : l.length = 2) (hi : idsL l = []) (h : wpA (SpH Tryz.prog gl) c94 (postA [] r) ⟨initE 0 l, [], []⟩) : Sp Tryz.prog gl 94 l r :=
  @fun_sp Tryz.prog gl drD 94 Tryz.f94 a94 Tryz.func94 m94 (dok _) l r hl hi h
theorem h94 {d : Nat} {I : In} {O : Out} (hl : I.vs.length = 2) (h : wpA (SpH Tryz.prog gl) c94 (postH d [] O) (inSt I)) : SpH Tryz.prog gl 94 d I O :=
  @fun_spH Tryz.prog gl drD 94 Tryz.f94 a94 Tryz.func94 m94 (dok _) d I O hl h
/-- firebell/report.digits -/
def c95 : AC :=
 (.sq (.rg [.mv 2 (.c (.str []))])
  (.sq (.rg [.mv 3 (.s 0),
   .cl 4 162 [(.s 3), (.c (.int .i64 10))],
   .mv 2 (.s 4)])
  .rt))
def a95 : AF := ⟨c95, [.t 2], 1, 5⟩
theorem m95 : mF Tryz.prog gl drD Tryz.f95 a95 = true := by kernel_rfl
theorem s95 {l : List AV} {r : AV} (hl : l.length = 1) (hi : idsL l = []) (h : wpA (SpH Tryz.prog gl) c95 (postA [.t 2] r) ⟨initE 0 l, [], []⟩) : Sp Tryz.prog gl 95 l r :=
  @fun_sp Tryz.prog gl drD 95 Tryz.f95 a95 Tryz.func95 m95 (dok _) l r hl hi h
theorem h95 {d : Nat} {I : In} {O : Out} (hl : I.vs.length = 1) (h : wpA (SpH Tryz.prog gl) c95 (postH d [.t 2] O) (inSt I)) : SpH Tryz.prog gl 95 d I O :=
  @fun_spH Tryz.prog gl drD 95 Tryz.f95 a95 Tryz.func95 m95 (dok _) d I O hl h
/-- firebell/firebellref25.Heavy -/
def c101 : AC :=
 (.sq (.rg [.bx 1 (.s 0),
   .mv 2 (.c (.bool false))])
  (.sq (.rg [.fa 3 (.s 1) 0,
   .lds 4 (.s 3),
   .lns 5 (.s 4),
   .bi 6 .gtr (.s 5) (.c (.int .i64 500)),
   .mv 7 (.s 6),
   .gd 7 false 8 (.fa 8 (.s 1) 1),
   .gd 7 false 9 (.lds 9 (.s 8)),
   .gd 7 false 10 (.lns 10 (.s 9)),
   .gd 7 false 11 (.bi 11 .gtr (.s 10) (.c (.int .i64 500))),
   .pk 12 (.s 7) (.c (.bool true)) (.s 11),
   .mv 2 (.s 12)])
  .rt))
def a101 : AF := ⟨c101, [.t 2], 1, 13⟩
theorem m101 : mF Tryz.prog gl drD Tryz.f101 a101 = true := by kernel_rfl
theorem s101 {l : List AV} {r : AV} (hl : l.length = 1) (hi : idsL l = []) (h : wpA (SpH Tryz.prog gl) c101 (postA [.t 2] r) ⟨initE 0 l, [], []⟩) : Sp Tryz.prog gl 101 l r :=
  @fun_sp Tryz.prog gl drD 101 Tryz.f101 a101 Tryz.func101 m101 (dok _) l r hl hi h
theorem h101 {d : Nat} {I : In} {O : Out} (hl : I.vs.length = 1) (h : wpA (SpH Tryz.prog gl) c101 (postH d [.t 2] O) (inSt I)) : SpH Tryz.prog gl 101 d I O :=
  @fun_spH Tryz.prog gl drD 101 Tryz.f101 a101 Tryz.func101 m101 (dok _) d I O hl h
/-- firebell/report.rules -/
def c102 : AC :=
 (.sq (.rg [.bx 1 (.s 0),
   .mv 2 (.c .nils)])
  (.sq (.rg [.mv 3 (.c .nils)])
  (.sq (.sq (.rg [.fa 7 (.s 1) 0,
   .fa 8 (.s 7) 7,
   .lds 9 (.s 8),
   .ln 10 (.s 9),
   .mv 11 (.c (.int .i64 0))])
  (.bl 0 (.lp (.sq (.rg [.bi 12 .lss (.s 11) (.s 10)])
  (.sq (.cd (.s 12) .sk (.ex 0))
  (.sq (.bl 1 (.sq (.rg [.mv 13 (.s 11),
   .ia 14 7 (.s 9) (.s 11),
   .lda 15 7 (.s 14),
   .al 5 [(.str []), (.bool false), (.int .i64 0), (.int .i64 0), (.int .u64 0), (.int .i64 0), (.int .i64 0)],
   .mv 4 (.s 13),
   .st 7 (.s 5) (.s 15)])
  (.sq (.rg [.fa 16 (.s 5) 0,
   .lds 17 (.s 16),
   .fa 18 (.s 5) 1,
   .lds 19 (.s 18),
   .bd 20 [(.str []), (.bool false), (.int .i64 0), (.int .u64 0), (.int .u64 0)] [(0, 1, (.s 17)), (1, 1, (.s 19))],
   .al 6 [(.str []), (.bool false), (.int .i64 0), (.int .u64 0), (.int .u64 0)],
   .st 5 (.s 6) (.s 20)])
  (.sq (.sq (.rg [.mv 21 (.s 4),
   .fa 22 (.s 1) 14,
   .lds 23 (.s 22),
   .ln 24 (.s 23),
   .bi 25 .lss (.s 21) (.s 24)])
  (.cd (.s 25) (.rg [.fa 26 (.s 1) 14,
   .lds 27 (.s 26),
   .mv 28 (.s 4),
   .ia 29 4 (.s 27) (.s 28),
   .fa 30 (.s 29) 0,
   .lds 31 (.s 30),
   .fa 32 (.s 6) 2,
   .st 1 (.s 32) (.s 31)]) .sk))
  (.sq (.sq (.rg [.fa 33 (.s 1) 8,
   .lds 34 (.s 33),
   .un 35 .not (.s 34)])
  (.cd (.s 35) (.sq (.rd [[], [], [], [], [], [], [], [], [], [], [], [], []] [.fa 37 (.s 1) 0,
   .fa 38 (.s 37) 1,
   .lds 39 (.s 38),
   .lda 40 15 (.s 1),
   .fa 41 (.s 5) 2,
   .lds 42 (.s 41),
   .cl 43 105 [(.s 40), (.s 42)],
   .cl 44 86 [(.s 39), (.s 43)],
   .mv 36 (.s 44),
   .exq 45 (.s 36) 0,
   .exq 46 (.s 36) 1,
   .fa 47 (.s 6) 3,
   .st 1 (.s 47) (.s 45)])
  (.rd [[], [], [], [], [], [], [], [], [], [], [], [], []] [.fa 49 (.s 1) 0,
   .fa 50 (.s 49) 1,
   .lds 51 (.s 50),
   .lda 52 15 (.s 1),
   .fa 53 (.s 5) 3,
   .lds 54 (.s 53),
   .cl 55 105 [(.s 52), (.s 54)],
   .cl 56 86 [(.s 51), (.s 55)],
   .mv 48 (.s 56),
   .exq 57 (.s 48) 0,
   .exq 58 (.s 48) 1,
   .fa 59 (.s 6) 4,
   .st 1 (.s 59) (.s 57)])) .sk))
  (.rg [.mo 60 3,
   .lda 61 5 (.s 6),
   .bs 62 5 [(.s 61)],
   .ap 63 5 48 (.s 60) (.s 62),
   .mo 3 63]))))))
  (.rg [.bi 64 .add (.s 11) (.c (.int .i64 1)),
   .mv 11 (.s 64)])))))))
  (.sq (.rg [.mv 65 (.s 3),
   .mv 2 (.s 65)])
  .rt))))
def a102 : AF := ⟨c102, [.t 2], 1, 66⟩
theorem m102 : mF Tryz.prog gl drD Tryz.f102 a102 = true := by kernel_rfl
theorem s102 {l : List AV} {r : AV} (hl : l.length = 1) (hi : idsL l = []) (h : wpA (SpH Tryz.prog gl) c102 (postA [.t 2] r) ⟨initE 0 l, [], []⟩) : Sp Tryz.prog gl 102 l r :=
  @fun_sp Tryz.prog gl drD 102 Tryz.f102 a102 Tryz.func102 m102 (dok _) l r hl hi h
theorem h102 {d : Nat} {I : In} {O : Out} (hl : I.vs.length = 1) (h : wpA (SpH Tryz.prog gl) c102 (postH d [.t 2] O) (inSt I)) : SpH Tryz.prog gl 102 d I O :=
  @fun_spH Tryz.prog gl drD 102 Tryz.f102 a102 Tryz.func102 m102 (dok _) d I O hl h
/-- firebell/report.budgets -/
def c103 : AC :=
 (.sq (.rg [.bx 2 (.s 0),
   .al 4 [(.bool false), (.int .u64 0), (.int .u64 0)],
   .mv 5 (.c (.bool false))])
  (.sq (.sq (.rg [.fa 6 (.s 2) 0,
   .fa 7 (.s 6) 5,
   .lds 8 (.s 7),
   .bi 9 .neq (.s 8) (.c (.int .i64 0))])
  (.cd (.s 9) (.rg [.mv 11 (.s 1),
   .fa 12 (.s 2) 0,
   .fa 13 (.s 12) 1,
   .lds 14 (.s 13),
   .fa 15 (.s 2) 12,
   .lda 16 2 (.s 15),
   .cl 17 166 [(.s 14), (.s 16)],
   .mv 10 (.s 17),
   .exq 18 (.s 10) 0,
   .exq 19 (.s 10) 1,
   .nc 20 (.s 11),
   .fa 21 (.s 20) 5,
   .st 3 (.s 21) (.s 18)]) .sk))
  (.sq (.sq (.rg [.fa 22 (.s 2) 0,
   .fa 23 (.s 22) 4,
   .lds 24 (.s 23),
   .bi 25 .neq (.s 24) (.c (.int .i64 0))])
  (.cd (.s 25) (.sq (.rd [[], [], [], [], [], [], [], [], [], [], [], [], [], [], [], []] [.mv 27 (.s 1),
   .fa 28 (.s 2) 0,
   .fa 29 (.s 28) 1,
   .lds 30 (.s 29),
   .lda 31 15 (.s 2),
   .fa 32 (.s 2) 0,
   .fa 33 (.s 32) 4,
   .lds 34 (.s 33),
   .cl 35 105 [(.s 31), (.s 34)],
   .cl 36 166 [(.s 30), (.s 35)],
   .mv 26 (.s 36),
   .exq 37 (.s 26) 0,
   .exq 38 (.s 26) 1,
   .nc 39 (.s 27),
   .fa 40 (.s 39) 2,
   .st 3 (.s 40) (.s 37)])
  (.sq (.rg [.mv 41 (.s 1),
   .nc 42 (.s 41),
   .fa 43 (.s 42) 2,
   .lda 44 3 (.s 43),
   .st 3 (.s 4) (.s 44),
   .mv 5 (.c (.bool true))])
  .rt)) .sk))
  (.sq (.rd [[], [], [], [], [], [], [], [], [6], []] [.mv 45 (.s 1),
   .nc 46 (.s 45),
   .fa 47 (.s 46) 5,
   .lda 48 3 (.s 47),
   .fa 49 (.s 2) 0,
   .fa 50 (.s 49) 5,
   .lds 51 (.s 50),
   .bi 52 .neq (.s 51) (.c (.int .i64 0)),
   .st 3 (.s 4) (.s 48),
   .mv 5 (.s 52)])
  .rt))))
def a103 : AF := ⟨c103, [.ca 4 3, .t 5], 2, 53⟩
theorem m103 : mF Tryz.prog gl drD Tryz.f103 a103 = true := by kernel_rfl
theorem s103 {l : List AV} {r : AV} (hl : l.length = 2) (hi : idsL l = []) (h : wpA (SpH Tryz.prog gl) c103 (postA [.ca 4 3, .t 5] r) ⟨initE 0 l, [], []⟩) : Sp Tryz.prog gl 103 l r :=
  @fun_sp Tryz.prog gl drD 103 Tryz.f103 a103 Tryz.func103 m103 (dok _) l r hl hi h
theorem h103 {d : Nat} {I : In} {O : Out} (hl : I.vs.length = 2) (h : wpA (SpH Tryz.prog gl) c103 (postH d [.ca 4 3, .t 5] O) (inSt I)) : SpH Tryz.prog gl 103 d I O :=
  @fun_spH Tryz.prog gl drD 103 Tryz.f103 a103 Tryz.func103 m103 (dok _) d I O hl h
/-- firebell/report.least -/
def c104 : AC :=
 (.sq (.rg [.mv 2 (.c (.int .i64 0))])
  (.sq (.sq (.rg [.mv 6 (.s 0),
   .ln 7 (.s 6),
   .bi 8 .eql (.s 7) (.c (.int .i64 0))])
  (.cd (.s 8) (.sq (.rg [.mv 2 (.c (.int .i64 0))])
  .rt) .sk))
  (.sq (.rg [.mv 3 (.c (.int .i64 9223372036854775807))])
  (.sq (.sq (.rg [.mv 9 (.s 0),
   .ln 10 (.s 9),
   .mv 11 (.c (.int .i64 0))])
  (.bl 0 (.lp (.sq (.rg [.bi 12 .lss (.s 11) (.s 10)])
  (.sq (.cd (.s 12) .sk (.ex 0))
  (.sq (.bl 1 (.sq (.rg [.ia 13 7 (.s 9) (.s 11),
   .lda 14 7 (.s 13),
   .al 5 [(.str []), (.bool false), (.int .i64 0), (.int .i64 0), (.int .u64 0), (.int .i64 0), (.int .i64 0)],
   .st 7 (.s 5) (.s 14)])
  (.rg [.mv 15 (.s 3),
   .fa 16 (.s 5) 3,
   .lds 17 (.s 16),
   .mn 18 (.s 15) (.s 17),
   .mv 3 (.s 18)])))
  (.rg [.bi 19 .add (.s 11) (.c (.int .i64 1)),
   .mv 11 (.s 19)])))))))
  (.sq (.rg [.mv 20 (.s 3),
   .mv 2 (.s 20)])
  .rt)))))
def a104 : AF := ⟨c104, [.t 2], 1, 21⟩
theorem m104 : mF Tryz.prog gl drD Tryz.f104 a104 = true := by kernel_rfl
theorem s104 {l : List AV} {r : AV} (hl : l.length = 1) (hi : idsL l = []) (h : wpA (SpH Tryz.prog gl) c104 (postA [.t 2] r) ⟨initE 0 l, [], []⟩) : Sp Tryz.prog gl 104 l r :=
  @fun_sp Tryz.prog gl drD 104 Tryz.f104 a104 Tryz.func104 m104 (dok _) l r hl hi h
theorem h104 {d : Nat} {I : In} {O : Out} (hl : I.vs.length = 1) (h : wpA (SpH Tryz.prog gl) c104 (postH d [.t 2] O) (inSt I)) : SpH Tryz.prog gl 104 d I O :=
  @fun_spH Tryz.prog gl drD 104 Tryz.f104 a104 Tryz.func104 m104 (dok _) d I O hl h
/-- firebell/report.count -/
def c105 : AC :=
 (.sq (.rg [.bx 2 (.s 0),
   .al 4 [(.int .u64 0), (.int .u64 0)]])
  (.sq (.sq (.rg [.fa 7 (.s 2) 9,
   .lds 8 (.s 7),
   .ln 9 (.s 8),
   .mv 10 (.c (.int .i64 0))])
  (.bl 0 (.lp (.sq (.rg [.bi 11 .lss (.s 10) (.s 9)])
  (.sq (.cd (.s 11) .sk (.ex 0))
  (.sq (.bl 1 (.sq (.rg [.ia 12 3 (.s 8) (.s 10),
   .lda 13 3 (.s 12),
   .al 6 [(.int .i64 0), (.int .u64 0), (.int .u64 0)],
   .st 3 (.s 6) (.s 13)])
  (.sq (.sq (.rg [.fa 14 (.s 6) 0,
   .lds 15 (.s 14),
   .mv 16 (.s 1),
   .bi 17 .neq (.s 15) (.s 16)])
  (.cd (.s 17) (.ex 1) .sk))
  (.sq (.sq (.rg [.fa 18 (.s 6) 1,
   .fa 19 (.s 18) 0,
   .lds 20 (.s 19),
   .fa 21 (.s 6) 1,
   .fa 22 (.s 21) 1,
   .lds 23 (.s 22),
   .bi 24 .gtr (.s 20) (.s 23)])
  (.cd (.s 24) (.ex 0) .sk))
  (.sq (.rg [.fa 25 (.s 6) 1,
   .lda 26 2 (.s 25),
   .st 2 (.s 4) (.s 26)])
  .rt)))))
  (.rg [.bi 27 .add (.s 10) (.c (.int .i64 1)),
   .mv 10 (.s 27)])))))))
  (.sq (.rg [.bd 28 [(.int .u64 0), (.int .u64 0)] [],
   .st 2 (.s 4) (.s 28)])
  .rt)))
def a105 : AF := ⟨c105, [.ca 4 2], 2, 29⟩
theorem m105 : mF Tryz.prog gl drD Tryz.f105 a105 = true := by kernel_rfl
theorem s105 {l : List AV} {r : AV} (hl : l.length = 2) (hi : idsL l = []) (h : wpA (SpH Tryz.prog gl) c105 (postA [.ca 4 2] r) ⟨initE 0 l, [], []⟩) : Sp Tryz.prog gl 105 l r :=
  @fun_sp Tryz.prog gl drD 105 Tryz.f105 a105 Tryz.func105 m105 (dok _) l r hl hi h
theorem h105 {d : Nat} {I : In} {O : Out} (hl : I.vs.length = 2) (h : wpA (SpH Tryz.prog gl) c105 (postH d [.ca 4 2] O) (inSt I)) : SpH Tryz.prog gl 105 d I O :=
  @fun_spH Tryz.prog gl drD 105 Tryz.f105 a105 Tryz.func105 m105 (dok _) d I O hl h
/-- firebell/outlook.Forecast -/
def c106 : AC :=
 (.sq (.rg [.bx 3 (.s 0),
   .al 6 [(.int .i64 0), (.int .u64 0), (.int .u64 0)],
   .mv 7 (.c (.int .i64 0))])
  (.sq (.bl 0 (.sq (.rg [.mv 11 (.s 2),
   .bi 12 .lss (.s 11) (.c (.int .i64 1)),
   .mv 13 (.s 12),
   .gd 13 false 14 (.mv 14 (.s 2)),
   .gd 13 false 15 (.bi 15 .gtr (.s 14) (.c (.int .i64 34560000))),
   .pk 16 (.s 13) (.c (.bool true)) (.s 15),
   .mv 10 (.s 16)])
  (.cd (.s 10) (.sq (.rg [.bd 17 [(.int .i64 0), (.int .u64 0), (.int .u64 0)] [],
   .st 3 (.s 6) (.s 17),
   .mv 7 (.c (.int .i64 8))])
  .rt) (.sq (.rg [.lda 19 3 (.s 3),
   .bd 20 [(.bool false), (.int .u64 0), (.int .u64 0)] [],
   .cl 21 167 [(.s 19), (.s 20)],
   .bi 22 .leq (.s 21) (.c (.int .i64 0)),
   .mv 18 (.s 22)])
  (.cd (.s 18) (.sq (.rg [.bd 23 [(.int .i64 0), (.int .u64 0), (.int .u64 0)] [(0, 1, (.c (.int .i64 0)))],
   .st 3 (.s 6) (.s 23),
   .mv 7 (.c (.int .i64 0))])
  .rt) (.sq (.rg [.mv 25 (.s 1),
   .bi 26 .eql (.s 25) (.c (.int .u64 0)),
   .mv 24 (.s 26)])
  (.cd (.s 24) (.sq (.rg [.bd 27 [(.int .i64 0), (.int .u64 0), (.int .u64 0)] [(0, 1, (.c (.int .i64 1)))],
   .st 3 (.s 6) (.s 27),
   .mv 7 (.c (.int .i64 0))])
  .rt) .sk)))))))
  (.sq (.rg [.fa 29 (.s 3) 1,
   .lda 30 2 (.s 29),
   .mv 31 (.s 2),
   .cv 32 .u64 (.s 31),
   .cl 33 168 [(.s 30), (.s 32)],
   .mv 28 (.s 33),
   .exq 34 (.s 28) 0,
   .exq 35 (.s 28) 1,
   .al 8 [(.int .u64 0), (.int .u64 0)],
   .st 2 (.s 8) (.s 34),
   .mv 9 (.s 35)])
  (.sq (.sq (.rg [.mv 36 (.s 9),
   .bi 37 .neq (.s 36) (.c (.int .i64 0))])
  (.cd (.s 37) (.sq (.rg [.bd 38 [(.int .i64 0), (.int .u64 0), (.int .u64 0)] [],
   .mv 39 (.s 9),
   .st 3 (.s 6) (.s 38),
   .mv 7 (.s 39)])
  .rt) .sk))
  (.sq (.rg [.lda 41 2 (.s 8),
   .cl 42 169 [(.s 41), (.c (.int .u64 1000000))],
   .mv 40 (.s 42),
   .exq 43 (.s 40) 0,
   .exq 44 (.s 40) 1,
   .st 2 (.s 8) (.s 43)])
  (.sq (.rg [.lda 46 2 (.s 8),
   .mv 47 (.s 1),
   .cl 48 169 [(.s 46), (.s 47)],
   .mv 45 (.s 48),
   .exq 49 (.s 45) 0,
   .exq 50 (.s 45) 1,
   .st 2 (.s 8) (.s 49)])
  (.sq (.rg [.lda 51 2 (.s 8),
   .bd 52 [(.int .i64 0), (.int .u64 0), (.int .u64 0)] [(0, 1, (.c (.int .i64 2))), (1, 2, (.s 51))],
   .st 3 (.s 6) (.s 52),
   .mv 7 (.c (.int .i64 0))])
  .rt)))))))
def a106 : AF := ⟨c106, [.ca 6 3, .t 7], 3, 53⟩
theorem m106 : mF Tryz.prog gl drD Tryz.f106 a106 = true := by kernel_rfl
theorem s106 {l : List AV} {r : AV} (hl : l.length = 3) (hi : idsL l = []) (h : wpA (SpH Tryz.prog gl) c106 (postA [.ca 6 3, .t 7] r) ⟨initE 0 l, [], []⟩) : Sp Tryz.prog gl 106 l r :=
  @fun_sp Tryz.prog gl drD 106 Tryz.f106 a106 Tryz.func106 m106 (dok _) l r hl hi h
theorem h106 {d : Nat} {I : In} {O : Out} (hl : I.vs.length = 3) (h : wpA (SpH Tryz.prog gl) c106 (postH d [.ca 6 3, .t 7] O) (inSt I)) : SpH Tryz.prog gl 106 d I O :=
  @fun_spH Tryz.prog gl drD 106 Tryz.f106 a106 Tryz.func106 m106 (dok _) d I O hl h
/-- firebell/firebellref21.Rate -/
def c107 : AC :=
 (.sq (.rg [.bx 3 (.s 1),
   .mv 4 (.c (.int .u64 0)),
   .mv 5 (.c (.int .i64 0))])
  (.sq (.sq (.rg [.mv 9 (.s 0),
   .bi 10 .gtr (.s 9) (.c (.int .u32 1000000))])
  (.cd (.s 10) (.sq (.rg [.mv 4 (.c (.int .u64 0)),
   .mv 5 (.c (.int .i64 8))])
  .rt) .sk))
  (.sq (.sq (.rg [.fa 11 (.s 3) 0,
   .lds 12 (.s 11),
   .fa 13 (.s 3) 1,
   .lds 14 (.s 13),
   .bi 15 .gtr (.s 12) (.s 14)])
  (.cd (.s 15) (.sq (.rg [.mv 4 (.c (.int .u64 0)),
   .mv 5 (.c (.int .i64 16))])
  .rt) .sk))
  (.sq (.sq (.rg [.mv 16 (.s 0),
   .bi 17 .eql (.s 16) (.c (.int .u32 1000000))])
  (.cd (.s 17) (.sq (.rg [.mv 4 (.c (.int .u64 0)),
   .mv 5 (.c (.int .i64 4))])
  .rt) .sk))
  (.sq (.sq (.rg [.fa 18 (.s 3) 1,
   .lds 19 (.s 18),
   .bi 20 .eql (.s 19) (.c (.int .u64 0))])
  (.cd (.s 20) (.sq (.rg [.mv 4 (.c (.int .u64 0)),
   .mv 5 (.c (.int .i64 0))])
  .rt) .sk))
  (.sq (.rg [.mv 6 (.c (.int .u64 0)),
   .mv 7 (.c (.int .u64 1000000001))])
  (.sq (.bl 0 (.lp (.sq (.sq (.rg [.mv 21 (.s 7),
   .mv 22 (.s 6),
   .bi 23 .sub (.s 21) (.s 22),
   .bi 24 .gtr (.s 23) (.c (.int .u64 1))])
  (.cd (.s 24) .sk (.ex 0)))
  (.bl 1 (.sq (.rg [.mv 25 (.s 6),
   .mv 26 (.s 7),
   .mv 27 (.s 6),
   .bi 28 .sub (.s 26) (.s 27),
   .bi 29 .quo (.s 28) (.c (.int .u64 2)),
   .bi 30 .add (.s 25) (.s 29),
   .mv 8 (.s 30)])
  (.sq (.rd [[], [], [], [], [], [], [], []] [.mv 31 (.s 0),
   .mv 32 (.s 8),
   .lda 33 2 (.s 3),
   .cl 34 156 [(.s 31), (.s 32), (.s 33)],
   .lda 35 2 (.s 3),
   .cl 36 155 [(.s 35)],
   .cl 37 154 [(.s 34), (.s 36)],
   .bi 38 .leq (.s 37) (.c (.int .i64 0))])
  (.cd (.s 38) (.rg [.mv 39 (.s 8),
   .mv 6 (.s 39)]) (.rg [.mv 40 (.s 8),
   .mv 7 (.s 40)]))))))))
  (.sq (.rg [.mv 41 (.s 6),
   .mv 4 (.s 41),
   .mv 5 (.c (.int .i64 0))])
  .rt))))))))
def a107 : AF := ⟨c107, [.t 4, .t 5], 2, 42⟩
theorem m107 : mF Tryz.prog gl drD Tryz.f107 a107 = true := by kernel_rfl
theorem s107 {l : List AV} {r : AV} (hl : l.length = 2) (hi : idsL l = []) (h : wpA (SpH Tryz.prog gl) c107 (postA [.t 4, .t 5] r) ⟨initE 0 l, [], []⟩) : Sp Tryz.prog gl 107 l r :=
  @fun_sp Tryz.prog gl drD 107 Tryz.f107 a107 Tryz.func107 m107 (dok _) l r hl hi h
theorem h107 {d : Nat} {I : In} {O : Out} (hl : I.vs.length = 2) (h : wpA (SpH Tryz.prog gl) c107 (postH d [.t 4, .t 5] O) (inSt I)) : SpH Tryz.prog gl 107 d I O :=
  @fun_spH Tryz.prog gl drD 107 Tryz.f107 a107 Tryz.func107 m107 (dok _) d I O hl h
/-- firebell/firebellref33.Count -/
def c108 : AC :=
 (.sq (.rg [.bx 2 (.s 0),
   .al 4 [(.int .u64 0), (.int .u64 0)]])
  (.sq (.sq (.rg [.mv 5 (.c (.int .i64 0))])
  (.bl 0 (.lp (.sq (.sq (.rg [.mv 7 (.s 5),
   .fa 8 (.s 2) 9,
   .lds 9 (.s 8),
   .ln 10 (.s 9),
   .bi 11 .lss (.s 7) (.s 10)])
  (.cd (.s 11) .sk (.ex 0)))
  (.sq (.bl 1 (.sq (.rg [.fa 14 (.s 2) 9,
   .lds 15 (.s 14),
   .mv 16 (.s 5),
   .ia 17 3 (.s 15) (.s 16),
   .fa 18 (.s 17) 0,
   .lds 19 (.s 18),
   .mv 20 (.s 1),
   .bi 21 .eql (.s 19) (.s 20)])
  (.cd (.s 21) (.sq (.rg [.fa 22 (.s 2) 9,
   .lds 23 (.s 22),
   .mv 24 (.s 5),
   .ia 25 3 (.s 23) (.s 24),
   .fa 26 (.s 25) 1,
   .lda 27 2 (.s 26),
   .al 6 [(.int .u64 0), (.int .u64 0)],
   .st 2 (.s 6) (.s 27)])
  (.sq (.sq (.rg [.fa 28 (.s 6) 0,
   .lds 29 (.s 28),
   .fa 30 (.s 6) 1,
   .lds 31 (.s 30),
   .bi 32 .gtr (.s 29) (.s 31)])
  (.cd (.s 32) (.sq (.rg [.bd 33 [(.int .u64 0), (.int .u64 0)] [],
   .st 2 (.s 4) (.s 33)])
  .rt) .sk))
  (.sq (.rg [.lda 34 2 (.s 6),
   .st 2 (.s 4) (.s 34)])
  .rt))) .sk)))
  (.rg [.mv 12 (.s 5),
   .bi 13 .add (.s 12) (.c (.int .i64 1)),
   .mv 5 (.s 13)]))))))
  (.sq (.rg [.bd 35 [(.int .u64 0), (.int .u64 0)] [],
   .st 2 (.s 4) (.s 35)])
  .rt)))
def a108 : AF := ⟨c108, [.ca 4 2], 2, 36⟩
theorem m108 : mF Tryz.prog gl drD Tryz.f108 a108 = true := by kernel_rfl
theorem s108 {l : List AV} {r : AV} (hl : l.length = 2) (hi : idsL l = []) (h : wpA (SpH Tryz.prog gl) c108 (postA [.ca 4 2] r) ⟨initE 0 l, [], []⟩) : Sp Tryz.prog gl 108 l r :=
  @fun_sp Tryz.prog gl drD 108 Tryz.f108 a108 Tryz.func108 m108 (dok _) l r hl hi h
theorem h108 {d : Nat} {I : In} {O : Out} (hl : I.vs.length = 2) (h : wpA (SpH Tryz.prog gl) c108 (postH d [.ca 4 2] O) (inSt I)) : SpH Tryz.prog gl 108 d I O :=
  @fun_spH Tryz.prog gl drD 108 Tryz.f108 a108 Tryz.func108 m108 (dok _) d I O hl h
/-- firebell/firebellref23.Left -/
def c109 : AC :=
 (.sq (.rg [.bx 3 (.s 1),
   .al 4 [(.bool false), (.int .u64 0), (.int .u64 0)],
   .mv 5 (.c (.int .i64 0))])
  (.sq (.rg [.mv 9 (.s 0),
   .lda 10 2 (.s 3),
   .cl 11 170 [(.s 9), (.s 10)],
   .mv 6 (.s 11)])
  (.sq (.sq (.rg [.mv 12 (.s 6),
   .bi 13 .neq (.s 12) (.c (.int .i64 0))])
  (.cd (.s 13) (.sq (.rg [.bd 14 [(.bool false), (.int .u64 0), (.int .u64 0)] [],
   .mv 15 (.s 6),
   .st 3 (.s 4) (.s 14),
   .mv 5 (.s 15)])
  .rt) .sk))
  (.sq (.rg [.mv 17 (.s 0),
   .lda 18 2 (.s 3),
   .cl 19 172 [(.s 17), (.s 18)],
   .cl 20 171 [(.s 19)],
   .mv 16 (.s 20),
   .exq 21 (.s 16) 0,
   .exq 22 (.s 16) 1,
   .al 7 [(.bool false), (.int .u64 0), (.int .u64 0)],
   .st 3 (.s 7) (.s 21),
   .mv 8 (.s 22)])
  (.sq (.rg [.lda 23 3 (.s 7),
   .st 3 (.s 4) (.s 23),
   .mv 5 (.c (.int .i64 0))])
  .rt)))))
def a109 : AF := ⟨c109, [.ca 4 3, .t 5], 2, 24⟩
theorem m109 : mF Tryz.prog gl drD Tryz.f109 a109 = true := by kernel_rfl
theorem s109 {l : List AV} {r : AV} (hl : l.length = 2) (hi : idsL l = []) (h : wpA (SpH Tryz.prog gl) c109 (postA [.ca 4 3, .t 5] r) ⟨initE 0 l, [], []⟩) : Sp Tryz.prog gl 109 l r :=
  @fun_sp Tryz.prog gl drD 109 Tryz.f109 a109 Tryz.func109 m109 (dok _) l r hl hi h
theorem h109 {d : Nat} {I : In} {O : Out} (hl : I.vs.length = 2) (h : wpA (SpH Tryz.prog gl) c109 (postH d [.ca 4 3, .t 5] O) (inSt I)) : SpH Tryz.prog gl 109 d I O :=
  @fun_spH Tryz.prog gl drD 109 Tryz.f109 a109 Tryz.func109 m109 (dok _) d I O hl h
/-- firebell/firebellref24.Forecast -/
def c110 : AC :=
 (.sq (.rg [.bx 3 (.s 0),
   .al 6 [(.int .i64 0), (.int .u64 0), (.int .u64 0)],
   .mv 7 (.c (.int .i64 0))])
  (.sq (.sq (.rg [.mv 16 (.s 2),
   .bi 17 .lss (.s 16) (.c (.int .i64 1)),
   .mv 18 (.s 17),
   .gd 18 false 19 (.mv 19 (.s 2)),
   .gd 18 false 20 (.bi 20 .gtr (.s 19) (.c (.int .i64 34560000))),
   .pk 21 (.s 18) (.c (.bool true)) (.s 20)])
  (.cd (.s 21) (.sq (.rg [.bd 22 [(.int .i64 0), (.int .u64 0), (.int .u64 0)] [],
   .st 3 (.s 6) (.s 22),
   .mv 7 (.c (.int .i64 8))])
  .rt) .sk))
  (.sq (.sq (.rg [.fa 23 (.s 3) 0,
   .lds 24 (.s 23),
   .mv 25 (.s 24),
   .gd 25 false 26 (.fa 26 (.s 3) 1),
   .gd 25 false 27 (.lda 27 2 (.s 26)),
   .gd 25 false 28 (.bd 28 [(.int .u64 0), (.int .u64 0)] []),
   .gd 25 false 29 (.ea 29 false [.i, .i] (.s 27) (.s 28)),
   .pk 30 (.s 25) (.c (.bool true)) (.s 29)])
  (.cd (.s 30) (.sq (.rg [.bd 31 [(.int .i64 0), (.int .u64 0), (.int .u64 0)] [],
   .st 3 (.s 6) (.s 31),
   .mv 7 (.c (.int .i64 0))])
  .rt) .sk))
  (.sq (.sq (.rg [.mv 32 (.s 1),
   .bi 33 .eql (.s 32) (.c (.int .u64 0))])
  (.cd (.s 33) (.sq (.rg [.bd 34 [(.int .i64 0), (.int .u64 0), (.int .u64 0)] [(0, 1, (.c (.int .i64 1)))],
   .st 3 (.s 6) (.s 34),
   .mv 7 (.c (.int .i64 0))])
  .rt) .sk))
  (.sq (.rg [.fa 35 (.s 3) 1,
   .lda 36 2 (.s 35),
   .mv 37 (.s 2),
   .cl 38 173 [(.s 36), (.s 37)],
   .mv 8 (.s 38)])
  (.sq (.sq (.rg [.mv 40 (.s 8),
   .cl 41 174 [(.s 40)],
   .mv 39 (.s 41),
   .exq 42 (.s 39) 0,
   .exq 43 (.s 39) 1,
   .al 9 [(.int .u64 0), (.int .u64 0)],
   .st 2 (.s 9) (.s 42),
   .mv 10 (.s 43)])
  (.sq (.rg [.mv 44 (.s 10),
   .un 45 .not (.s 44)])
  (.cd (.s 45) (.sq (.rg [.bd 46 [(.int .i64 0), (.int .u64 0), (.int .u64 0)] [],
   .st 3 (.s 6) (.s 46),
   .mv 7 (.c (.int .i64 3))])
  .rt) .sk)))
  (.sq (.rg [.mv 47 (.s 1),
   .cl 48 176 [(.s 47)],
   .cl 49 176 [(.c (.int .u64 1000000))],
   .cl 50 175 [(.s 48), (.s 49)],
   .mv 11 (.s 50)])
  (.sq (.rg [.mv 52 (.s 8),
   .mv 53 (.s 11),
   .cl 54 177 [(.s 52), (.s 53)],
   .mv 51 (.s 54),
   .exq 55 (.s 51) 0,
   .exq 56 (.s 51) 1,
   .mv 12 (.s 55),
   .mv 13 (.s 56)])
  (.sq (.sq (.rg [.mv 57 (.s 13),
   .cl 58 154 [(.s 57), (.c .nils)],
   .bi 59 .gtr (.s 58) (.c (.int .i64 0))])
  (.cd (.s 59) (.rg [.mv 60 (.s 12),
   .bs 61 1 [(.c (.bool true))],
   .cl 62 178 [(.s 60), (.s 61)],
   .mv 12 (.s 62)]) .sk))
  (.sq (.rg [.mv 64 (.s 12),
   .cl 65 174 [(.s 64)],
   .mv 63 (.s 65),
   .exq 66 (.s 63) 0,
   .exq 67 (.s 63) 1,
   .al 14 [(.int .u64 0), (.int .u64 0)],
   .st 2 (.s 14) (.s 66),
   .mv 15 (.s 67)])
  (.sq (.rg [.lda 68 2 (.s 14),
   .bd 69 [(.int .i64 0), (.int .u64 0), (.int .u64 0)] [(0, 1, (.c (.int .i64 2))), (1, 2, (.s 68))],
   .st 3 (.s 6) (.s 69),
   .mv 7 (.c (.int .i64 0))])
  .rt)))))))))))
def a110 : AF := ⟨c110, [.ca 6 3, .t 7], 3, 70⟩
theorem m110 : mF Tryz.prog gl drD Tryz.f110 a110 = true := by kernel_rfl
theorem s110 {l : List AV} {r : AV} (hl : l.length = 3) (hi : idsL l = []) (h : wpA (SpH Tryz.prog gl) c110 (postA [.ca 6 3, .t 7] r) ⟨initE 0 l, [], []⟩) : Sp Tryz.prog gl 110 l r :=
  @fun_sp Tryz.prog gl drD 110 Tryz.f110 a110 Tryz.func110 m110 (dok _) l r hl hi h
theorem h110 {d : Nat} {I : In} {O : Out} (hl : I.vs.length = 3) (h : wpA (SpH Tryz.prog gl) c110 (postH d [.ca 6 3, .t 7] O) (inSt I)) : SpH Tryz.prog gl 110 d I O :=
  @fun_spH Tryz.prog gl drD 110 Tryz.f110 a110 Tryz.func110 m110 (dok _) d I O hl h
/-- firebell/firebellref06.Letter -/
def c112 : AC :=
 (.sq (.rg [.mv 2 (.c (.bool false))])
  (.sq (.sq (.rg [.mv 3 (.s 0),
   .bi 4 .geq (.s 3) (.c (.int .i32 97)),
   .mv 5 (.s 4),
   .gd 5 true 6 (.mv 6 (.s 0)),
   .gd 5 true 7 (.bi 7 .leq (.s 6) (.c (.int .i32 122))),
   .pk 8 (.s 5) (.s 7) (.c (.bool false)),
   .mv 9 (.s 8),
   .gd 9 false 10 (.mv 10 (.s 0)),
   .gd 9 false 11 (.bi 11 .geq (.s 10) (.c (.int .i32 65))),
   .gd 9 false 12 (.mv 12 (.s 11)),
   .gd 12 true 13 (.mv 13 (.s 0)),
   .gd 12 true 14 (.bi 14 .leq (.s 13) (.c (.int .i32 90))),
   .gd 9 false 15 (.pk 15 (.s 12) (.s 14) (.c (.bool false))),
   .pk 16 (.s 9) (.c (.bool true)) (.s 15)])
  (.cd (.s 16) (.sq (.rg [.mv 2 (.c (.bool true))])
  .rt) .sk))
  (.sq (.sq (.rg [.mv 17 (.s 0),
   .bi 18 .geq (.s 17) (.c (.int .i32 192)),
   .mv 19 (.s 18),
   .gd 19 true 20 (.mv 20 (.s 0)),
   .gd 19 true 21 (.bi 21 .leq (.s 20) (.c (.int .i32 591))),
   .pk 22 (.s 19) (.s 21) (.c (.bool false))])
  (.cd (.s 22) (.sq (.rg [.mv 23 (.s 0),
   .bi 24 .neq (.s 23) (.c (.int .i32 215)),
   .mv 25 (.s 24),
   .gd 25 true 26 (.mv 26 (.s 0)),
   .gd 25 true 27 (.bi 27 .neq (.s 26) (.c (.int .i32 247))),
   .pk 28 (.s 25) (.s 27) (.c (.bool false)),
   .mv 2 (.s 28)])
  .rt) .sk))
  (.sq (.rg [.mv 29 (.s 0),
   .bi 30 .geq (.s 29) (.c (.int .i32 880)),
   .mv 31 (.s 30),
   .gd 31 true 32 (.mv 32 (.s 0)),
   .gd 31 true 33 (.bi 33 .leq (.s 32) (.c (.int .i32 1279))),
   .pk 34 (.s 31) (.s 33) (.c (.bool false)),
   .mv 2 (.s 34)])
  .rt))))
def a112 : AF := ⟨c112, [.t 2], 1, 35⟩
theorem m112 : mF Tryz.prog gl drD Tryz.f112 a112 = true := by kernel_rfl
theorem s112 {l : List AV} {r : AV} (hl : l.length = 1) (hi : idsL l = []) (h : wpA (SpH Tryz.prog gl) c112 (postA [.t 2] r) ⟨initE 0 l, [], []⟩) : Sp Tryz.prog gl 112 l r :=
  @fun_sp Tryz.prog gl drD 112 Tryz.f112 a112 Tryz.func112 m112 (dok _) l r hl hi h
theorem h112 {d : Nat} {I : In} {O : Out} (hl : I.vs.length = 1) (h : wpA (SpH Tryz.prog gl) c112 (postH d [.t 2] O) (inSt I)) : SpH Tryz.prog gl 112 d I O :=
  @fun_spH Tryz.prog gl drD 112 Tryz.f112 a112 Tryz.func112 m112 (dok _) d I O hl h
/-- firebell/meter.fits -/
def c119 : AC :=
 (.sq (.rg [.bx 2 (.s 0),
   .bx 3 (.s 1),
   .mv 4 (.c (.bool false))])
  (.sq (.rg [.fa 5 (.s 3) 1,
   .lds 6 (.s 5),
   .bi 7 .leq (.s 6) (.c (.int .u64 9223372036854775807)),
   .mv 8 (.s 7),
   .gd 8 true 9 (.fa 9 (.s 2) 1),
   .gd 8 true 10 (.lds 10 (.s 9)),
   .gd 8 true 11 (.fa 11 (.s 3) 1),
   .gd 8 true 12 (.lds 12 (.s 11)),
   .gd 8 true 13 (.bi 13 .sub (.c (.int .u64 9223372036854775807)) (.s 12)),
   .gd 8 true 14 (.bi 14 .leq (.s 10) (.s 13)),
   .pk 15 (.s 8) (.s 14) (.c (.bool false)),
   .mv 4 (.s 15)])
  .rt))
def a119 : AF := ⟨c119, [.t 4], 2, 16⟩
theorem m119 : mF Tryz.prog gl drD Tryz.f119 a119 = true := by kernel_rfl
theorem s119 {l : List AV} {r : AV} (hl : l.length = 2) (hi : idsL l = []) (h : wpA (SpH Tryz.prog gl) c119 (postA [.t 4] r) ⟨initE 0 l, [], []⟩) : Sp Tryz.prog gl 119 l r :=
  @fun_sp Tryz.prog gl drD 119 Tryz.f119 a119 Tryz.func119 m119 (dok _) l r hl hi h
theorem h119 {d : Nat} {I : In} {O : Out} (hl : I.vs.length = 2) (h : wpA (SpH Tryz.prog gl) c119 (postH d [.t 4] O) (inSt I)) : SpH Tryz.prog gl 119 d I O :=
  @fun_spH Tryz.prog gl drD 119 Tryz.f119 a119 Tryz.func119 m119 (dok _) d I O hl h
/-- firebell/text.Name -/
def c126 : AC :=
 (.sq (.rg [.mv 2 (.c (.bool false))])
  (.sq (.rg [.mv 3 (.c (.int .i64 0))])
  (.sq (.rg [.mv 4 (.c (.int .i32 32))])
  (.sq (.sq (.rg [.mv 8 (.s 0),
   .rs 9 (.s 8)])
  (.bl 0 (.lp (.sq (.rg [.nx 10 (.s 9),
   .exq 11 (.s 10) 0])
  (.sq (.cd (.s 11) .sk (.ex 0))
  (.bl 1 (.sq (.rg [.exq 12 (.s 10) 1,
   .exq 13 (.s 10) 2,
   .mv 5 (.s 12),
   .mv 6 (.s 13)])
  (.sq (.rg [.mv 14 (.s 6),
   .cl 15 183 [(.s 14)],
   .mv 16 (.s 15),
   .gd 16 false 17 (.mv 17 (.s 5)),
   .gd 16 false 18 (.bi 18 .gtr (.s 17) (.c (.int .i64 0))),
   .gd 16 false 19 (.mv 19 (.s 18)),
   .gd 19 true 20 (.mv 20 (.s 6)),
   .gd 19 true 21 (.cl 21 184 [(.s 20)]),
   .gd 19 true 22 (.mv 22 (.s 21)),
   .gd 22 false 23 (.mv 23 (.s 6)),
   .gd 22 false 24 (.bi 24 .eql (.s 23) (.c (.int .i32 95))),
   .gd 19 true 25 (.pk 25 (.s 22) (.c (.bool true)) (.s 24)),
   .gd 19 true 26 (.mv 26 (.s 25)),
   .gd 26 false 27 (.mv 27 (.s 6)),
   .gd 26 false 28 (.bi 28 .eql (.s 27) (.c (.int .i32 45))),
   .gd 19 true 29 (.pk 29 (.s 26) (.c (.bool true)) (.s 28)),
   .gd 16 false 30 (.pk 30 (.s 19) (.s 29) (.c (.bool false))),
   .pk 31 (.s 16) (.c (.bool true)) (.s 30),
   .mv 7 (.s 31)])
  (.sq (.sq (.rg [.mv 32 (.s 7),
   .un 33 .not (.s 32)])
  (.cd (.s 33) (.sq (.rg [.mv 2 (.c (.bool false))])
  .rt) .sk))
  (.rg [.mv 34 (.s 3),
   .bi 35 .add (.s 34) (.c (.int .i64 1)),
   .mv 36 (.s 6),
   .mv 3 (.s 35),
   .mv 4 (.s 36)]))))))))))
  (.sq (.rg [.mv 37 (.s 3),
   .bi 38 .gtr (.s 37) (.c (.int .i64 0)),
   .mv 39 (.s 38),
   .gd 39 true 40 (.mv 40 (.s 3)),
   .gd 39 true 41 (.bi 41 .leq (.s 40) (.c (.int .i64 24))),
   .pk 42 (.s 39) (.s 41) (.c (.bool false)),
   .mv 43 (.s 42),
   .gd 43 true 44 (.mv 44 (.s 4)),
   .gd 43 true 45 (.cl 45 183 [(.s 44)]),
   .gd 43 true 46 (.mv 46 (.s 45)),
   .gd 46 false 47 (.mv 47 (.s 4)),
   .gd 46 false 48 (.cl 48 184 [(.s 47)]),
   .gd 43 true 49 (.pk 49 (.s 46) (.c (.bool true)) (.s 48)),
   .pk 50 (.s 43) (.s 49) (.c (.bool false)),
   .mv 2 (.s 50)])
  .rt)))))
def a126 : AF := ⟨c126, [.t 2], 1, 51⟩
theorem m126 : mF Tryz.prog gl drD Tryz.f126 a126 = true := by kernel_rfl
theorem s126 {l : List AV} {r : AV} (hl : l.length = 1) (hi : idsL l = []) (h : wpA (SpH Tryz.prog gl) c126 (postA [.t 2] r) ⟨initE 0 l, [], []⟩) : Sp Tryz.prog gl 126 l r :=
  @fun_sp Tryz.prog gl drD 126 Tryz.f126 a126 Tryz.func126 m126 (dok _) l r hl hi h
theorem h126 {d : Nat} {I : In} {O : Out} (hl : I.vs.length = 1) (h : wpA (SpH Tryz.prog gl) c126 (postH d [.t 2] O) (inSt I)) : SpH Tryz.prog gl 126 d I O :=
  @fun_spH Tryz.prog gl drD 126 Tryz.f126 a126 Tryz.func126 m126 (dok _) d I O hl h
/-- firebell/show.between[uint32] -/
def c127 : AC :=
 (.sq (.rg [.mv 6 (.c (.bool false))])
  (.sq (.rg [.mv 7 (.s 0),
   .mv 8 (.s 1),
   .bi 9 .geq (.s 7) (.s 8),
   .mv 10 (.s 9),
   .gd 10 true 11 (.mv 11 (.s 0)),
   .gd 10 true 12 (.mv 12 (.s 2)),
   .gd 10 true 13 (.bi 13 .leq (.s 11) (.s 12)),
   .pk 14 (.s 10) (.s 13) (.c (.bool false)),
   .mv 6 (.s 14)])
  .rt))
def a127 : AF := ⟨c127, [.t 6], 3, 15⟩
theorem m127 : mF Tryz.prog gl drD Tryz.f127 a127 = true := by kernel_rfl
theorem s127 {l : List AV} {r : AV} (hl : l.length = 3) (hi : idsL l = []) (h : wpA (SpH Tryz.prog gl) c127 (postA [.t 6] r) ⟨initE 0 l, [], []⟩) : Sp Tryz.prog gl 127 l r :=
  @fun_sp Tryz.prog gl drD 127 Tryz.f127 a127 Tryz.func127 m127 (dok _) l r hl hi h
theorem h127 {d : Nat} {I : In} {O : Out} (hl : I.vs.length = 3) (h : wpA (SpH Tryz.prog gl) c127 (postH d [.t 6] O) (inSt I)) : SpH Tryz.prog gl 127 d I O :=
  @fun_spH Tryz.prog gl drD 127 Tryz.f127 a127 Tryz.func127 m127 (dok _) d I O hl h
/-- firebell/ring.spoil -/
def c138 : AC :=
 (.sq (.rg [.mv 2 (.c .nilp)])
  (.sq (.rg [.mv 3 (.s 0),
   .ce 4 134 [(.s 3), (.c (.int .i64 (-1)))]])
  (.sq (.rg [.mv 2 (.c .nilp)])
  .rt)))
def a138 : AF := ⟨c138, [.t 2], 1, 5⟩
theorem m138 : mF Tryz.prog gl drD Tryz.f138 a138 = true := by kernel_rfl
theorem s138 {l : List AV} {r : AV} (hl : l.length = 1) (hi : idsL l = []) (h : wpA (SpH Tryz.prog gl) c138 (postA [.t 2] r) ⟨initE 0 l, [], []⟩) : Sp Tryz.prog gl 138 l r :=
  @fun_sp Tryz.prog gl drD 138 Tryz.f138 a138 Tryz.func138 m138 (dok _) l r hl hi h
theorem h138 {d : Nat} {I : In} {O : Out} (hl : I.vs.length = 1) (h : wpA (SpH Tryz.prog gl) c138 (postH d [.t 2] O) (inSt I)) : SpH Tryz.prog gl 138 d I O :=
  @fun_spH Tryz.prog gl drD 138 Tryz.f138 a138 Tryz.func138 m138 (dok _) d I O hl h
/-- firebell/firebellref07.Get -/
def c139 : AC :=
 (.sq (.rg [.bx 5 (.s 2),
   .al 6 [(.int .u64 0), (.int .i64 0), (.str []), (.bool false)],
   .mv 7 (.c (.int .i64 0)),
   .mv 8 (.c (.bool false))])
  (.sq (.rg [.bd 15 [(.int .u64 0), (.int .i64 0), (.str []), (.bool false)] [],
   .al 9 [(.int .u64 0), (.int .i64 0), (.str []), (.bool false)],
   .st 4 (.s 9) (.s 15)])
  (.sq (.sq (.rg [.mv 16 (.s 1),
   .mv 17 (.s 0),
   .ln 18 (.s 17),
   .bi 19 .geq (.s 16) (.s 18)])
  (.cd (.s 19) (.sq (.rg [.lda 20 4 (.s 9),
   .st 4 (.s 6) (.s 20),
   .mv 7 (.c (.int .i64 0)),
   .mv 8 (.c (.bool false))])
  .rt) .sk))
  (.sq (.sq (.rg [.fa 21 (.s 5) 0,
   .lds 22 (.s 21),
   .bi 23 .eql (.s 22) (.c (.int .i64 3))])
  (.cd (.s 23) (.sq (.rd [[], [], [], [], [], [], [], [], [], [], [], [], [], [11], [], []] [.mv 24 (.s 0),
   .mv 25 (.s 1),
   .ia 26 1 (.s 24) (.s 25),
   .lds 27 (.s 26),
   .bi 28 .eql (.s 27) (.c (.int .u8 1)),
   .bd 29 [(.int .u64 0), (.int .i64 0), (.str []), (.bool false)] [(3, 1, (.s 28))],
   .mv 30 (.s 1),
   .bi 31 .add (.s 30) (.c (.int .i64 1)),
   .mv 32 (.s 0),
   .mv 33 (.s 1),
   .ia 34 1 (.s 32) (.s 33),
   .lds 35 (.s 34),
   .bi 36 .lss (.s 35) (.c (.int .u8 2)),
   .st 4 (.s 6) (.s 29),
   .mv 7 (.s 31),
   .mv 8 (.s 36)])
  .rt) .sk))
  (.sq (.rg [.mv 37 (.s 0),
   .mv 38 (.s 1),
   .ia 39 1 (.s 37) (.s 38),
   .lds 40 (.s 39),
   .cv 41 .i64 (.s 40),
   .mv 10 (.s 41)])
  (.sq (.rg [.mv 11 (.c (.bool false))])
  (.sq (.sq (.rg [.fa 42 (.s 5) 0,
   .lds 43 (.s 42),
   .bi 44 .eql (.s 43) (.c (.int .i64 1)),
   .mv 45 (.s 44),
   .gd 45 true 46 (.mv 46 (.s 10)),
   .gd 45 true 47 (.bi 47 .quo (.s 46) (.c (.int .i64 16))),
   .gd 45 true 48 (.bi 48 .rem (.s 47) (.c (.int .i64 2))),
   .gd 45 true 49 (.bi 49 .eql (.s 48) (.c (.int .i64 1))),
   .pk 50 (.s 45) (.s 49) (.c (.bool false))])
  (.cd (.s 50) (.sq (.rg [.mv 11 (.c (.bool true))])
  (.rg [.mv 51 (.s 10),
   .bi 52 .sub (.s 51) (.c (.int .i64 16)),
   .mv 10 (.s 52)])) .sk))
  (.sq (.sq (.rg [.mv 53 (.s 10),
   .bi 54 .gtr (.s 53) (.c (.int .i64 8)),
   .mv 55 (.s 54),
   .gd 55 false 56 (.mv 56 (.s 10)),
   .gd 55 false 57 (.mv 57 (.s 0)),
   .gd 55 false 58 (.ln 58 (.s 57)),
   .gd 55 false 59 (.mv 59 (.s 1)),
   .gd 55 false 60 (.bi 60 .sub (.s 58) (.s 59)),
   .gd 55 false 61 (.bi 61 .sub (.s 60) (.c (.int .i64 1))),
   .gd 55 false 62 (.bi 62 .gtr (.s 56) (.s 61)),
   .pk 63 (.s 55) (.c (.bool true)) (.s 62),
   .mv 64 (.s 63),
   .gd 64 false 65 (.mv 65 (.s 10)),
   .gd 64 false 66 (.bi 66 .gtr (.s 65) (.c (.int .i64 0))),
   .gd 64 false 67 (.mv 67 (.s 66)),
   .gd 67 true 68 (.mv 68 (.s 0)),
   .gd 67 true 69 (.mv 69 (.s 1)),
   .gd 67 true 70 (.bi 70 .add (.s 69) (.c (.int .i64 1))),
   .gd 67 true 71 (.ia 71 1 (.s 68) (.s 70)),
   .gd 67 true 72 (.lds 72 (.s 71)),
   .gd 67 true 73 (.bi 73 .eql (.s 72) (.c (.int .u8 0))),
   .gd 64 false 74 (.pk 74 (.s 67) (.s 73) (.c (.bool false))),
   .pk 75 (.s 64) (.c (.bool true)) (.s 74)])
  (.cd (.s 75) (.sq (.rg [.lda 76 4 (.s 9),
   .st 4 (.s 6) (.s 76),
   .mv 7 (.c (.int .i64 0)),
   .mv 8 (.c (.bool false))])
  .rt) .sk))
  (.sq (.rg [.mv 12 (.c (.int .u64 0))])
  (.sq (.sq (.rg [.mv 13 (.c (.int .i64 0))])
  (.bl 0 (.lp (.sq (.sq (.rg [.mv 77 (.s 13),
   .mv 78 (.s 10),
   .bi 79 .lss (.s 77) (.s 78)])
  (.cd (.s 79) .sk (.ex 0)))
  (.sq (.bl 1 (.rg [.mv 82 (.s 12),
   .bi 83 .mul (.c (.int .u64 256)) (.s 82),
   .mv 84 (.s 0),
   .mv 85 (.s 1),
   .bi 86 .add (.s 85) (.c (.int .i64 1)),
   .mv 87 (.s 13),
   .bi 88 .add (.s 86) (.s 87),
   .ia 89 1 (.s 84) (.s 88),
   .lds 90 (.s 89),
   .cv 91 .u64 (.s 90),
   .bi 92 .add (.s 83) (.s 91),
   .mv 12 (.s 92)]))
  (.rg [.mv 80 (.s 13),
   .bi 81 .add (.s 80) (.c (.int .i64 1)),
   .mv 13 (.s 81)]))))))
  (.sq (.rg [.mv 93 (.s 1),
   .bi 94 .add (.s 93) (.c (.int .i64 1)),
   .mv 95 (.s 10),
   .bi 96 .add (.s 94) (.s 95),
   .mv 14 (.s 96)])
  (.sq (.sq (.rg [.fa 97 (.s 5) 0,
   .lds 98 (.s 97)])
  (.bl 2 (.sq (.rg [.bi 100 .eql (.s 98) (.c (.int .i64 0)),
   .mv 99 (.s 100)])
  (.cd (.s 99) (.sq (.rg [.mv 101 (.s 12),
   .bd 102 [(.int .u64 0), (.int .i64 0), (.str []), (.bool false)] [(0, 1, (.s 101))],
   .mv 103 (.s 14),
   .st 4 (.s 6) (.s 102),
   .mv 7 (.s 103),
   .mv 8 (.c (.bool true))])
  .rt) (.sq (.rg [.bi 105 .eql (.s 98) (.c (.int .i64 1)),
   .mv 104 (.s 105)])
  (.cd (.s 104) (.sq (.sq (.rg [.mv 106 (.s 11)])
  (.cd (.s 106) (.sq (.rg [.mv 107 (.s 12),
   .bi 108 .sub (.c (.int .u64 0)) (.s 107),
   .cv 109 .i64 (.s 108),
   .bd 110 [(.int .u64 0), (.int .i64 0), (.str []), (.bool false)] [(1, 1, (.s 109))],
   .mv 111 (.s 14),
   .mv 112 (.s 12),
   .bi 113 .gtr (.s 112) (.c (.int .u64 0)),
   .mv 114 (.s 113),
   .gd 114 true 115 (.mv 115 (.s 12)),
   .gd 114 true 116 (.bi 116 .leq (.s 115) (.c (.int .u64 9223372036854775808))),
   .pk 117 (.s 114) (.s 116) (.c (.bool false)),
   .st 4 (.s 6) (.s 110),
   .mv 7 (.s 111),
   .mv 8 (.s 117)])
  .rt) .sk))
  (.sq (.rg [.mv 118 (.s 12),
   .cv 119 .i64 (.s 118),
   .bd 120 [(.int .u64 0), (.int .i64 0), (.str []), (.bool false)] [(1, 1, (.s 119))],
   .mv 121 (.s 14),
   .mv 122 (.s 12),
   .bi 123 .leq (.s 122) (.c (.int .u64 9223372036854775807)),
   .st 4 (.s 6) (.s 120),
   .mv 7 (.s 121),
   .mv 8 (.s 123)])
  .rt)) .sk))))))
  (.sq (.sq (.rg [.fa 124 (.s 5) 1,
   .lds 125 (.s 124),
   .bi 126 .lss (.s 125) (.c (.int .i64 0)),
   .mv 127 (.s 126),
   .gd 127 false 128 (.mv 128 (.s 12)),
   .gd 127 false 129 (.fa 129 (.s 5) 1),
   .gd 127 false 130 (.lds 130 (.s 129)),
   .gd 127 false 131 (.cv 131 .u64 (.s 130)),
   .gd 127 false 132 (.bi 132 .gtr (.s 128) (.s 131)),
   .pk 133 (.s 127) (.c (.bool true)) (.s 132)])
  (.cd (.s 133) (.sq (.rg [.lda 134 4 (.s 9),
   .st 4 (.s 6) (.s 134),
   .mv 7 (.c (.int .i64 0)),
   .mv 8 (.c (.bool false))])
  .rt) .sk))
  (.sq (.sq (.rg [.fa 135 (.s 5) 0,
   .lds 136 (.s 135),
   .bi 137 .eql (.s 136) (.c (.int .i64 4))])
  (.cd (.s 137) (.sq (.rg [.mv 138 (.s 12),
   .bd 139 [(.int .u64 0), (.int .i64 0), (.str []), (.bool false)] [(0, 1, (.s 138))],
   .mv 140 (.s 14),
   .st 4 (.s 6) (.s 139),
   .mv 7 (.s 140),
   .mv 8 (.c (.bool true))])
  .rt) .sk))
  (.sq (.sq (.rg [.mv 141 (.s 12),
   .mv 142 (.s 0),
   .ln 143 (.s 142),
   .mv 144 (.s 14),
   .bi 145 .sub (.s 143) (.s 144),
   .cv 146 .u64 (.s 145),
   .bi 147 .gtr (.s 141) (.s 146)])
  (.cd (.s 147) (.sq (.rg [.lda 148 4 (.s 9),
   .st 4 (.s 6) (.s 148),
   .mv 7 (.c (.int .i64 0)),
   .mv 8 (.c (.bool false))])
  .rt) .sk))
  (.sq (.rg [.mv 149 (.s 0),
   .mv 150 (.s 14),
   .mv 151 (.s 14),
   .mv 152 (.s 12),
   .cv 153 .i64 (.s 152),
   .bi 154 .add (.s 151) (.s 153),
   .slc 155 1 (.s 149) (some (.s 150)) (some (.s 154)),
   .b2s 156 (.s 155),
   .bd 157 [(.int .u64 0), (.int .i64 0), (.str []), (.bool false)] [(2, 1, (.s 156))],
   .mv 158 (.s 14),
   .mv 159 (.s 12),
   .cv 160 .i64 (.s 159),
   .bi 161 .add (.s 158) (.s 160),
   .st 4 (.s 6) (.s 157),
   .mv 7 (.s 161),
   .mv 8 (.c (.bool true))])
  .rt))))))))))))))))
def a139 : AF := ⟨c139, [.ca 6 4, .t 7, .t 8], 3, 162⟩
theorem m139 : mF Tryz.prog gl drD Tryz.f139 a139 = true := by kernel_rfl
theorem s139 {l : List AV} {r : AV} (hl : l.length = 3) (hi : idsL l = []) (h : wpA (SpH Tryz.prog gl) c139 (postA [.ca 6 4, .t 7, .t 8] r) ⟨initE 0 l, [], []⟩) : Sp Tryz.prog gl 139 l r :=
  @fun_sp Tryz.prog gl drD 139 Tryz.f139 a139 Tryz.func139 m139 (dok _) l r hl hi h
theorem h139 {d : Nat} {I : In} {O : Out} (hl : I.vs.length = 3) (h : wpA (SpH Tryz.prog gl) c139 (postH d [.ca 6 4, .t 7, .t 8] O) (inSt I)) : SpH Tryz.prog gl 139 d I O :=
  @fun_spH Tryz.prog gl drD 139 Tryz.f139 a139 Tryz.func139 m139 (dok _) d I O hl h
/-- firebell/burn.may -/
def c145 : AC :=
 (.sq (.rg [.bx 3 (.s 1),
   .mv 4 (.c (.int .i64 0))])
  (.sq (.bl 0 (.sq (.rg [.mv 6 (.s 0),
   .cl 7 195 [(.s 6)],
   .un 8 .not (.s 7),
   .mv 5 (.s 8)])
  (.cd (.s 5) (.sq (.rg [.mv 4 (.c (.int .i64 8))])
  .rt) (.sq (.rg [.fa 10 (.s 3) 0,
   .lds 11 (.s 10),
   .fa 12 (.s 3) 1,
   .lds 13 (.s 12),
   .bi 14 .gtr (.s 11) (.s 13),
   .mv 9 (.s 14)])
  (.cd (.s 9) (.sq (.rg [.mv 4 (.c (.int .i64 16))])
  .rt) .sk)))))
  (.sq (.rg [.mv 4 (.c (.int .i64 0))])
  .rt)))
def a145 : AF := ⟨c145, [.t 4], 2, 15⟩
theorem m145 : mF Tryz.prog gl drD Tryz.f145 a145 = true := by kernel_rfl
theorem s145 {l : List AV} {r : AV} (hl : l.length = 2) (hi : idsL l = []) (h : wpA (SpH Tryz.prog gl) c145 (postA [.t 4] r) ⟨initE 0 l, [], []⟩) : Sp Tryz.prog gl 145 l r :=
  @fun_sp Tryz.prog gl drD 145 Tryz.f145 a145 Tryz.func145 m145 (dok _) l r hl hi h
theorem h145 {d : Nat} {I : In} {O : Out} (hl : I.vs.length = 2) (h : wpA (SpH Tryz.prog gl) c145 (postH d [.t 4] O) (inSt I)) : SpH Tryz.prog gl 145 d I O :=
  @fun_spH Tryz.prog gl drD 145 Tryz.f145 a145 Tryz.func145 m145 (dok _) d I O hl h
/-- firebell/ppm.Rest -/
def c146 : AC :=
 (.sq (.rg [.mv 2 (.c (.int .u32 0))])
  (.sq (.sq (.rg [.mv 3 (.s 0),
   .cl 4 195 [(.s 3)],
   .un 5 .not (.s 4)])
  (.cd (.s 5) (.sq (.rg [.mv 2 (.c (.int .u32 0))])
  .rt) .sk))
  (.sq (.rg [.mv 6 (.s 0),
   .bi 7 .sub (.c (.int .u32 1000000)) (.s 6),
   .mv 2 (.s 7)])
  .rt)))
def a146 : AF := ⟨c146, [.t 2], 1, 8⟩
theorem m146 : mF Tryz.prog gl drD Tryz.f146 a146 = true := by kernel_rfl
theorem s146 {l : List AV} {r : AV} (hl : l.length = 1) (hi : idsL l = []) (h : wpA (SpH Tryz.prog gl) c146 (postA [.t 2] r) ⟨initE 0 l, [], []⟩) : Sp Tryz.prog gl 146 l r :=
  @fun_sp Tryz.prog gl drD 146 Tryz.f146 a146 Tryz.func146 m146 (dok _) l r hl hi h
theorem h146 {d : Nat} {I : In} {O : Out} (hl : I.vs.length = 1) (h : wpA (SpH Tryz.prog gl) c146 (postH d [.t 2] O) (inSt I)) : SpH Tryz.prog gl 146 d I O :=
  @fun_spH Tryz.prog gl drD 146 Tryz.f146 a146 Tryz.func146 m146 (dok _) d I O hl h
/-- firebell/exact.Floor -/
def c147 : AC :=
 (.sq (.rg [.bx 2 (.s 0),
   .al 4 [(.int .u64 0), (.int .u64 0)],
   .mv 5 (.c (.int .u64 0)),
   .mv 6 (.c (.int .i64 0))])
  (.sq (.sq (.rg [.mv 10 (.s 1),
   .bi 11 .eql (.s 10) (.c (.int .u64 0))])
  (.cd (.s 11) (.sq (.rg [.bd 12 [(.int .u64 0), (.int .u64 0)] [],
   .st 2 (.s 4) (.s 12),
   .mv 5 (.c (.int .u64 0)),
   .mv 6 (.c (.int .i64 4))])
  .rt) .sk))
  (.sq (.rg [.fa 14 (.s 2) 0,
   .lds 15 (.s 14),
   .mv 16 (.s 1),
   .cl 17 196 [(.c (.int .u64 0)), (.s 15), (.s 16)],
   .mv 13 (.s 17),
   .exq 18 (.s 13) 0,
   .exq 19 (.s 13) 1,
   .mv 7 (.s 18),
   .mv 8 (.s 19)])
  (.sq (.rg [.mv 21 (.s 8),
   .fa 22 (.s 2) 1,
   .lds 23 (.s 22),
   .mv 24 (.s 1),
   .cl 25 196 [(.s 21), (.s 23), (.s 24)],
   .mv 20 (.s 25),
   .exq 26 (.s 20) 0,
   .exq 27 (.s 20) 1,
   .mv 9 (.s 26),
   .mv 8 (.s 27)])
  (.sq (.rg [.mv 28 (.s 7),
   .mv 29 (.s 9),
   .bd 30 [(.int .u64 0), (.int .u64 0)] [(0, 1, (.s 28)), (1, 1, (.s 29))],
   .mv 31 (.s 8),
   .st 2 (.s 4) (.s 30),
   .mv 5 (.s 31),
   .mv 6 (.c (.int .i64 0))])
  .rt)))))
def a147 : AF := ⟨c147, [.ca 4 2, .t 5, .t 6], 2, 32⟩
theorem m147 : mF Tryz.prog gl drD Tryz.f147 a147 = true := by kernel_rfl
theorem s147 {l : List AV} {r : AV} (hl : l.length = 2) (hi : idsL l = []) (h : wpA (SpH Tryz.prog gl) c147 (postA [.ca 4 2, .t 5, .t 6] r) ⟨initE 0 l, [], []⟩) : Sp Tryz.prog gl 147 l r :=
  @fun_sp Tryz.prog gl drD 147 Tryz.f147 a147 Tryz.func147 m147 (dok _) l r hl hi h
theorem h147 {d : Nat} {I : In} {O : Out} (hl : I.vs.length = 2) (h : wpA (SpH Tryz.prog gl) c147 (postH d [.ca 4 2, .t 5, .t 6] O) (inSt I)) : SpH Tryz.prog gl 147 d I O :=
  @fun_spH Tryz.prog gl drD 147 Tryz.f147 a147 Tryz.func147 m147 (dok _) d I O hl h
/-- firebell/burn.bad -/
def c148 : AC :=
 (.sq (.rg [.bx 1 (.s 0),
   .al 2 [(.int .u64 0), (.int .u64 0)]])
  (.sq (.rg [.fa 3 (.s 1) 1,
   .lds 4 (.s 3),
   .fa 5 (.s 1) 0,
   .lds 6 (.s 5),
   .bi 7 .sub (.s 4) (.s 6),
   .cl 8 149 [(.s 7), (.c (.int .u64 1000000000))],
   .st 2 (.s 2) (.s 8)])
  .rt))
def a148 : AF := ⟨c148, [.ca 2 2], 1, 9⟩
theorem m148 : mF Tryz.prog gl drD Tryz.f148 a148 = true := by kernel_rfl
theorem s148 {l : List AV} {r : AV} (hl : l.length = 1) (hi : idsL l = []) (h : wpA (SpH Tryz.prog gl) c148 (postA [.ca 2 2] r) ⟨initE 0 l, [], []⟩) : Sp Tryz.prog gl 148 l r :=
  @fun_sp Tryz.prog gl drD 148 Tryz.f148 a148 Tryz.func148 m148 (dok _) l r hl hi h
theorem h148 {d : Nat} {I : In} {O : Out} (hl : I.vs.length = 1) (h : wpA (SpH Tryz.prog gl) c148 (postH d [.ca 2 2] O) (inSt I)) : SpH Tryz.prog gl 148 d I O :=
  @fun_spH Tryz.prog gl drD 148 Tryz.f148 a148 Tryz.func148 m148 (dok _) d I O hl h
/-- firebell/exact.Times -/
def c149 : AC :=
 (.sq (.rg [.al 4 [(.int .u64 0), (.int .u64 0)]])
  (.sq (.rg [.mv 8 (.s 0),
   .mv 9 (.s 1),
   .cl 10 197 [(.s 8), (.s 9)],
   .mv 7 (.s 10),
   .exq 11 (.s 7) 0,
   .exq 12 (.s 7) 1,
   .mv 5 (.s 11),
   .mv 6 (.s 12)])
  (.sq (.rg [.mv 13 (.s 5),
   .mv 14 (.s 6),
   .bd 15 [(.int .u64 0), (.int .u64 0)] [(0, 1, (.s 13)), (1, 1, (.s 14))],
   .st 2 (.s 4) (.s 15)])
  .rt)))
def a149 : AF := ⟨c149, [.ca 4 2], 2, 16⟩
theorem m149 : mF Tryz.prog gl drD Tryz.f149 a149 = true := by kernel_rfl
theorem s149 {l : List AV} {r : AV} (hl : l.length = 2) (hi : idsL l = []) (h : wpA (SpH Tryz.prog gl) c149 (postA [.ca 4 2] r) ⟨initE 0 l, [], []⟩) : Sp Tryz.prog gl 149 l r :=
  @fun_sp Tryz.prog gl drD 149 Tryz.f149 a149 Tryz.func149 m149 (dok _) l r hl hi h
theorem h149 {d : Nat} {I : In} {O : Out} (hl : I.vs.length = 2) (h : wpA (SpH Tryz.prog gl) c149 (postH d [.ca 4 2] O) (inSt I)) : SpH Tryz.prog gl 149 d I O :=
  @fun_spH Tryz.prog gl drD 149 Tryz.f149 a149 Tryz.func149 m149 (dok _) d I O hl h
/-- firebell/exact.Compare -/
def c150 : AC :=
 (.sq (.rg [.bx 2 (.s 0),
   .bx 3 (.s 1),
   .mv 4 (.c (.int .i64 0))])
  (.sq (.rd [[], [], [], [], [], [], [], [], [], [], [], [], []] [.fa 5 (.s 2) 0,
   .lds 6 (.s 5),
   .fa 7 (.s 3) 0,
   .lds 8 (.s 7),
   .cl 9 199 [(.s 6), (.s 8)],
   .fa 10 (.s 2) 1,
   .lds 11 (.s 10),
   .fa 12 (.s 3) 1,
   .lds 13 (.s 12),
   .cl 14 199 [(.s 11), (.s 13)],
   .bs 15 1 [(.s 9), (.s 14)],
   .cl 16 198 [(.s 15)],
   .mv 4 (.s 16)])
  .rt))
def a150 : AF := ⟨c150, [.t 4], 2, 17⟩
theorem m150 : mF Tryz.prog gl drD Tryz.f150 a150 = true := by kernel_rfl
theorem s150 {l : List AV} {r : AV} (hl : l.length = 2) (hi : idsL l = []) (h : wpA (SpH Tryz.prog gl) c150 (postA [.t 4] r) ⟨initE 0 l, [], []⟩) : Sp Tryz.prog gl 150 l r :=
  @fun_sp Tryz.prog gl drD 150 Tryz.f150 a150 Tryz.func150 m150 (dok _) l r hl hi h
theorem h150 {d : Nat} {I : In} {O : Out} (hl : I.vs.length = 2) (h : wpA (SpH Tryz.prog gl) c150 (postH d [.t 4] O) (inSt I)) : SpH Tryz.prog gl 150 d I O :=
  @fun_spH Tryz.prog gl drD 150 Tryz.f150 a150 Tryz.func150 m150 (dok _) d I O hl h
/-- firebell/firebellref01.Compare -/
def c154 : AC :=
 (.sq (.rg [.mv 4 (.c (.int .i64 0))])
  (.sq (.rg [.mv 7 (.s 0),
   .ln 8 (.s 7),
   .mv 5 (.s 8)])
  (.sq (.sq (.rg [.mv 9 (.s 1),
   .ln 10 (.s 9),
   .mv 11 (.s 5),
   .bi 12 .gtr (.s 10) (.s 11)])
  (.cd (.s 12) (.rg [.mv 13 (.s 1),
   .ln 14 (.s 13),
   .mv 5 (.s 14)]) .sk))
  (.sq (.sq (.rg [.mv 15 (.s 5),
   .bi 16 .sub (.s 15) (.c (.int .i64 1)),
   .mv 6 (.s 16)])
  (.bl 0 (.lp (.sq (.sq (.rg [.mv 17 (.s 6),
   .bi 18 .geq (.s 17) (.c (.int .i64 0))])
  (.cd (.s 18) .sk (.ex 0)))
  (.sq (.bl 1 (.sq (.rg [.mv 21 (.s 0),
   .mv 22 (.s 6),
   .cl 23 201 [(.s 21), (.s 22)],
   .mv 24 (.s 1),
   .mv 25 (.s 6),
   .cl 26 201 [(.s 24), (.s 25)],
   .bi 27 .neq (.s 23) (.s 26)])
  (.cd (.s 27) (.sq (.rg [.mv 28 (.s 0),
   .mv 29 (.s 6),
   .cl 30 201 [(.s 28), (.s 29)],
   .mv 31 (.s 1),
   .mv 32 (.s 6),
   .cl 33 201 [(.s 31), (.s 32)],
   .bi 34 .sub (.s 30) (.s 33),
   .mv 4 (.s 34)])
  .rt) .sk)))
  (.rg [.mv 19 (.s 6),
   .bi 20 .sub (.s 19) (.c (.int .i64 1)),
   .mv 6 (.s 20)]))))))
  (.sq (.rg [.mv 4 (.c (.int .i64 0))])
  .rt)))))
def a154 : AF := ⟨c154, [.t 4], 2, 35⟩
theorem m154 : mF Tryz.prog gl drD Tryz.f154 a154 = true := by kernel_rfl
theorem s154 {l : List AV} {r : AV} (hl : l.length = 2) (hi : idsL l = []) (h : wpA (SpH Tryz.prog gl) c154 (postA [.t 4] r) ⟨initE 0 l, [], []⟩) : Sp Tryz.prog gl 154 l r :=
  @fun_sp Tryz.prog gl drD 154 Tryz.f154 a154 Tryz.func154 m154 (dok _) l r hl hi h
theorem h154 {d : Nat} {I : In} {O : Out} (hl : I.vs.length = 2) (h : wpA (SpH Tryz.prog gl) c154 (postH d [.t 4] O) (inSt I)) : SpH Tryz.prog gl 154 d I O :=
  @fun_spH Tryz.prog gl drD 154 Tryz.f154 a154 Tryz.func154 m154 (dok _) d I O hl h
/-- firebell/firebellref21.Bad -/
def c155 : AC :=
 (.sq (.rg [.bx 1 (.s 0),
   .mv 2 (.c .nils)])
  (.sq (.rg [.fa 3 (.s 1) 1,
   .lds 4 (.s 3),
   .fa 5 (.s 1) 0,
   .lds 6 (.s 5),
   .bi 7 .sub (.s 4) (.s 6),
   .cl 8 202 [(.s 7)],
   .cl 9 202 [(.c (.int .u64 1000000000))],
   .cl 10 175 [(.s 8), (.s 9)],
   .mv 2 (.s 10)])
  .rt))
def a155 : AF := ⟨c155, [.t 2], 1, 11⟩
theorem m155 : mF Tryz.prog gl drD Tryz.f155 a155 = true := by kernel_rfl
theorem s155 {l : List AV} {r : AV} (hl : l.length = 1) (hi : idsL l = []) (h : wpA (SpH Tryz.prog gl) c155 (postA [.t 2] r) ⟨initE 0 l, [], []⟩) : Sp Tryz.prog gl 155 l r :=
  @fun_sp Tryz.prog gl drD 155 Tryz.f155 a155 Tryz.func155 m155 (dok _) l r hl hi h
theorem h155 {d : Nat} {I : In} {O : Out} (hl : I.vs.length = 1) (h : wpA (SpH Tryz.prog gl) c155 (postH d [.t 2] O) (inSt I)) : SpH Tryz.prog gl 155 d I O :=
  @fun_spH Tryz.prog gl drD 155 Tryz.f155 a155 Tryz.func155 m155 (dok _) d I O hl h
/-- firebell/firebellref21.Allowed -/
def c156 : AC :=
 (.sq (.rg [.bx 5 (.s 2),
   .mv 6 (.c .nils)])
  (.sq (.rd [[], [], [], [], [], [], [], [], [], [], [], []] [.mv 7 (.s 1),
   .cl 8 202 [(.s 7)],
   .mv 9 (.s 0),
   .bi 10 .sub (.c (.int .u32 1000000)) (.s 9),
   .cv 11 .u64 (.s 10),
   .cl 12 202 [(.s 11)],
   .cl 13 175 [(.s 8), (.s 12)],
   .fa 14 (.s 5) 1,
   .lds 15 (.s 14),
   .cl 16 202 [(.s 15)],
   .cl 17 175 [(.s 13), (.s 16)],
   .mv 6 (.s 17)])
  .rt))
def a156 : AF := ⟨c156, [.t 6], 3, 18⟩
theorem m156 : mF Tryz.prog gl drD Tryz.f156 a156 = true := by kernel_rfl
theorem s156 {l : List AV} {r : AV} (hl : l.length = 3) (hi : idsL l = []) (h : wpA (SpH Tryz.prog gl) c156 (postA [.t 6] r) ⟨initE 0 l, [], []⟩) : Sp Tryz.prog gl 156 l r :=
  @fun_sp Tryz.prog gl drD 156 Tryz.f156 a156 Tryz.func156 m156 (dok _) l r hl hi h
theorem h156 {d : Nat} {I : In} {O : Out} (hl : I.vs.length = 3) (h : wpA (SpH Tryz.prog gl) c156 (postH d [.t 6] O) (inSt I)) : SpH Tryz.prog gl 156 d I O :=
  @fun_spH Tryz.prog gl drD 156 Tryz.f156 a156 Tryz.func156 m156 (dok _) d I O hl h
/-- strconv.FormatUint -/
def c162 : AC :=
 (.sq (.rg [.mv 4 (.c (.str []))])
  (.sq (.rg [.mv 5 (.s 0),
   .mv 6 (.s 1),
   .cl 7 207 [(.s 5), (.s 6)],
   .mv 4 (.s 7)])
  .rt))
def a162 : AF := ⟨c162, [.t 4], 2, 8⟩
theorem m162 : mF Tryz.prog gl drD Tryz.f162 a162 = true := by kernel_rfl
theorem s162 {l : List AV} {r : AV} (hl : l.length = 2) (hi : idsL l = []) (h : wpA (SpH Tryz.prog gl) c162 (postA [.t 4] r) ⟨initE 0 l, [], []⟩) : Sp Tryz.prog gl 162 l r :=
  @fun_sp Tryz.prog gl drD 162 Tryz.f162 a162 Tryz.func162 m162 (dok _) l r hl hi h
theorem h162 {d : Nat} {I : In} {O : Out} (hl : I.vs.length = 2) (h : wpA (SpH Tryz.prog gl) c162 (postH d [.t 4] O) (inSt I)) : SpH Tryz.prog gl 162 d I O :=
  @fun_spH Tryz.prog gl drD 162 Tryz.f162 a162 Tryz.func162 m162 (dok _) d I O hl h
/-- firebell/signed.right -/
def c163 : AC :=
 (.sq (.rg [.bx 1 (.s 0),
   .al 2 [(.bool false), (.int .u64 0), (.int .u64 0)]])
  (.sq (.sq (.rg [.lda 3 3 (.s 1),
   .cl 4 204 [(.s 3)]])
  (.cd (.s 4) (.sq (.rg [.lda 5 3 (.s 1),
   .st 3 (.s 2) (.s 5)])
  .rt) .sk))
  (.sq (.rg [.bd 6 [(.bool false), (.int .u64 0), (.int .u64 0)] [],
   .st 3 (.s 2) (.s 6)])
  .rt)))
def a163 : AF := ⟨c163, [.ca 2 3], 1, 7⟩
theorem m163 : mF Tryz.prog gl drD Tryz.f163 a163 = true := by kernel_rfl
theorem s163 {l : List AV} {r : AV} (hl : l.length = 1) (hi : idsL l = []) (h : wpA (SpH Tryz.prog gl) c163 (postA [.ca 2 3] r) ⟨initE 0 l, [], []⟩) : Sp Tryz.prog gl 163 l r :=
  @fun_sp Tryz.prog gl drD 163 Tryz.f163 a163 Tryz.func163 m163 (dok _) l r hl hi h
theorem h163 {d : Nat} {I : In} {O : Out} (hl : I.vs.length = 1) (h : wpA (SpH Tryz.prog gl) c163 (postH d [.ca 2 3] O) (inSt I)) : SpH Tryz.prog gl 163 d I O :=
  @fun_spH Tryz.prog gl drD 163 Tryz.f163 a163 Tryz.func163 m163 (dok _) d I O hl h
/-- firebell/exact.Print -/
def c164 : AC :=
 (.sq (.rg [.bx 1 (.s 0),
   .mv 2 (.c (.str []))])
  (.sq (.rg [.al 3 [(.int .u8 0), (.int .u8 0), (.int .u8 0), (.int .u8 0), (.int .u8 0), (.int .u8 0), (.int .u8 0), (.int .u8 0), (.int .u8 0), (.int .u8 0), (.int .u8 0), (.int .u8 0), (.int .u8 0), (.int .u8 0), (.int .u8 0), (.int .u8 0), (.int .u8 0), (.int .u8 0), (.int .u8 0), (.int .u8 0), (.int .u8 0), (.int .u8 0), (.int .u8 0), (.int .u8 0), (.int .u8 0), (.int .u8 0), (.int .u8 0), (.int .u8 0), (.int .u8 0), (.int .u8 0), (.int .u8 0), (.int .u8 0), (.int .u8 0), (.int .u8 0), (.int .u8 0), (.int .u8 0), (.int .u8 0), (.int .u8 0), (.int .u8 0)]])
  (.sq (.rg [.mv 4 (.c (.int .i64 39))])
  (.bl 0 (.lp (.bl 1 (.sq (.rg [.lda 9 2 (.s 1),
   .cl 10 147 [(.s 9), (.c (.int .u64 10))],
   .mv 8 (.s 10),
   .exq 11 (.s 8) 0,
   .exq 12 (.s 8) 1,
   .exq 13 (.s 8) 2,
   .al 5 [(.int .u64 0), (.int .u64 0)],
   .st 2 (.s 5) (.s 11),
   .mv 6 (.s 12),
   .mv 7 (.s 13)])
  (.sq (.rg [.mv 14 (.s 4),
   .bi 15 .sub (.s 14) (.c (.int .i64 1)),
   .mv 4 (.s 15)])
  (.sq (.rg [.mv 16 (.s 4),
   .mv 17 (.s 6),
   .cv 18 .u8 (.s 17),
   .bi 19 .add (.c (.int .u8 48)) (.s 18),
   .iaa 20 1 39 (.s 3) (.s 16),
   .st 1 (.s 20) (.s 19)])
  (.sq (.rg [.lda 21 2 (.s 5),
   .st 2 (.s 1) (.s 21)])
  (.sq (.rg [.lda 22 2 (.s 1),
   .bd 23 [(.int .u64 0), (.int .u64 0)] [],
   .ea 24 false [.i, .i] (.s 22) (.s 23)])
  (.cd (.s 24) (.sq (.rg [.mv 25 (.s 4),
   .sla 26 39 (.s 3) (some (.s 25)) none,
   .b2s 27 (.s 26),
   .mv 2 (.s 27)])
  .rt) .sk))))))))))))
def a164 : AF := ⟨c164, [.t 2], 1, 28⟩
theorem m164 : mF Tryz.prog gl drD Tryz.f164 a164 = true := by kernel_rfl
theorem s164 {l : List AV} {r : AV} (hl : l.length = 1) (hi : idsL l = []) (h : wpA (SpH Tryz.prog gl) c164 (postA [.t 2] r) ⟨initE 0 l, [], []⟩) : Sp Tryz.prog gl 164 l r :=
  @fun_sp Tryz.prog gl drD 164 Tryz.f164 a164 Tryz.func164 m164 (dok _) l r hl hi h
theorem h164 {d : Nat} {I : In} {O : Out} (hl : I.vs.length = 1) (h : wpA (SpH Tryz.prog gl) c164 (postH d [.t 2] O) (inSt I)) : SpH Tryz.prog gl 164 d I O :=
  @fun_spH Tryz.prog gl drD 164 Tryz.f164 a164 Tryz.func164 m164 (dok _) d I O hl h
/-- firebell/outlook.Right -/
def c165 : AC :=
 (.sq (.rg [.bx 1 (.s 0),
   .mv 2 (.c (.bool false))])
  (.sq (.sq (.rg [.fa 3 (.s 1) 0,
   .lds 4 (.s 3)])
  (.bl 0 (.sq (.sq (.rg [.bi 6 .eql (.s 4) (.c (.int .i64 0)),
   .mv 5 (.s 6)])
  (.cd (.s 5) .sk (.rg [.bi 7 .eql (.s 4) (.c (.int .i64 1)),
   .mv 5 (.s 7)])))
  (.cd (.s 5) (.sq (.rg [.fa 8 (.s 1) 1,
   .lda 9 2 (.s 8),
   .bd 10 [(.int .u64 0), (.int .u64 0)] [],
   .ea 11 false [.i, .i] (.s 9) (.s 10),
   .mv 2 (.s 11)])
  .rt) .sk))))
  (.sq (.rg [.fa 12 (.s 1) 0,
   .lds 13 (.s 12),
   .bi 14 .eql (.s 13) (.c (.int .i64 2)),
   .mv 15 (.s 14),
   .gd 15 true 16 (.fa 16 (.s 1) 1),
   .gd 15 true 17 (.lda 17 2 (.s 16)),
   .gd 15 true 18 (.bd 18 [(.int .u64 0), (.int .u64 0)] []),
   .gd 15 true 19 (.ea 19 true [.i, .i] (.s 17) (.s 18)),
   .pk 20 (.s 15) (.s 19) (.c (.bool false)),
   .mv 2 (.s 20)])
  .rt)))
def a165 : AF := ⟨c165, [.t 2], 1, 21⟩
theorem m165 : mF Tryz.prog gl drD Tryz.f165 a165 = true := by kernel_rfl
theorem s165 {l : List AV} {r : AV} (hl : l.length = 1) (hi : idsL l = []) (h : wpA (SpH Tryz.prog gl) c165 (postA [.t 2] r) ⟨initE 0 l, [], []⟩) : Sp Tryz.prog gl 165 l r :=
  @fun_sp Tryz.prog gl drD 165 Tryz.f165 a165 Tryz.func165 m165 (dok _) l r hl hi h
theorem h165 {d : Nat} {I : In} {O : Out} (hl : I.vs.length = 1) (h : wpA (SpH Tryz.prog gl) c165 (postH d [.t 2] O) (inSt I)) : SpH Tryz.prog gl 165 d I O :=
  @fun_spH Tryz.prog gl drD 165 Tryz.f165 a165 Tryz.func165 m165 (dok _) d I O hl h
/-- firebell/ledger.Left -/
def c166 : AC :=
 (.sq (.rg [.bx 3 (.s 1),
   .al 4 [(.bool false), (.int .u64 0), (.int .u64 0)],
   .mv 5 (.c (.int .i64 0))])
  (.sq (.sq (.rg [.mv 7 (.s 0),
   .lda 8 2 (.s 3),
   .cl 9 208 [(.s 7), (.s 8)],
   .mv 6 (.s 9)])
  (.sq (.rg [.mv 10 (.s 6),
   .bi 11 .neq (.s 10) (.c (.int .i64 0))])
  (.cd (.s 11) (.sq (.rg [.bd 12 [(.bool false), (.int .u64 0), (.int .u64 0)] [],
   .mv 13 (.s 6),
   .st 3 (.s 4) (.s 12),
   .mv 5 (.s 13)])
  .rt) .sk)))
  (.sq (.rg [.mv 14 (.s 0),
   .lda 15 2 (.s 3),
   .cl 16 210 [(.s 14), (.s 15)],
   .exq 17 (.s 16) 0,
   .exq 18 (.s 16) 1,
   .cl 19 209 [(.s 17), (.s 18)],
   .st 3 (.s 4) (.s 19),
   .mv 5 (.c (.int .i64 0))])
  .rt)))
def a166 : AF := ⟨c166, [.ca 4 3, .t 5], 2, 20⟩
theorem m166 : mF Tryz.prog gl drD Tryz.f166 a166 = true := by kernel_rfl
theorem s166 {l : List AV} {r : AV} (hl : l.length = 2) (hi : idsL l = []) (h : wpA (SpH Tryz.prog gl) c166 (postA [.ca 4 3, .t 5] r) ⟨initE 0 l, [], []⟩) : Sp Tryz.prog gl 166 l r :=
  @fun_sp Tryz.prog gl drD 166 Tryz.f166 a166 Tryz.func166 m166 (dok _) l r hl hi h
theorem h166 {d : Nat} {I : In} {O : Out} (hl : I.vs.length = 2) (h : wpA (SpH Tryz.prog gl) c166 (postH d [.ca 4 3, .t 5] O) (inSt I)) : SpH Tryz.prog gl 166 d I O :=
  @fun_spH Tryz.prog gl drD 166 Tryz.f166 a166 Tryz.func166 m166 (dok _) d I O hl h
/-- firebell/signed.Compare -/
def c167 : AC :=
 (.sq (.rg [.bx 2 (.s 0),
   .bx 3 (.s 1),
   .mv 4 (.c (.int .i64 0))])
  (.sq (.rd [[], [], [], [], [], []] [.lda 5 3 (.s 2),
   .cl 6 163 [(.s 5)],
   .lda 7 3 (.s 3),
   .cl 8 163 [(.s 7)],
   .st 3 (.s 2) (.s 6),
   .st 3 (.s 3) (.s 8)])
  (.sq (.bl 0 (.sq (.rg [.fa 10 (.s 2) 0,
   .lds 11 (.s 10),
   .mv 12 (.s 11),
   .gd 12 true 13 (.fa 13 (.s 3) 0),
   .gd 12 true 14 (.lds 14 (.s 13)),
   .gd 12 true 15 (.un 15 .not (.s 14)),
   .pk 16 (.s 12) (.s 15) (.c (.bool false)),
   .mv 9 (.s 16)])
  (.cd (.s 9) (.sq (.rg [.mv 4 (.c (.int .i64 (-1)))])
  .rt) (.sq (.rg [.fa 18 (.s 3) 0,
   .lds 19 (.s 18),
   .mv 20 (.s 19),
   .gd 20 true 21 (.fa 21 (.s 2) 0),
   .gd 20 true 22 (.lds 22 (.s 21)),
   .gd 20 true 23 (.un 23 .not (.s 22)),
   .pk 24 (.s 20) (.s 23) (.c (.bool false)),
   .mv 17 (.s 24)])
  (.cd (.s 17) (.sq (.rg [.mv 4 (.c (.int .i64 1))])
  .rt) (.sq (.rg [.fa 26 (.s 2) 0,
   .lds 27 (.s 26),
   .mv 25 (.s 27)])
  (.cd (.s 25) (.sq (.rg [.fa 28 (.s 3) 1,
   .lda 29 2 (.s 28),
   .fa 30 (.s 2) 1,
   .lda 31 2 (.s 30),
   .cl 32 150 [(.s 29), (.s 31)],
   .mv 4 (.s 32)])
  .rt) .sk)))))))
  (.sq (.rg [.fa 33 (.s 2) 1,
   .lda 34 2 (.s 33),
   .fa 35 (.s 3) 1,
   .lda 36 2 (.s 35),
   .cl 37 150 [(.s 34), (.s 36)],
   .mv 4 (.s 37)])
  .rt))))
def a167 : AF := ⟨c167, [.t 4], 2, 38⟩
theorem m167 : mF Tryz.prog gl drD Tryz.f167 a167 = true := by kernel_rfl
theorem s167 {l : List AV} {r : AV} (hl : l.length = 2) (hi : idsL l = []) (h : wpA (SpH Tryz.prog gl) c167 (postA [.t 4] r) ⟨initE 0 l, [], []⟩) : Sp Tryz.prog gl 167 l r :=
  @fun_sp Tryz.prog gl drD 167 Tryz.f167 a167 Tryz.func167 m167 (dok _) l r hl hi h
theorem h167 {d : Nat} {I : In} {O : Out} (hl : I.vs.length = 2) (h : wpA (SpH Tryz.prog gl) c167 (postH d [.t 4] O) (inSt I)) : SpH Tryz.prog gl 167 d I O :=
  @fun_spH Tryz.prog gl drD 167 Tryz.f167 a167 Tryz.func167 m167 (dok _) d I O hl h
/-- firebell/exact.More -/
def c168 : AC :=
 (.sq (.rg [.bx 2 (.s 0),
   .al 4 [(.int .u64 0), (.int .u64 0)],
   .mv 5 (.c (.int .i64 0))])
  (.sq (.rg [.fa 8 (.s 2) 1,
   .lds 9 (.s 8),
   .mv 10 (.s 1),
   .cl 11 149 [(.s 9), (.s 10)],
   .al 6 [(.int .u64 0), (.int .u64 0)],
   .st 2 (.s 6) (.s 11)])
  (.sq (.rg [.fa 12 (.s 2) 0,
   .lds 13 (.s 12),
   .mv 14 (.s 1),
   .cl 15 149 [(.s 13), (.s 14)],
   .al 7 [(.int .u64 0), (.int .u64 0)],
   .st 2 (.s 7) (.s 15)])
  (.sq (.sq (.rg [.fa 16 (.s 7) 0,
   .lds 17 (.s 16),
   .bi 18 .neq (.s 17) (.c (.int .u64 0))])
  (.cd (.s 18) (.sq (.rg [.bd 19 [(.int .u64 0), (.int .u64 0)] [],
   .st 2 (.s 4) (.s 19),
   .mv 5 (.c (.int .i64 3))])
  .rt) .sk))
  (.sq (.rg [.lda 20 2 (.s 6),
   .fa 21 (.s 7) 1,
   .lds 22 (.s 21),
   .bd 23 [(.int .u64 0), (.int .u64 0)] [(0, 1, (.s 22))],
   .cl 24 211 [(.s 20), (.s 23)],
   .exq 25 (.s 24) 0,
   .exq 26 (.s 24) 1,
   .st 2 (.s 4) (.s 25),
   .mv 5 (.s 26)])
  .rt)))))
def a168 : AF := ⟨c168, [.ca 4 2, .t 5], 2, 27⟩
theorem m168 : mF Tryz.prog gl drD Tryz.f168 a168 = true := by kernel_rfl
theorem s168 {l : List AV} {r : AV} (hl : l.length = 2) (hi : idsL l = []) (h : wpA (SpH Tryz.prog gl) c168 (postA [.ca 4 2, .t 5] r) ⟨initE 0 l, [], []⟩) : Sp Tryz.prog gl 168 l r :=
  @fun_sp Tryz.prog gl drD 168 Tryz.f168 a168 Tryz.func168 m168 (dok _) l r hl hi h
theorem h168 {d : Nat} {I : In} {O : Out} (hl : I.vs.length = 2) (h : wpA (SpH Tryz.prog gl) c168 (postH d [.ca 4 2, .t 5] O) (inSt I)) : SpH Tryz.prog gl 168 d I O :=
  @fun_spH Tryz.prog gl drD 168 Tryz.f168 a168 Tryz.func168 m168 (dok _) d I O hl h
/-- firebell/exact.Ceil -/
def c169 : AC :=
 (.sq (.rg [.bx 2 (.s 0),
   .al 4 [(.int .u64 0), (.int .u64 0)],
   .mv 5 (.c (.int .i64 0))])
  (.sq (.rg [.lda 10 2 (.s 2),
   .mv 11 (.s 1),
   .cl 12 147 [(.s 10), (.s 11)],
   .mv 9 (.s 12),
   .exq 13 (.s 9) 0,
   .exq 14 (.s 9) 1,
   .exq 15 (.s 9) 2,
   .al 6 [(.int .u64 0), (.int .u64 0)],
   .st 2 (.s 6) (.s 13),
   .mv 7 (.s 14),
   .mv 8 (.s 15)])
  (.sq (.sq (.rg [.mv 16 (.s 8),
   .bi 17 .neq (.s 16) (.c (.int .i64 0)),
   .mv 18 (.s 17),
   .gd 18 false 19 (.mv 19 (.s 7)),
   .gd 18 false 20 (.bi 20 .eql (.s 19) (.c (.int .u64 0))),
   .pk 21 (.s 18) (.c (.bool true)) (.s 20)])
  (.cd (.s 21) (.sq (.rg [.lda 22 2 (.s 6),
   .mv 23 (.s 8),
   .st 2 (.s 4) (.s 22),
   .mv 5 (.s 23)])
  .rt) .sk))
  (.sq (.rg [.lda 24 2 (.s 6),
   .bd 25 [(.int .u64 0), (.int .u64 0)] [(1, 1, (.c (.int .u64 1)))],
   .cl 26 211 [(.s 24), (.s 25)],
   .exq 27 (.s 26) 0,
   .exq 28 (.s 26) 1,
   .st 2 (.s 4) (.s 27),
   .mv 5 (.s 28)])
  .rt))))
def a169 : AF := ⟨c169, [.ca 4 2, .t 5], 2, 29⟩
theorem m169 : mF Tryz.prog gl drD Tryz.f169 a169 = true := by kernel_rfl
theorem s169 {l : List AV} {r : AV} (hl : l.length = 2) (hi : idsL l = []) (h : wpA (SpH Tryz.prog gl) c169 (postA [.ca 4 2, .t 5] r) ⟨initE 0 l, [], []⟩) : Sp Tryz.prog gl 169 l r :=
  @fun_sp Tryz.prog gl drD 169 Tryz.f169 a169 Tryz.func169 m169 (dok _) l r hl hi h
theorem h169 {d : Nat} {I : In} {O : Out} (hl : I.vs.length = 2) (h : wpA (SpH Tryz.prog gl) c169 (postH d [.ca 4 2, .t 5] O) (inSt I)) : SpH Tryz.prog gl 169 d I O :=
  @fun_spH Tryz.prog gl drD 169 Tryz.f169 a169 Tryz.func169 m169 (dok _) d I O hl h
/-- firebell/firebellref23.may -/
def c170 : AC :=
 (.sq (.rg [.bx 3 (.s 1),
   .mv 4 (.c (.int .i64 0))])
  (.sq (.sq (.rg [.mv 5 (.s 0),
   .bi 6 .gtr (.s 5) (.c (.int .u32 1000000))])
  (.cd (.s 6) (.sq (.rg [.mv 4 (.c (.int .i64 8))])
  .rt) .sk))
  (.sq (.sq (.rg [.fa 7 (.s 3) 0,
   .lds 8 (.s 7),
   .fa 9 (.s 3) 1,
   .lds 10 (.s 9),
   .bi 11 .gtr (.s 8) (.s 10)])
  (.cd (.s 11) (.sq (.rg [.mv 4 (.c (.int .i64 16))])
  .rt) .sk))
  (.sq (.rg [.mv 4 (.c (.int .i64 0))])
  .rt))))
def a170 : AF := ⟨c170, [.t 4], 2, 12⟩
theorem m170 : mF Tryz.prog gl drD Tryz.f170 a170 = true := by kernel_rfl
theorem s170 {l : List AV} {r : AV} (hl : l.length = 2) (hi : idsL l = []) (h : wpA (SpH Tryz.prog gl) c170 (postA [.t 4] r) ⟨initE 0 l, [], []⟩) : Sp Tryz.prog gl 170 l r :=
  @fun_sp Tryz.prog gl drD 170 Tryz.f170 a170 Tryz.func170 m170 (dok _) l r hl hi h
theorem h170 {d : Nat} {I : In} {O : Out} (hl : I.vs.length = 2) (h : wpA (SpH Tryz.prog gl) c170 (postH d [.t 4] O) (inSt I)) : SpH Tryz.prog gl 170 d I O :=
  @fun_spH Tryz.prog gl drD 170 Tryz.f170 a170 Tryz.func170 m170 (dok _) d I O hl h
/-- firebell/firebellref02.To -/
def c171 : AC :=
 (.sq (.rg [.bx 1 (.s 0),
   .al 2 [(.bool false), (.int .u64 0), (.int .u64 0)],
   .mv 3 (.c (.bool false))])
  (.sq (.rg [.fa 9 (.s 1) 0,
   .lds 10 (.s 9),
   .fa 11 (.s 1) 1,
   .lds 12 (.s 11),
   .cl 13 154 [(.s 10), (.s 12)],
   .mv 4 (.s 13)])
  (.sq (.rd [[], [], [], [], [], []] [.fa 14 (.s 1) 0,
   .lds 15 (.s 14),
   .fa 16 (.s 1) 1,
   .lds 17 (.s 16),
   .mv 5 (.s 15),
   .mv 6 (.s 17)])
  (.sq (.sq (.rg [.mv 18 (.s 4),
   .bi 19 .lss (.s 18) (.c (.int .i64 0))])
  (.cd (.s 19) (.rd [[], [], [], [], [], []] [.fa 20 (.s 1) 1,
   .lds 21 (.s 20),
   .fa 22 (.s 1) 0,
   .lds 23 (.s 22),
   .mv 5 (.s 21),
   .mv 6 (.s 23)]) .sk))
  (.sq (.rg [.mv 25 (.s 5),
   .mv 26 (.s 6),
   .ln 27 (.s 26),
   .cl 28 213 [(.s 25), (.s 27)],
   .mv 29 (.s 6),
   .cl 30 212 [(.s 28), (.s 29)],
   .cl 31 174 [(.s 30)],
   .mv 24 (.s 31),
   .exq 32 (.s 24) 0,
   .exq 33 (.s 24) 1,
   .al 7 [(.int .u64 0), (.int .u64 0)],
   .st 2 (.s 7) (.s 32),
   .mv 8 (.s 33)])
  (.sq (.rg [.mv 34 (.s 4),
   .bi 35 .lss (.s 34) (.c (.int .i64 0)),
   .lda 36 2 (.s 7),
   .bd 37 [(.bool false), (.int .u64 0), (.int .u64 0)] [(0, 1, (.s 35)), (1, 2, (.s 36))],
   .mv 38 (.s 8),
   .st 3 (.s 2) (.s 37),
   .mv 3 (.s 38)])
  .rt))))))
def a171 : AF := ⟨c171, [.ca 2 3, .t 3], 1, 39⟩
theorem m171 : mF Tryz.prog gl drD Tryz.f171 a171 = true := by kernel_rfl
theorem s171 {l : List AV} {r : AV} (hl : l.length = 1) (hi : idsL l = []) (h : wpA (SpH Tryz.prog gl) c171 (postA [.ca 2 3, .t 3] r) ⟨initE 0 l, [], []⟩) : Sp Tryz.prog gl 171 l r :=
  @fun_sp Tryz.prog gl drD 171 Tryz.f171 a171 Tryz.func171 m171 (dok _) l r hl hi h
theorem h171 {d : Nat} {I : In} {O : Out} (hl : I.vs.length = 1) (h : wpA (SpH Tryz.prog gl) c171 (postH d [.ca 2 3, .t 3] O) (inSt I)) : SpH Tryz.prog gl 171 d I O :=
  @fun_spH Tryz.prog gl drD 171 Tryz.f171 a171 Tryz.func171 m171 (dok _) d I O hl h
/-- firebell/firebellref23.Pair -/
def c172 : AC :=
 (.sq (.rg [.bx 3 (.s 1),
   .al 4 [.nils, .nils]])
  (.sq (.rd [[], [], [], [], [], [], [], [], [], [], [], [], [], [], [], [], [], []] [.fa 5 (.s 3) 1,
   .lds 6 (.s 5),
   .cl 7 176 [(.s 6)],
   .mv 8 (.s 0),
   .bi 9 .sub (.c (.int .u32 1000000)) (.s 8),
   .cv 10 .u64 (.s 9),
   .cl 11 176 [(.s 10)],
   .cl 12 175 [(.s 7), (.s 11)],
   .fa 13 (.s 3) 1,
   .lds 14 (.s 13),
   .fa 15 (.s 3) 0,
   .lds 16 (.s 15),
   .bi 17 .sub (.s 14) (.s 16),
   .cl 18 176 [(.s 17)],
   .cl 19 176 [(.c (.int .u64 1000000))],
   .cl 20 175 [(.s 18), (.s 19)],
   .bd 21 [.nils, .nils] [(0, 1, (.s 12)), (1, 1, (.s 20))],
   .st 2 (.s 4) (.s 21)])
  .rt))
def a172 : AF := ⟨c172, [.ca 4 2], 2, 22⟩
theorem m172 : mF Tryz.prog gl drD Tryz.f172 a172 = true := by kernel_rfl
theorem s172 {l : List AV} {r : AV} (hl : l.length = 2) (hi : idsL l = []) (h : wpA (SpH Tryz.prog gl) c172 (postA [.ca 4 2] r) ⟨initE 0 l, [], []⟩) : Sp Tryz.prog gl 172 l r :=
  @fun_sp Tryz.prog gl drD 172 Tryz.f172 a172 Tryz.func172 m172 (dok _) l r hl hi h
theorem h172 {d : Nat} {I : In} {O : Out} (hl : I.vs.length = 2) (h : wpA (SpH Tryz.prog gl) c172 (postH d [.ca 4 2] O) (inSt I)) : SpH Tryz.prog gl 172 d I O :=
  @fun_spH Tryz.prog gl drD 172 Tryz.f172 a172 Tryz.func172 m172 (dok _) d I O hl h
/-- firebell/firebellref24.Has -/
def c173 : AC :=
 (.sq (.rg [.bx 2 (.s 0),
   .mv 4 (.c .nils)])
  (.sq (.rg [.lda 5 2 (.s 2),
   .cl 6 214 [(.s 5)],
   .mv 7 (.s 1),
   .cv 8 .u64 (.s 7),
   .cl 9 176 [(.s 8)],
   .cl 10 175 [(.s 6), (.s 9)],
   .mv 4 (.s 10)])
  .rt))
def a173 : AF := ⟨c173, [.t 4], 2, 11⟩
theorem m173 : mF Tryz.prog gl drD Tryz.f173 a173 = true := by kernel_rfl
theorem s173 {l : List AV} {r : AV} (hl : l.length = 2) (hi : idsL l = []) (h : wpA (SpH Tryz.prog gl) c173 (postA [.t 4] r) ⟨initE 0 l, [], []⟩) : Sp Tryz.prog gl 173 l r :=
  @fun_sp Tryz.prog gl drD 173 Tryz.f173 a173 Tryz.func173 m173 (dok _) l r hl hi h
theorem h173 {d : Nat} {I : In} {O : Out} (hl : I.vs.length = 2) (h : wpA (SpH Tryz.prog gl) c173 (postH d [.t 4] O) (inSt I)) : SpH Tryz.prog gl 173 d I O :=
  @fun_spH Tryz.prog gl drD 173 Tryz.f173 a173 Tryz.func173 m173 (dok _) d I O hl h
/-- firebell/firebellref01.Of -/
def c174 : AC :=
 (.sq (.rg [.al 2 [(.int .u64 0), (.int .u64 0)],
   .mv 3 (.c (.bool false))])
  (.sq (.rg [.bd 6 [(.int .u64 0), (.int .u64 0)] [],
   .al 4 [(.int .u64 0), (.int .u64 0)],
   .st 2 (.s 4) (.s 6)])
  (.sq (.sq (.rg [.mv 5 (.c (.int .i64 0))])
  (.bl 0 (.lp (.sq (.sq (.rg [.mv 7 (.s 5),
   .mv 8 (.s 0),
   .ln 9 (.s 8),
   .bi 10 .lss (.s 7) (.s 9)])
  (.cd (.s 10) .sk (.ex 0)))
  (.sq (.bl 1 (.sq (.sq (.rg [.mv 13 (.s 0),
   .mv 14 (.s 5),
   .ia 15 1 (.s 13) (.s 14),
   .lds 16 (.s 15),
   .un 17 .not (.s 16)])
  (.cd (.s 17) (.ex 1) .sk))
  (.sq (.sq (.rg [.mv 18 (.s 5),
   .bi 19 .geq (.s 18) (.c (.int .i64 128))])
  (.cd (.s 19) (.sq (.rg [.bd 20 [(.int .u64 0), (.int .u64 0)] [],
   .st 2 (.s 2) (.s 20),
   .mv 3 (.c (.bool false))])
  .rt) .sk))
  (.sq (.rg [.mv 21 (.s 5),
   .bi 22 .geq (.s 21) (.c (.int .i64 64))])
  (.cd (.s 22) (.rg [.fa 23 (.s 4) 0,
   .lds 24 (.s 23),
   .mv 25 (.s 5),
   .bi 26 .sub (.s 25) (.c (.int .i64 64)),
   .cv 27 .u64 (.s 26),
   .bi 28 .shl (.c (.int .u64 1)) (.s 27),
   .bi 29 .add (.s 24) (.s 28),
   .fa 30 (.s 4) 0,
   .st 1 (.s 30) (.s 29)]) (.rg [.fa 31 (.s 4) 1,
   .lds 32 (.s 31),
   .mv 33 (.s 5),
   .cv 34 .u64 (.s 33),
   .bi 35 .shl (.c (.int .u64 1)) (.s 34),
   .bi 36 .add (.s 32) (.s 35),
   .fa 37 (.s 4) 1,
   .st 1 (.s 37) (.s 36)]))))))
  (.rg [.mv 11 (.s 5),
   .bi 12 .add (.s 11) (.c (.int .i64 1)),
   .mv 5 (.s 12)]))))))
  (.sq (.rg [.lda 38 2 (.s 4),
   .st 2 (.s 2) (.s 38),
   .mv 3 (.c (.bool true))])
  .rt))))
def a174 : AF := ⟨c174, [.ca 2 2, .t 3], 1, 39⟩
theorem m174 : mF Tryz.prog gl drD Tryz.f174 a174 = true := by kernel_rfl
theorem s174 {l : List AV} {r : AV} (hl : l.length = 1) (hi : idsL l = []) (h : wpA (SpH Tryz.prog gl) c174 (postA [.ca 2 2, .t 3] r) ⟨initE 0 l, [], []⟩) : Sp Tryz.prog gl 174 l r :=
  @fun_sp Tryz.prog gl drD 174 Tryz.f174 a174 Tryz.func174 m174 (dok _) l r hl hi h
theorem h174 {d : Nat} {I : In} {O : Out} (hl : I.vs.length = 1) (h : wpA (SpH Tryz.prog gl) c174 (postH d [.ca 2 2, .t 3] O) (inSt I)) : SpH Tryz.prog gl 174 d I O :=
  @fun_spH Tryz.prog gl drD 174 Tryz.f174 a174 Tryz.func174 m174 (dok _) d I O hl h
/-- firebell/firebellref01.Times -/
def c175 : AC :=
 (.sq (.rg [.mv 4 (.c .nils)])
  (.sq (.rg [.bs 8 1 [],
   .mv 5 (.s 8)])
  (.sq (.rg [.bs 9 1 [],
   .mv 10 (.s 0),
   .ap 11 1 1 (.s 9) (.s 10),
   .mv 6 (.s 11)])
  (.sq (.sq (.rg [.mv 7 (.c (.int .i64 0))])
  (.bl 0 (.lp (.sq (.sq (.rg [.mv 12 (.s 7),
   .mv 13 (.s 1),
   .ln 14 (.s 13),
   .bi 15 .lss (.s 12) (.s 14)])
  (.cd (.s 15) .sk (.ex 0)))
  (.sq (.bl 1 (.sq (.sq (.rg [.mv 18 (.s 1),
   .mv 19 (.s 7),
   .ia 20 1 (.s 18) (.s 19),
   .lds 21 (.s 20)])
  (.cd (.s 21) (.rg [.mv 22 (.s 5),
   .mv 23 (.s 6),
   .cl 24 178 [(.s 22), (.s 23)],
   .mv 5 (.s 24)]) .sk))
  (.rg [.bs 25 1 [(.c (.bool false))],
   .mv 26 (.s 6),
   .ap 27 1 1 (.s 25) (.s 26),
   .mv 6 (.s 27)])))
  (.rg [.mv 16 (.s 7),
   .bi 17 .add (.s 16) (.c (.int .i64 1)),
   .mv 7 (.s 17)]))))))
  (.sq (.rg [.mv 28 (.s 5),
   .mv 4 (.s 28)])
  .rt)))))
def a175 : AF := ⟨c175, [.t 4], 2, 29⟩
theorem m175 : mF Tryz.prog gl drD Tryz.f175 a175 = true := by kernel_rfl
theorem s175 {l : List AV} {r : AV} (hl : l.length = 2) (hi : idsL l = []) (h : wpA (SpH Tryz.prog gl) c175 (postA [.t 4] r) ⟨initE 0 l, [], []⟩) : Sp Tryz.prog gl 175 l r :=
  @fun_sp Tryz.prog gl drD 175 Tryz.f175 a175 Tryz.func175 m175 (dok _) l r hl hi h
theorem h175 {d : Nat} {I : In} {O : Out} (hl : I.vs.length = 2) (h : wpA (SpH Tryz.prog gl) c175 (postH d [.t 4] O) (inSt I)) : SpH Tryz.prog gl 175 d I O :=
  @fun_spH Tryz.prog gl drD 175 Tryz.f175 a175 Tryz.func175 m175 (dok _) d I O hl h
/-- firebell/firebellref23.Bits -/
def c176 : AC :=
 (.sq (.rg [.mv 2 (.c .nils)])
  (.sq (.rg [.mv 3 (.s 0),
   .bd 4 [(.int .u64 0), (.int .u64 0)] [(1, 1, (.s 3))],
   .cl 5 214 [(.s 4)],
   .mv 2 (.s 5)])
  .rt))
def a176 : AF := ⟨c176, [.t 2], 1, 6⟩
theorem m176 : mF Tryz.prog gl drD Tryz.f176 a176 = true := by kernel_rfl
theorem s176 {l : List AV} {r : AV} (hl : l.length = 1) (hi : idsL l = []) (h : wpA (SpH Tryz.prog gl) c176 (postA [.t 2] r) ⟨initE 0 l, [], []⟩) : Sp Tryz.prog gl 176 l r :=
  @fun_sp Tryz.prog gl drD 176 Tryz.f176 a176 Tryz.func176 m176 (dok _) l r hl hi h
theorem h176 {d : Nat} {I : In} {O : Out} (hl : I.vs.length = 1) (h : wpA (SpH Tryz.prog gl) c176 (postH d [.t 2] O) (inSt I)) : SpH Tryz.prog gl 176 d I O :=
  @fun_spH Tryz.prog gl drD 176 Tryz.f176 a176 Tryz.func176 m176 (dok _) d I O hl h
/-- firebell/firebellref01.Divide -/
def c177 : AC :=
 (.sq (.rg [.mv 4 (.c .nils),
   .mv 5 (.c .nils)])
  (.sq (.rg [.mv 9 (.s 0),
   .ln 10 (.s 9),
   .mkm 11 1 1 [(.bool false)] (.s 10) (.s 10),
   .mv 6 (.s 11)])
  (.sq (.rg [.bs 12 1 [],
   .mv 7 (.s 12)])
  (.sq (.sq (.rg [.mv 13 (.s 0),
   .ln 14 (.s 13),
   .bi 15 .sub (.s 14) (.c (.int .i64 1)),
   .mv 8 (.s 15)])
  (.bl 0 (.lp (.sq (.sq (.rg [.mv 16 (.s 8),
   .bi 17 .geq (.s 16) (.c (.int .i64 0))])
  (.cd (.s 17) .sk (.ex 0)))
  (.sq (.bl 1 (.sq (.rg [.mv 20 (.s 0),
   .mv 21 (.s 8),
   .ia 22 1 (.s 20) (.s 21),
   .lds 23 (.s 22),
   .bs 24 1 [(.s 23)],
   .mv 25 (.s 7),
   .ap 26 1 1 (.s 24) (.s 25),
   .mv 7 (.s 26)])
  (.sq (.rg [.mv 27 (.s 7),
   .mv 28 (.s 1),
   .cl 29 154 [(.s 27), (.s 28)],
   .bi 30 .geq (.s 29) (.c (.int .i64 0))])
  (.cd (.s 30) (.sq (.rg [.mv 31 (.s 7),
   .mv 32 (.s 1),
   .cl 33 212 [(.s 31), (.s 32)],
   .mv 7 (.s 33)])
  (.rg [.mv 34 (.s 6),
   .mv 35 (.s 8),
   .ia 36 1 (.s 34) (.s 35),
   .st 1 (.s 36) (.c (.bool true))])) .sk))))
  (.rg [.mv 18 (.s 8),
   .bi 19 .sub (.s 18) (.c (.int .i64 1)),
   .mv 8 (.s 19)]))))))
  (.sq (.rg [.mv 37 (.s 6),
   .mv 38 (.s 7),
   .mv 4 (.s 37),
   .mv 5 (.s 38)])
  .rt)))))
def a177 : AF := ⟨c177, [.t 4, .t 5], 2, 39⟩
theorem m177 : mF Tryz.prog gl drD Tryz.f177 a177 = true := by kernel_rfl
theorem s177 {l : List AV} {r : AV} (hl : l.length = 2) (hi : idsL l = []) (h : wpA (SpH Tryz.prog gl) c177 (postF [.t 4, .t 5] r) ⟨initE 0 l, [], []⟩) : Sp Tryz.prog gl 177 l r :=
  @fun_spF Tryz.prog gl drD 177 Tryz.f177 a177 Tryz.func177 m177 (dok _) l r hl hi h
theorem h177 {d : Nat} {I : In} {O : Out} (hl : I.vs.length = 2) (h : wpA (SpH Tryz.prog gl) c177 (postH d [.t 4, .t 5] O) (inSt I)) : SpH Tryz.prog gl 177 d I O :=
  @fun_spH Tryz.prog gl drD 177 Tryz.f177 a177 Tryz.func177 m177 (dok _) d I O hl h
/-- firebell/firebellref01.Plus -/
def c178 : AC :=
 (.sq (.rg [.mv 4 (.c .nils)])
  (.sq (.rg [.bs 9 1 [],
   .mo 5 9])
  (.sq (.rg [.mv 6 (.c (.int .i64 0))])
  (.sq (.sq (.rg [.mv 7 (.c (.int .i64 0))])
  (.bl 0 (.lp (.sq (.sq (.rg [.mv 10 (.s 7),
   .mv 11 (.s 0),
   .ln 12 (.s 11),
   .bi 13 .lss (.s 10) (.s 12),
   .mv 14 (.s 13),
   .gd 14 false 15 (.mv 15 (.s 7)),
   .gd 14 false 16 (.mv 16 (.s 1)),
   .gd 14 false 17 (.ln 17 (.s 16)),
   .gd 14 false 18 (.bi 18 .lss (.s 15) (.s 17)),
   .pk 19 (.s 14) (.c (.bool true)) (.s 18),
   .mv 20 (.s 19),
   .gd 20 false 21 (.mv 21 (.s 6)),
   .gd 20 false 22 (.bi 22 .gtr (.s 21) (.c (.int .i64 0))),
   .pk 23 (.s 20) (.c (.bool true)) (.s 22)])
  (.cd (.s 23) .sk (.ex 0)))
  (.sq (.bl 1 (.sq (.rg [.mv 26 (.s 0),
   .mv 27 (.s 7),
   .cl 28 201 [(.s 26), (.s 27)],
   .mv 29 (.s 1),
   .mv 30 (.s 7),
   .cl 31 201 [(.s 29), (.s 30)],
   .bi 32 .add (.s 28) (.s 31),
   .mv 33 (.s 6),
   .bi 34 .add (.s 32) (.s 33),
   .mv 8 (.s 34)])
  (.sq (.rg [.mo 35 5,
   .mv 36 (.s 8),
   .bi 37 .rem (.s 36) (.c (.int .i64 2)),
   .bi 38 .eql (.s 37) (.c (.int .i64 1)),
   .bs 39 1 [(.s 38)],
   .ap 40 1 1 (.s 35) (.s 39),
   .mo 5 40])
  (.rg [.mv 41 (.s 8),
   .bi 42 .quo (.s 41) (.c (.int .i64 2)),
   .mv 6 (.s 42)]))))
  (.rg [.mv 24 (.s 7),
   .bi 25 .add (.s 24) (.c (.int .i64 1)),
   .mv 7 (.s 25)]))))))
  (.sq (.rg [.mv 43 (.s 5),
   .mv 4 (.s 43)])
  .rt)))))
def a178 : AF := ⟨c178, [.t 4], 2, 44⟩
theorem m178 : mF Tryz.prog gl drD Tryz.f178 a178 = true := by kernel_rfl
theorem s178 {l : List AV} {r : AV} (hl : l.length = 2) (hi : idsL l = []) (h : wpA (SpH Tryz.prog gl) c178 (postA [.t 4] r) ⟨initE 0 l, [], []⟩) : Sp Tryz.prog gl 178 l r :=
  @fun_sp Tryz.prog gl drD 178 Tryz.f178 a178 Tryz.func178 m178 (dok _) l r hl hi h
theorem h178 {d : Nat} {I : In} {O : Out} (hl : I.vs.length = 2) (h : wpA (SpH Tryz.prog gl) c178 (postH d [.t 4] O) (inSt I)) : SpH Tryz.prog gl 178 d I O :=
  @fun_spH Tryz.prog gl drD 178 Tryz.f178 a178 Tryz.func178 m178 (dok _) d I O hl h
/-- firebell/text.Letter -/
def c183 : AC :=
 (.sq (.rg [.mv 2 (.c (.bool false))])
  (.sq (.bl 0 (.sq (.rg [.mv 4 (.s 0),
   .bi 5 .geq (.s 4) (.c (.int .i32 97)),
   .mv 6 (.s 5),
   .gd 6 true 7 (.mv 7 (.s 0)),
   .gd 6 true 8 (.bi 8 .leq (.s 7) (.c (.int .i32 122))),
   .pk 9 (.s 6) (.s 8) (.c (.bool false)),
   .mv 10 (.s 9),
   .gd 10 false 11 (.mv 11 (.s 0)),
   .gd 10 false 12 (.bi 12 .geq (.s 11) (.c (.int .i32 65))),
   .gd 10 false 13 (.mv 13 (.s 12)),
   .gd 13 true 14 (.mv 14 (.s 0)),
   .gd 13 true 15 (.bi 15 .leq (.s 14) (.c (.int .i32 90))),
   .gd 10 false 16 (.pk 16 (.s 13) (.s 15) (.c (.bool false))),
   .pk 17 (.s 10) (.c (.bool true)) (.s 16),
   .mv 3 (.s 17)])
  (.cd (.s 3) (.sq (.rg [.mv 2 (.c (.bool true))])
  .rt) (.sq (.rg [.mv 19 (.s 0),
   .bi 20 .eql (.s 19) (.c (.int .i32 215)),
   .mv 21 (.s 20),
   .gd 21 false 22 (.mv 22 (.s 0)),
   .gd 21 false 23 (.bi 23 .eql (.s 22) (.c (.int .i32 247))),
   .pk 24 (.s 21) (.c (.bool true)) (.s 23),
   .mv 18 (.s 24)])
  (.cd (.s 18) (.sq (.rg [.mv 2 (.c (.bool false))])
  .rt) (.sq (.rg [.mv 26 (.s 0),
   .bi 27 .geq (.s 26) (.c (.int .i32 192)),
   .mv 28 (.s 27),
   .gd 28 true 29 (.mv 29 (.s 0)),
   .gd 28 true 30 (.bi 30 .leq (.s 29) (.c (.int .i32 591))),
   .pk 31 (.s 28) (.s 30) (.c (.bool false)),
   .mv 25 (.s 31)])
  (.cd (.s 25) (.sq (.rg [.mv 2 (.c (.bool true))])
  .rt) .sk)))))))
  (.sq (.rg [.mv 32 (.s 0),
   .bi 33 .geq (.s 32) (.c (.int .i32 880)),
   .mv 34 (.s 33),
   .gd 34 true 35 (.mv 35 (.s 0)),
   .gd 34 true 36 (.bi 36 .leq (.s 35) (.c (.int .i32 1279))),
   .pk 37 (.s 34) (.s 36) (.c (.bool false)),
   .mv 2 (.s 37)])
  .rt)))
def a183 : AF := ⟨c183, [.t 2], 1, 38⟩
theorem m183 : mF Tryz.prog gl drD Tryz.f183 a183 = true := by kernel_rfl
theorem s183 {l : List AV} {r : AV} (hl : l.length = 1) (hi : idsL l = []) (h : wpA (SpH Tryz.prog gl) c183 (postA [.t 2] r) ⟨initE 0 l, [], []⟩) : Sp Tryz.prog gl 183 l r :=
  @fun_sp Tryz.prog gl drD 183 Tryz.f183 a183 Tryz.func183 m183 (dok _) l r hl hi h
theorem h183 {d : Nat} {I : In} {O : Out} (hl : I.vs.length = 1) (h : wpA (SpH Tryz.prog gl) c183 (postH d [.t 2] O) (inSt I)) : SpH Tryz.prog gl 183 d I O :=
  @fun_spH Tryz.prog gl drD 183 Tryz.f183 a183 Tryz.func183 m183 (dok _) d I O hl h
/-- firebell/text.digit -/
def c184 : AC :=
 (.sq (.rg [.mv 2 (.c (.bool false))])
  (.sq (.rg [.mv 3 (.s 0),
   .bi 4 .geq (.s 3) (.c (.int .i32 48)),
   .mv 5 (.s 4),
   .gd 5 true 6 (.mv 6 (.s 0)),
   .gd 5 true 7 (.bi 7 .leq (.s 6) (.c (.int .i32 57))),
   .pk 8 (.s 5) (.s 7) (.c (.bool false)),
   .mv 2 (.s 8)])
  .rt))
def a184 : AF := ⟨c184, [.t 2], 1, 9⟩
theorem m184 : mF Tryz.prog gl drD Tryz.f184 a184 = true := by kernel_rfl
theorem s184 {l : List AV} {r : AV} (hl : l.length = 1) (hi : idsL l = []) (h : wpA (SpH Tryz.prog gl) c184 (postA [.t 2] r) ⟨initE 0 l, [], []⟩) : Sp Tryz.prog gl 184 l r :=
  @fun_sp Tryz.prog gl drD 184 Tryz.f184 a184 Tryz.func184 m184 (dok _) l r hl hi h
theorem h184 {d : Nat} {I : In} {O : Out} (hl : I.vs.length = 1) (h : wpA (SpH Tryz.prog gl) c184 (postH d [.t 2] O) (inSt I)) : SpH Tryz.prog gl 184 d I O :=
  @fun_spH Tryz.prog gl drD 184 Tryz.f184 a184 Tryz.func184 m184 (dok _) d I O hl h
/-- firebell/ppm.Right -/
def c195 : AC :=
 (.sq (.rg [.mv 2 (.c (.bool false))])
  (.sq (.rg [.mv 3 (.s 0),
   .bi 4 .leq (.s 3) (.c (.int .u32 1000000)),
   .mv 2 (.s 4)])
  .rt))
def a195 : AF := ⟨c195, [.t 2], 1, 5⟩
theorem m195 : mF Tryz.prog gl drD Tryz.f195 a195 = true := by kernel_rfl
theorem s195 {l : List AV} {r : AV} (hl : l.length = 1) (hi : idsL l = []) (h : wpA (SpH Tryz.prog gl) c195 (postA [.t 2] r) ⟨initE 0 l, [], []⟩) : Sp Tryz.prog gl 195 l r :=
  @fun_sp Tryz.prog gl drD 195 Tryz.f195 a195 Tryz.func195 m195 (dok _) l r hl hi h
theorem h195 {d : Nat} {I : In} {O : Out} (hl : I.vs.length = 1) (h : wpA (SpH Tryz.prog gl) c195 (postH d [.t 2] O) (inSt I)) : SpH Tryz.prog gl 195 d I O :=
  @fun_spH Tryz.prog gl drD 195 Tryz.f195 a195 Tryz.func195 m195 (dok _) d I O hl h
/-- math/bits.Div64 -/
def c196 : AC :=
 (.sq (.rg [.mv 6 (.c (.int .u64 0)),
   .mv 7 (.c (.int .u64 0))])
  (.sq (.sq (.rg [.mv 19 (.s 2),
   .bi 20 .eql (.s 19) (.c (.int .u64 0))])
  (.cd (.s 20) (.rg [.no,
   .no]) .sk))
  (.sq (.sq (.rg [.mv 22 (.s 2),
   .mv 23 (.s 0),
   .bi 24 .leq (.s 22) (.s 23)])
  (.cd (.s 24) (.rg [.no,
   .no]) .sk))
  (.sq (.sq (.rg [.mv 26 (.s 0),
   .bi 27 .eql (.s 26) (.c (.int .u64 0))])
  (.cd (.s 27) (.sq (.rd [[], [], [], [], [], [], [], []] [.mv 28 (.s 1),
   .mv 29 (.s 2),
   .bi 30 .quo (.s 28) (.s 29),
   .mv 31 (.s 1),
   .mv 32 (.s 2),
   .bi 33 .rem (.s 31) (.s 32),
   .mv 6 (.s 30),
   .mv 7 (.s 33)])
  .rt) .sk))
  (.sq (.rg [.mv 34 (.s 2),
   .cl 35 229 [(.s 34)],
   .cv 36 .u64 (.s 35),
   .mv 8 (.s 36)])
  (.sq (.rg [.mv 37 (.s 2),
   .mv 38 (.s 8),
   .bi 39 .shl (.s 37) (.s 38),
   .mv 2 (.s 39)])
  (.sq (.rg [.mv 40 (.s 2),
   .bi 41 .shr (.s 40) (.c (.int .u64 32)),
   .mv 9 (.s 41)])
  (.sq (.rg [.mv 42 (.s 2),
   .bi 43 .and (.s 42) (.c (.int .u64 4294967295)),
   .mv 10 (.s 43)])
  (.sq (.rg [.mv 44 (.s 0),
   .mv 45 (.s 8),
   .bi 46 .shl (.s 44) (.s 45),
   .mv 47 (.s 1),
   .mv 48 (.s 8),
   .bi 49 .sub (.c (.int .u64 64)) (.s 48),
   .bi 50 .shr (.s 47) (.s 49),
   .bi 51 .or (.s 46) (.s 50),
   .mv 11 (.s 51)])
  (.sq (.rg [.mv 52 (.s 1),
   .mv 53 (.s 8),
   .bi 54 .shl (.s 52) (.s 53),
   .mv 12 (.s 54)])
  (.sq (.rg [.mv 55 (.s 12),
   .bi 56 .shr (.s 55) (.c (.int .u64 32)),
   .mv 13 (.s 56)])
  (.sq (.rg [.mv 57 (.s 12),
   .bi 58 .and (.s 57) (.c (.int .u64 4294967295)),
   .mv 14 (.s 58)])
  (.sq (.rg [.mv 59 (.s 11),
   .mv 60 (.s 9),
   .bi 61 .quo (.s 59) (.s 60),
   .mv 15 (.s 61)])
  (.sq (.rg [.mv 62 (.s 11),
   .mv 63 (.s 15),
   .mv 64 (.s 9),
   .bi 65 .mul (.s 63) (.s 64),
   .bi 66 .sub (.s 62) (.s 65),
   .mv 16 (.s 66)])
  (.sq (.bl 0 (.lp (.sq (.sq (.rg [.mv 67 (.s 15),
   .bi 68 .geq (.s 67) (.c (.int .u64 4294967296)),
   .mv 69 (.s 68),
   .gd 69 false 70 (.mv 70 (.s 15)),
   .gd 69 false 71 (.mv 71 (.s 10)),
   .gd 69 false 72 (.bi 72 .mul (.s 70) (.s 71)),
   .gd 69 false 73 (.mv 73 (.s 16)),
   .gd 69 false 74 (.bi 74 .mul (.c (.int .u64 4294967296)) (.s 73)),
   .gd 69 false 75 (.mv 75 (.s 13)),
   .gd 69 false 76 (.bi 76 .add (.s 74) (.s 75)),
   .gd 69 false 77 (.bi 77 .gtr (.s 72) (.s 76)),
   .pk 78 (.s 69) (.c (.bool true)) (.s 77)])
  (.cd (.s 78) .sk (.ex 0)))
  (.bl 1 (.sq (.rg [.mv 79 (.s 15),
   .bi 80 .sub (.s 79) (.c (.int .u64 1)),
   .mv 15 (.s 80)])
  (.sq (.rg [.mv 81 (.s 16),
   .mv 82 (.s 9),
   .bi 83 .add (.s 81) (.s 82),
   .mv 16 (.s 83)])
  (.sq (.rg [.mv 84 (.s 16),
   .bi 85 .geq (.s 84) (.c (.int .u64 4294967296))])
  (.cd (.s 85) (.ex 0) .sk))))))))
  (.sq (.rg [.mv 86 (.s 11),
   .bi 87 .mul (.s 86) (.c (.int .u64 4294967296)),
   .mv 88 (.s 13),
   .bi 89 .add (.s 87) (.s 88),
   .mv 90 (.s 15),
   .mv 91 (.s 2),
   .bi 92 .mul (.s 90) (.s 91),
   .bi 93 .sub (.s 89) (.s 92),
   .mv 17 (.s 93)])
  (.sq (.rg [.mv 94 (.s 17),
   .mv 95 (.s 9),
   .bi 96 .quo (.s 94) (.s 95),
   .mv 18 (.s 96)])
  (.sq (.rg [.mv 97 (.s 17),
   .mv 98 (.s 18),
   .mv 99 (.s 9),
   .bi 100 .mul (.s 98) (.s 99),
   .bi 101 .sub (.s 97) (.s 100),
   .mv 16 (.s 101)])
  (.sq (.bl 2 (.lp (.sq (.sq (.rg [.mv 102 (.s 18),
   .bi 103 .geq (.s 102) (.c (.int .u64 4294967296)),
   .mv 104 (.s 103),
   .gd 104 false 105 (.mv 105 (.s 18)),
   .gd 104 false 106 (.mv 106 (.s 10)),
   .gd 104 false 107 (.bi 107 .mul (.s 105) (.s 106)),
   .gd 104 false 108 (.mv 108 (.s 16)),
   .gd 104 false 109 (.bi 109 .mul (.c (.int .u64 4294967296)) (.s 108)),
   .gd 104 false 110 (.mv 110 (.s 14)),
   .gd 104 false 111 (.bi 111 .add (.s 109) (.s 110)),
   .gd 104 false 112 (.bi 112 .gtr (.s 107) (.s 111)),
   .pk 113 (.s 104) (.c (.bool true)) (.s 112)])
  (.cd (.s 113) .sk (.ex 2)))
  (.bl 3 (.sq (.rg [.mv 114 (.s 18),
   .bi 115 .sub (.s 114) (.c (.int .u64 1)),
   .mv 18 (.s 115)])
  (.sq (.rg [.mv 116 (.s 16),
   .mv 117 (.s 9),
   .bi 118 .add (.s 116) (.s 117),
   .mv 16 (.s 118)])
  (.sq (.rg [.mv 119 (.s 16),
   .bi 120 .geq (.s 119) (.c (.int .u64 4294967296))])
  (.cd (.s 120) (.ex 2) .sk))))))))
  (.sq (.rg [.mv 121 (.s 15),
   .bi 122 .mul (.s 121) (.c (.int .u64 4294967296)),
   .mv 123 (.s 18),
   .bi 124 .add (.s 122) (.s 123),
   .mv 125 (.s 17),
   .bi 126 .mul (.s 125) (.c (.int .u64 4294967296)),
   .mv 127 (.s 14),
   .bi 128 .add (.s 126) (.s 127),
   .mv 129 (.s 18),
   .mv 130 (.s 2),
   .bi 131 .mul (.s 129) (.s 130),
   .bi 132 .sub (.s 128) (.s 131),
   .mv 133 (.s 8),
   .bi 134 .shr (.s 132) (.s 133),
   .mv 6 (.s 124),
   .mv 7 (.s 134)])
  .rt))))))))))))))))))))
def a196 : AF := ⟨c196, [.t 6, .t 7], 3, 135⟩
theorem m196 : mF Tryz.prog gl drD Tryz.f196 a196 = true := by kernel_rfl
theorem s196 {l : List AV} {r : AV} (hl : l.length = 3) (hi : idsL l = []) (h : wpA (SpH Tryz.prog gl) c196 (postA [.t 6, .t 7] r) ⟨initE 0 l, [], []⟩) : Sp Tryz.prog gl 196 l r :=
  @fun_sp Tryz.prog gl drD 196 Tryz.f196 a196 Tryz.func196 m196 (dok _) l r hl hi h
theorem h196 {d : Nat} {I : In} {O : Out} (hl : I.vs.length = 3) (h : wpA (SpH Tryz.prog gl) c196 (postH d [.t 6, .t 7] O) (inSt I)) : SpH Tryz.prog gl 196 d I O :=
  @fun_spH Tryz.prog gl drD 196 Tryz.f196 a196 Tryz.func196 m196 (dok _) d I O hl h
/-- math/bits.Mul64 -/
def c197 : AC :=
 (.sq (.rg [.mv 4 (.c (.int .u64 0)),
   .mv 5 (.c (.int .u64 0))])
  (.sq (.rg [.mv 14 (.s 0),
   .bi 15 .and (.s 14) (.c (.int .u64 4294967295)),
   .mv 6 (.s 15)])
  (.sq (.rg [.mv 16 (.s 0),
   .bi 17 .shr (.s 16) (.c (.int .u64 32)),
   .mv 7 (.s 17)])
  (.sq (.rg [.mv 18 (.s 1),
   .bi 19 .and (.s 18) (.c (.int .u64 4294967295)),
   .mv 8 (.s 19)])
  (.sq (.rg [.mv 20 (.s 1),
   .bi 21 .shr (.s 20) (.c (.int .u64 32)),
   .mv 9 (.s 21)])
  (.sq (.rg [.mv 22 (.s 6),
   .mv 23 (.s 8),
   .bi 24 .mul (.s 22) (.s 23),
   .mv 10 (.s 24)])
  (.sq (.rg [.mv 25 (.s 7),
   .mv 26 (.s 8),
   .bi 27 .mul (.s 25) (.s 26),
   .mv 28 (.s 10),
   .bi 29 .shr (.s 28) (.c (.int .u64 32)),
   .bi 30 .add (.s 27) (.s 29),
   .mv 11 (.s 30)])
  (.sq (.rg [.mv 31 (.s 11),
   .bi 32 .and (.s 31) (.c (.int .u64 4294967295)),
   .mv 12 (.s 32)])
  (.sq (.rg [.mv 33 (.s 11),
   .bi 34 .shr (.s 33) (.c (.int .u64 32)),
   .mv 13 (.s 34)])
  (.sq (.rg [.mv 35 (.s 12),
   .mv 36 (.s 6),
   .mv 37 (.s 9),
   .bi 38 .mul (.s 36) (.s 37),
   .bi 39 .add (.s 35) (.s 38),
   .mv 12 (.s 39)])
  (.sq (.rg [.mv 40 (.s 7),
   .mv 41 (.s 9),
   .bi 42 .mul (.s 40) (.s 41),
   .mv 43 (.s 13),
   .bi 44 .add (.s 42) (.s 43),
   .mv 45 (.s 12),
   .bi 46 .shr (.s 45) (.c (.int .u64 32)),
   .bi 47 .add (.s 44) (.s 46),
   .mv 4 (.s 47)])
  (.sq (.rg [.mv 48 (.s 0),
   .mv 49 (.s 1),
   .bi 50 .mul (.s 48) (.s 49),
   .mv 5 (.s 50)])
  .rt))))))))))))
def a197 : AF := ⟨c197, [.t 4, .t 5], 2, 51⟩
theorem m197 : mF Tryz.prog gl drD Tryz.f197 a197 = true := by kernel_rfl
theorem s197 {l : List AV} {r : AV} (hl : l.length = 2) (hi : idsL l = []) (h : wpA (SpH Tryz.prog gl) c197 (postA [.t 4, .t 5] r) ⟨initE 0 l, [], []⟩) : Sp Tryz.prog gl 197 l r :=
  @fun_sp Tryz.prog gl drD 197 Tryz.f197 a197 Tryz.func197 m197 (dok _) l r hl hi h
theorem h197 {d : Nat} {I : In} {O : Out} (hl : I.vs.length = 2) (h : wpA (SpH Tryz.prog gl) c197 (postH d [.t 4, .t 5] O) (inSt I)) : SpH Tryz.prog gl 197 d I O :=
  @fun_spH Tryz.prog gl drD 197 Tryz.f197 a197 Tryz.func197 m197 (dok _) d I O hl h
/-- cmp.Or[int] -/
def c198 : AC :=
 (.sq (.rg [.mv 2 (.c (.int .i64 0))])
  (.sq (.rg [.mv 3 (.c (.int .i64 0))])
  (.sq (.sq (.rg [.mv 6 (.s 0),
   .ln 7 (.s 6),
   .mv 8 (.c (.int .i64 0))])
  (.bl 0 (.lp (.sq (.rg [.bi 9 .lss (.s 8) (.s 7)])
  (.sq (.cd (.s 9) .sk (.ex 0))
  (.sq (.bl 1 (.sq (.rg [.ia 10 1 (.s 6) (.s 8),
   .lds 11 (.s 10),
   .mv 5 (.s 11)])
  (.sq (.rg [.mv 12 (.s 5),
   .mv 13 (.s 3),
   .bi 14 .neq (.s 12) (.s 13)])
  (.cd (.s 14) (.sq (.rg [.mv 15 (.s 5),
   .mv 2 (.s 15)])
  .rt) .sk))))
  (.rg [.bi 16 .add (.s 8) (.c (.int .i64 1)),
   .mv 8 (.s 16)])))))))
  (.sq (.rg [.mv 17 (.s 3),
   .mv 2 (.s 17)])
  .rt))))
def a198 : AF := ⟨c198, [.t 2], 1, 18⟩
theorem m198 : mF Tryz.prog gl drD Tryz.f198 a198 = true := by kernel_rfl
theorem s198 {l : List AV} {r : AV} (hl : l.length = 1) (hi : idsL l = []) (h : wpA (SpH Tryz.prog gl) c198 (postA [.t 2] r) ⟨initE 0 l, [], []⟩) : Sp Tryz.prog gl 198 l r :=
  @fun_sp Tryz.prog gl drD 198 Tryz.f198 a198 Tryz.func198 m198 (dok _) l r hl hi h
theorem h198 {d : Nat} {I : In} {O : Out} (hl : I.vs.length = 1) (h : wpA (SpH Tryz.prog gl) c198 (postH d [.t 2] O) (inSt I)) : SpH Tryz.prog gl 198 d I O :=
  @fun_spH Tryz.prog gl drD 198 Tryz.f198 a198 Tryz.func198 m198 (dok _) d I O hl h
/-- cmp.Compare[uint64] -/
def c199 : AC :=
 (.sq (.rg [.mv 4 (.c (.int .i64 0))])
  (.sq (.rg [.mv 7 (.s 0),
   .cl 8 230 [(.s 7)],
   .mv 5 (.s 8)])
  (.sq (.rg [.mv 9 (.s 1),
   .cl 10 230 [(.s 9)],
   .mv 6 (.s 10)])
  (.sq (.sq (.rg [.mv 11 (.s 5)])
  (.cd (.s 11) (.sq (.sq (.rg [.mv 12 (.s 6)])
  (.cd (.s 12) (.sq (.rg [.mv 4 (.c (.int .i64 0))])
  .rt) .sk))
  (.sq (.rg [.mv 4 (.c (.int .i64 (-1)))])
  .rt)) .sk))
  (.sq (.sq (.rg [.mv 13 (.s 6)])
  (.cd (.s 13) (.sq (.rg [.mv 4 (.c (.int .i64 1))])
  .rt) .sk))
  (.sq (.sq (.rg [.mv 14 (.s 0),
   .mv 15 (.s 1),
   .bi 16 .lss (.s 14) (.s 15)])
  (.cd (.s 16) (.sq (.rg [.mv 4 (.c (.int .i64 (-1)))])
  .rt) .sk))
  (.sq (.sq (.rg [.mv 17 (.s 0),
   .mv 18 (.s 1),
   .bi 19 .gtr (.s 17) (.s 18)])
  (.cd (.s 19) (.sq (.rg [.mv 4 (.c (.int .i64 1))])
  .rt) .sk))
  (.sq (.rg [.mv 4 (.c (.int .i64 0))])
  .rt))))))))
def a199 : AF := ⟨c199, [.t 4], 2, 20⟩
theorem m199 : mF Tryz.prog gl drD Tryz.f199 a199 = true := by kernel_rfl
theorem s199 {l : List AV} {r : AV} (hl : l.length = 2) (hi : idsL l = []) (h : wpA (SpH Tryz.prog gl) c199 (postA [.t 4] r) ⟨initE 0 l, [], []⟩) : Sp Tryz.prog gl 199 l r :=
  @fun_sp Tryz.prog gl drD 199 Tryz.f199 a199 Tryz.func199 m199 (dok _) l r hl hi h
theorem h199 {d : Nat} {I : In} {O : Out} (hl : I.vs.length = 2) (h : wpA (SpH Tryz.prog gl) c199 (postH d [.t 4] O) (inSt I)) : SpH Tryz.prog gl 199 d I O :=
  @fun_spH Tryz.prog gl drD 199 Tryz.f199 a199 Tryz.func199 m199 (dok _) d I O hl h
/-- firebell/firebellref01.at -/
def c201 : AC :=
 (.sq (.rg [.mv 4 (.c (.int .i64 0))])
  (.sq (.sq (.rg [.mv 5 (.s 1),
   .mv 6 (.s 0),
   .ln 7 (.s 6),
   .bi 8 .lss (.s 5) (.s 7),
   .mv 9 (.s 8),
   .gd 9 true 10 (.mv 10 (.s 0)),
   .gd 9 true 11 (.mv 11 (.s 1)),
   .gd 9 true 12 (.ia 12 1 (.s 10) (.s 11)),
   .gd 9 true 13 (.lds 13 (.s 12)),
   .pk 14 (.s 9) (.s 13) (.c (.bool false))])
  (.cd (.s 14) (.sq (.rg [.mv 4 (.c (.int .i64 1))])
  .rt) .sk))
  (.sq (.rg [.mv 4 (.c (.int .i64 0))])
  .rt)))
def a201 : AF := ⟨c201, [.t 4], 2, 15⟩
theorem m201 : mF Tryz.prog gl drD Tryz.f201 a201 = true := by kernel_rfl
theorem s201 {l : List AV} {r : AV} (hl : l.length = 2) (hi : idsL l = []) (h : wpA (SpH Tryz.prog gl) c201 (postA [.t 4] r) ⟨initE 0 l, [], []⟩) : Sp Tryz.prog gl 201 l r :=
  @fun_sp Tryz.prog gl drD 201 Tryz.f201 a201 Tryz.func201 m201 (dok _) l r hl hi h
theorem h201 {d : Nat} {I : In} {O : Out} (hl : I.vs.length = 2) (h : wpA (SpH Tryz.prog gl) c201 (postH d [.t 4] O) (inSt I)) : SpH Tryz.prog gl 201 d I O :=
  @fun_spH Tryz.prog gl drD 201 Tryz.f201 a201 Tryz.func201 m201 (dok _) d I O hl h
/-- firebell/firebellref21.bits -/
def c202 : AC :=
 (.sq (.rg [.mv 2 (.c .nils)])
  (.sq (.rg [.mv 3 (.s 0),
   .bd 4 [(.int .u64 0), (.int .u64 0)] [(1, 1, (.s 3))],
   .cl 5 214 [(.s 4)],
   .mv 2 (.s 5)])
  .rt))
def a202 : AF := ⟨c202, [.t 2], 1, 6⟩
theorem m202 : mF Tryz.prog gl drD Tryz.f202 a202 = true := by kernel_rfl
theorem s202 {l : List AV} {r : AV} (hl : l.length = 1) (hi : idsL l = []) (h : wpA (SpH Tryz.prog gl) c202 (postA [.t 2] r) ⟨initE 0 l, [], []⟩) : Sp Tryz.prog gl 202 l r :=
  @fun_sp Tryz.prog gl drD 202 Tryz.f202 a202 Tryz.func202 m202 (dok _) l r hl hi h
theorem h202 {d : Nat} {I : In} {O : Out} (hl : I.vs.length = 1) (h : wpA (SpH Tryz.prog gl) c202 (postH d [.t 2] O) (inSt I)) : SpH Tryz.prog gl 202 d I O :=
  @fun_spH Tryz.prog gl drD 202 Tryz.f202 a202 Tryz.func202 m202 (dok _) d I O hl h
/-- firebell/signed.Right -/
def c204 : AC :=
 (.sq (.rg [.bx 1 (.s 0),
   .mv 2 (.c (.bool false))])
  (.sq (.rg [.fa 3 (.s 1) 0,
   .lds 4 (.s 3),
   .un 5 .not (.s 4),
   .mv 6 (.s 5),
   .gd 6 false 7 (.fa 7 (.s 1) 1),
   .gd 6 false 8 (.lda 8 2 (.s 7)),
   .gd 6 false 9 (.bd 9 [(.int .u64 0), (.int .u64 0)] []),
   .gd 6 false 10 (.ea 10 true [.i, .i] (.s 8) (.s 9)),
   .pk 11 (.s 6) (.c (.bool true)) (.s 10),
   .mv 2 (.s 11)])
  .rt))
def a204 : AF := ⟨c204, [.t 2], 1, 12⟩
theorem m204 : mF Tryz.prog gl drD Tryz.f204 a204 = true := by kernel_rfl
theorem s204 {l : List AV} {r : AV} (hl : l.length = 1) (hi : idsL l = []) (h : wpA (SpH Tryz.prog gl) c204 (postA [.t 2] r) ⟨initE 0 l, [], []⟩) : Sp Tryz.prog gl 204 l r :=
  @fun_sp Tryz.prog gl drD 204 Tryz.f204 a204 Tryz.func204 m204 (dok _) l r hl hi h
theorem h204 {d : Nat} {I : In} {O : Out} (hl : I.vs.length = 1) (h : wpA (SpH Tryz.prog gl) c204 (postH d [.t 2] O) (inSt I)) : SpH Tryz.prog gl 204 d I O :=
  @fun_spH Tryz.prog gl drD 204 Tryz.f204 a204 Tryz.func204 m204 (dok _) d I O hl h
/-- internal/strconv.FormatUint -/
def c207 : AC :=
 (.sq (.rg [.mv 4 (.c (.str []))])
  (.sq (.sq (.rg [.mv 9 (.s 1),
   .bi 10 .eql (.s 9) (.c (.int .i64 10))])
  (.cd (.s 10) (.sq (.sq (.rg [.mv 11 (.s 0),
   .bi 12 .lss (.s 11) (.c (.int .u64 100))])
  (.cd (.s 12) (.sq (.rg [.mv 13 (.s 0),
   .cv 14 .i64 (.s 13),
   .cl 15 235 [(.s 14)],
   .mv 4 (.s 15)])
  .rt) .sk))
  (.sq (.rg [.al 5 [(.int .u8 0), (.int .u8 0), (.int .u8 0), (.int .u8 0), (.int .u8 0), (.int .u8 0), (.int .u8 0), (.int .u8 0), (.int .u8 0), (.int .u8 0), (.int .u8 0), (.int .u8 0), (.int .u8 0), (.int .u8 0), (.int .u8 0), (.int .u8 0), (.int .u8 0), (.int .u8 0), (.int .u8 0), (.int .u8 0), (.int .u8 0), (.int .u8 0), (.int .u8 0), (.int .u8 0)]])
  (.sq (.rg [.mv 16 (.s 0),
   .cl 17 236 [(.s 16)],
   .mv 6 (.s 17)])
  (.sq (.rg [.mv 18 (.s 6),
   .sla 19 24 (.s 5) none (some (.s 18)),
   .mv 20 (.s 0),
   .ce 21 237 [(.s 19), (.s 20)]])
  (.sq (.rg [.mv 22 (.s 6),
   .sla 23 24 (.s 5) none (some (.s 22)),
   .b2s 24 (.s 23),
   .mv 4 (.s 24)])
  .rt))))) .sk))
  (.sq (.rg [.mv 26 (.s 0),
   .mv 27 (.s 1),
   .ce 28 238 [(.c .nils), (.s 26), (.s 27), (.c (.bool false)), (.c (.bool false))],
   .mv 25 (.s 28),
   .exq 29 (.s 25) 0,
   .exq 30 (.s 25) 1,
   .mv 7 (.s 29),
   .mv 8 (.s 30)])
  (.sq (.rg [.mv 31 (.s 8),
   .mv 4 (.s 31)])
  .rt))))
def a207 : AF := ⟨c207, [.t 4], 2, 32⟩
theorem m207 : mF Tryz.prog gl drD Tryz.f207 a207 = true := by kernel_rfl
theorem s207 {l : List AV} {r : AV} (hl : l.length = 2) (hi : idsL l = []) (h : wpA (SpH Tryz.prog gl) c207 (postA [.t 4] r) ⟨initE 0 l, [], []⟩) : Sp Tryz.prog gl 207 l r :=
  @fun_sp Tryz.prog gl drD 207 Tryz.f207 a207 Tryz.func207 m207 (dok _) l r hl hi h
theorem h207 {d : Nat} {I : In} {O : Out} (hl : I.vs.length = 2) (h : wpA (SpH Tryz.prog gl) c207 (postH d [.t 4] O) (inSt I)) : SpH Tryz.prog gl 207 d I O :=
  @fun_spH Tryz.prog gl drD 207 Tryz.f207 a207 Tryz.func207 m207 (dok _) d I O hl h
/-- firebell/ledger.may -/
def c208 : AC :=
 (.sq (.rg [.bx 3 (.s 1),
   .mv 4 (.c (.int .i64 0))])
  (.sq (.bl 0 (.sq (.rg [.mv 6 (.s 0),
   .cl 7 195 [(.s 6)],
   .un 8 .not (.s 7),
   .mv 5 (.s 8)])
  (.cd (.s 5) (.sq (.rg [.mv 4 (.c (.int .i64 8))])
  .rt) (.sq (.rg [.fa 10 (.s 3) 0,
   .lds 11 (.s 10),
   .fa 12 (.s 3) 1,
   .lds 13 (.s 12),
   .bi 14 .gtr (.s 11) (.s 13),
   .mv 9 (.s 14)])
  (.cd (.s 9) (.sq (.rg [.mv 4 (.c (.int .i64 16))])
  .rt) .sk)))))
  (.sq (.rg [.mv 4 (.c (.int .i64 0))])
  .rt)))
def a208 : AF := ⟨c208, [.t 4], 2, 15⟩
theorem m208 : mF Tryz.prog gl drD Tryz.f208 a208 = true := by kernel_rfl
theorem s208 {l : List AV} {r : AV} (hl : l.length = 2) (hi : idsL l = []) (h : wpA (SpH Tryz.prog gl) c208 (postA [.t 4] r) ⟨initE 0 l, [], []⟩) : Sp Tryz.prog gl 208 l r :=
  @fun_sp Tryz.prog gl drD 208 Tryz.f208 a208 Tryz.func208 m208 (dok _) l r hl hi h
theorem h208 {d : Nat} {I : In} {O : Out} (hl : I.vs.length = 2) (h : wpA (SpH Tryz.prog gl) c208 (postH d [.t 4] O) (inSt I)) : SpH Tryz.prog gl 208 d I O :=
  @fun_spH Tryz.prog gl drD 208 Tryz.f208 a208 Tryz.func208 m208 (dok _) d I O hl h
/-- firebell/signed.Between -/
def c209 : AC :=
 (.sq (.rg [.bx 2 (.s 0),
   .bx 3 (.s 1),
   .al 4 [(.bool false), (.int .u64 0), (.int .u64 0)]])
  (.sq (.sq (.rg [.lda 10 2 (.s 2),
   .lda 11 2 (.s 3),
   .cl 12 239 [(.s 10), (.s 11)],
   .mv 9 (.s 12),
   .exq 13 (.s 9) 0,
   .exq 14 (.s 9) 1,
   .al 5 [(.int .u64 0), (.int .u64 0)],
   .st 2 (.s 5) (.s 13),
   .mv 6 (.s 14)])
  (.sq (.rg [.mv 15 (.s 6),
   .bi 16 .eql (.s 15) (.c (.int .i64 0))])
  (.cd (.s 16) (.sq (.rg [.lda 17 2 (.s 5),
   .cl 18 240 [(.c (.bool false)), (.s 17)],
   .st 3 (.s 4) (.s 18)])
  .rt) .sk)))
  (.sq (.rg [.lda 20 2 (.s 3),
   .lda 21 2 (.s 2),
   .cl 22 239 [(.s 20), (.s 21)],
   .mv 19 (.s 22),
   .exq 23 (.s 19) 0,
   .exq 24 (.s 19) 1,
   .al 7 [(.int .u64 0), (.int .u64 0)],
   .st 2 (.s 7) (.s 23),
   .mv 8 (.s 24)])
  (.sq (.rg [.lda 25 2 (.s 7),
   .cl 26 240 [(.c (.bool true)), (.s 25)],
   .st 3 (.s 4) (.s 26)])
  .rt))))
def a209 : AF := ⟨c209, [.ca 4 3], 2, 27⟩
theorem m209 : mF Tryz.prog gl drD Tryz.f209 a209 = true := by kernel_rfl
theorem s209 {l : List AV} {r : AV} (hl : l.length = 2) (hi : idsL l = []) (h : wpA (SpH Tryz.prog gl) c209 (postA [.ca 4 3] r) ⟨initE 0 l, [], []⟩) : Sp Tryz.prog gl 209 l r :=
  @fun_sp Tryz.prog gl drD 209 Tryz.f209 a209 Tryz.func209 m209 (dok _) l r hl hi h
theorem h209 {d : Nat} {I : In} {O : Out} (hl : I.vs.length = 2) (h : wpA (SpH Tryz.prog gl) c209 (postH d [.ca 4 3] O) (inSt I)) : SpH Tryz.prog gl 209 d I O :=
  @fun_spH Tryz.prog gl drD 209 Tryz.f209 a209 Tryz.func209 m209 (dok _) d I O hl h
/-- firebell/ledger.budget -/
def c210 : AC :=
 (.sq (.rg [.bx 3 (.s 1),
   .al 4 [(.int .u64 0), (.int .u64 0)],
   .al 5 [(.int .u64 0), (.int .u64 0)]])
  (.sq (.rd [[], [], [], [], [], [], [], [], [], [], [], [], [], []] [.fa 6 (.s 3) 1,
   .lds 7 (.s 6),
   .mv 8 (.s 0),
   .cl 9 146 [(.s 8)],
   .cv 10 .u64 (.s 9),
   .cl 11 149 [(.s 7), (.s 10)],
   .fa 12 (.s 3) 1,
   .lds 13 (.s 12),
   .fa 14 (.s 3) 0,
   .lds 15 (.s 14),
   .bi 16 .sub (.s 13) (.s 15),
   .cl 17 149 [(.s 16), (.c (.int .u64 1000000))],
   .st 2 (.s 4) (.s 11),
   .st 2 (.s 5) (.s 17)])
  .rt))
def a210 : AF := ⟨c210, [.ca 4 2, .ca 5 2], 2, 18⟩
theorem m210 : mF Tryz.prog gl drD Tryz.f210 a210 = true := by kernel_rfl
theorem s210 {l : List AV} {r : AV} (hl : l.length = 2) (hi : idsL l = []) (h : wpA (SpH Tryz.prog gl) c210 (postA [.ca 4 2, .ca 5 2] r) ⟨initE 0 l, [], []⟩) : Sp Tryz.prog gl 210 l r :=
  @fun_sp Tryz.prog gl drD 210 Tryz.f210 a210 Tryz.func210 m210 (dok _) l r hl hi h
theorem h210 {d : Nat} {I : In} {O : Out} (hl : I.vs.length = 2) (h : wpA (SpH Tryz.prog gl) c210 (postH d [.ca 4 2, .ca 5 2] O) (inSt I)) : SpH Tryz.prog gl 210 d I O :=
  @fun_spH Tryz.prog gl drD 210 Tryz.f210 a210 Tryz.func210 m210 (dok _) d I O hl h
/-- firebell/exact.Add -/
def c211 : AC :=
 (.sq (.rg [.bx 2 (.s 0),
   .bx 3 (.s 1),
   .al 4 [(.int .u64 0), (.int .u64 0)],
   .mv 5 (.c (.int .i64 0))])
  (.sq (.rg [.fa 11 (.s 2) 1,
   .lds 12 (.s 11),
   .fa 13 (.s 3) 1,
   .lds 14 (.s 13),
   .cl 15 241 [(.s 12), (.s 14), (.c (.int .u64 0))],
   .mv 10 (.s 15),
   .exq 16 (.s 10) 0,
   .exq 17 (.s 10) 1,
   .mv 6 (.s 16),
   .mv 7 (.s 17)])
  (.sq (.rg [.fa 19 (.s 2) 0,
   .lds 20 (.s 19),
   .fa 21 (.s 3) 0,
   .lds 22 (.s 21),
   .mv 23 (.s 7),
   .cl 24 241 [(.s 20), (.s 22), (.s 23)],
   .mv 18 (.s 24),
   .exq 25 (.s 18) 0,
   .exq 26 (.s 18) 1,
   .mv 8 (.s 25),
   .mv 9 (.s 26)])
  (.sq (.sq (.rg [.mv 27 (.s 9),
   .bi 28 .neq (.s 27) (.c (.int .u64 0))])
  (.cd (.s 28) (.sq (.rg [.bd 29 [(.int .u64 0), (.int .u64 0)] [],
   .st 2 (.s 4) (.s 29),
   .mv 5 (.c (.int .i64 3))])
  .rt) .sk))
  (.sq (.rg [.mv 30 (.s 8),
   .mv 31 (.s 6),
   .bd 32 [(.int .u64 0), (.int .u64 0)] [(0, 1, (.s 30)), (1, 1, (.s 31))],
   .st 2 (.s 4) (.s 32),
   .mv 5 (.c (.int .i64 0))])
  .rt)))))
def a211 : AF := ⟨c211, [.ca 4 2, .t 5], 2, 33⟩
theorem m211 : mF Tryz.prog gl drD Tryz.f211 a211 = true := by kernel_rfl
theorem s211 {l : List AV} {r : AV} (hl : l.length = 2) (hi : idsL l = []) (h : wpA (SpH Tryz.prog gl) c211 (postA [.ca 4 2, .t 5] r) ⟨initE 0 l, [], []⟩) : Sp Tryz.prog gl 211 l r :=
  @fun_sp Tryz.prog gl drD 211 Tryz.f211 a211 Tryz.func211 m211 (dok _) l r hl hi h
theorem h211 {d : Nat} {I : In} {O : Out} (hl : I.vs.length = 2) (h : wpA (SpH Tryz.prog gl) c211 (postH d [.ca 4 2, .t 5] O) (inSt I)) : SpH Tryz.prog gl 211 d I O :=
  @fun_spH Tryz.prog gl drD 211 Tryz.f211 a211 Tryz.func211 m211 (dok _) d I O hl h
/-- firebell/firebellref01.Minus -/
def c212 : AC :=
 (.sq (.rg [.mv 4 (.c .nils)])
  (.sq (.rg [.bs 9 1 [],
   .mo 5 9])
  (.sq (.rg [.mv 6 (.c (.int .i64 0))])
  (.sq (.sq (.rg [.mv 7 (.c (.int .i64 0))])
  (.bl 0 (.lp (.sq (.sq (.rg [.mv 10 (.s 7),
   .mv 11 (.s 0),
   .ln 12 (.s 11),
   .bi 13 .lss (.s 10) (.s 12)])
  (.cd (.s 13) .sk (.ex 0)))
  (.sq (.bl 1 (.sq (.rg [.mv 16 (.s 0),
   .mv 17 (.s 7),
   .cl 18 201 [(.s 16), (.s 17)],
   .mv 19 (.s 1),
   .mv 20 (.s 7),
   .cl 21 201 [(.s 19), (.s 20)],
   .bi 22 .sub (.s 18) (.s 21),
   .mv 23 (.s 6),
   .bi 24 .sub (.s 22) (.s 23),
   .mv 8 (.s 24)])
  (.sq (.rg [.mv 6 (.c (.int .i64 0))])
  (.sq (.sq (.rg [.mv 25 (.s 8),
   .bi 26 .lss (.s 25) (.c (.int .i64 0))])
  (.cd (.s 26) (.sq (.rg [.mv 27 (.s 8),
   .bi 28 .add (.s 27) (.c (.int .i64 2)),
   .mv 8 (.s 28)])
  (.rg [.mv 6 (.c (.int .i64 1))])) .sk))
  (.rg [.mo 29 5,
   .mv 30 (.s 8),
   .bi 31 .eql (.s 30) (.c (.int .i64 1)),
   .bs 32 1 [(.s 31)],
   .ap 33 1 1 (.s 29) (.s 32),
   .mo 5 33])))))
  (.rg [.mv 14 (.s 7),
   .bi 15 .add (.s 14) (.c (.int .i64 1)),
   .mv 7 (.s 15)]))))))
  (.sq (.rg [.mv 34 (.s 5),
   .mv 4 (.s 34)])
  .rt)))))
def a212 : AF := ⟨c212, [.t 4], 2, 35⟩
theorem m212 : mF Tryz.prog gl drD Tryz.f212 a212 = true := by kernel_rfl
theorem s212 {l : List AV} {r : AV} (hl : l.length = 2) (hi : idsL l = []) (h : wpA (SpH Tryz.prog gl) c212 (postA [.t 4] r) ⟨initE 0 l, [], []⟩) : Sp Tryz.prog gl 212 l r :=
  @fun_sp Tryz.prog gl drD 212 Tryz.f212 a212 Tryz.func212 m212 (dok _) l r hl hi h
theorem h212 {d : Nat} {I : In} {O : Out} (hl : I.vs.length = 2) (h : wpA (SpH Tryz.prog gl) c212 (postH d [.t 4] O) (inSt I)) : SpH Tryz.prog gl 212 d I O :=
  @fun_spH Tryz.prog gl drD 212 Tryz.f212 a212 Tryz.func212 m212 (dok _) d I O hl h
/-- firebell/firebellref02.pad -/
def c213 : AC :=
 (.sq (.rg [.mv 4 (.c .nils)])
  (.sq (.rg [.bs 6 1 [],
   .mv 7 (.s 0),
   .ap 8 1 1 (.s 6) (.s 7),
   .mo 5 8])
  (.sq (.bl 0 (.lp (.sq (.sq (.rg [.mv 9 (.s 5),
   .ln 10 (.s 9),
   .mv 11 (.s 1),
   .bi 12 .lss (.s 10) (.s 11)])
  (.cd (.s 12) .sk (.ex 0)))
  (.bl 1 (.rg [.mo 13 5,
   .bs 14 1 [(.c (.bool false))],
   .ap 15 1 1 (.s 13) (.s 14),
   .mo 5 15])))))
  (.sq (.rg [.mv 16 (.s 5),
   .mv 4 (.s 16)])
  .rt))))
def a213 : AF := ⟨c213, [.t 4], 2, 17⟩
theorem m213 : mF Tryz.prog gl drD Tryz.f213 a213 = true := by kernel_rfl
theorem s213 {l : List AV} {r : AV} (hl : l.length = 2) (hi : idsL l = []) (h : wpA (SpH Tryz.prog gl) c213 (postA [.t 4] r) ⟨initE 0 l, [], []⟩) : Sp Tryz.prog gl 213 l r :=
  @fun_sp Tryz.prog gl drD 213 Tryz.f213 a213 Tryz.func213 m213 (dok _) l r hl hi h
theorem h213 {d : Nat} {I : In} {O : Out} (hl : I.vs.length = 2) (h : wpA (SpH Tryz.prog gl) c213 (postH d [.t 4] O) (inSt I)) : SpH Tryz.prog gl 213 d I O :=
  @fun_spH Tryz.prog gl drD 213 Tryz.f213 a213 Tryz.func213 m213 (dok _) d I O hl h
/-- firebell/firebellref01.Bits -/
def c214 : AC :=
 (.sq (.rg [.bx 1 (.s 0),
   .mv 2 (.c .nils)])
  (.sq (.rg [.bs 6 1 [],
   .mo 3 6])
  (.sq (.sq (.rg [.mv 4 (.c (.int .i64 0))])
  (.bl 0 (.lp (.sq (.sq (.rg [.mv 7 (.s 4),
   .bi 8 .lss (.s 7) (.c (.int .i64 128))])
  (.cd (.s 8) .sk (.ex 0)))
  (.sq (.bl 1 (.sq (.rg [.fa 11 (.s 1) 1,
   .lds 12 (.s 11),
   .mv 5 (.s 12)])
  (.sq (.sq (.rg [.mv 13 (.s 4),
   .bi 14 .geq (.s 13) (.c (.int .i64 64))])
  (.cd (.s 14) (.rg [.fa 15 (.s 1) 0,
   .lds 16 (.s 15),
   .mv 5 (.s 16)]) .sk))
  (.rg [.mo 17 3,
   .mv 18 (.s 5),
   .mv 19 (.s 4),
   .bi 20 .rem (.s 19) (.c (.int .i64 64)),
   .cv 21 .u64 (.s 20),
   .bi 22 .shr (.s 18) (.s 21),
   .bi 23 .rem (.s 22) (.c (.int .u64 2)),
   .bi 24 .eql (.s 23) (.c (.int .u64 1)),
   .bs 25 1 [(.s 24)],
   .ap 26 1 1 (.s 17) (.s 25),
   .mo 3 26]))))
  (.rg [.mv 9 (.s 4),
   .bi 10 .add (.s 9) (.c (.int .i64 1)),
   .mv 4 (.s 10)]))))))
  (.sq (.rg [.mv 27 (.s 3),
   .mv 2 (.s 27)])
  .rt))))
def a214 : AF := ⟨c214, [.t 2], 1, 28⟩
theorem m214 : mF Tryz.prog gl drD Tryz.f214 a214 = true := by kernel_rfl
theorem s214 {l : List AV} {r : AV} (hl : l.length = 1) (hi : idsL l = []) (h : wpA (SpH Tryz.prog gl) c214 (postA [.t 2] r) ⟨initE 0 l, [], []⟩) : Sp Tryz.prog gl 214 l r :=
  @fun_sp Tryz.prog gl drD 214 Tryz.f214 a214 Tryz.func214 m214 (dok _) l r hl hi h
theorem h214 {d : Nat} {I : In} {O : Out} (hl : I.vs.length = 1) (h : wpA (SpH Tryz.prog gl) c214 (postH d [.t 2] O) (inSt I)) : SpH Tryz.prog gl 214 d I O :=
  @fun_spH Tryz.prog gl drD 214 Tryz.f214 a214 Tryz.func214 m214 (dok _) d I O hl h
/-- math/bits.Len64 -/
def c228 : AC :=
 (.sq (.rg [.mv 2 (.c (.int .i64 0))])
  (.sq (.sq (.rg [.mv 3 (.s 0),
   .bi 4 .geq (.s 3) (.c (.int .u64 4294967296))])
  (.cd (.s 4) (.sq (.rg [.mv 5 (.s 0),
   .bi 6 .shr (.s 5) (.c (.int .u64 32)),
   .mv 0 (.s 6)])
  (.rg [.mv 2 (.c (.int .i64 32))])) .sk))
  (.sq (.sq (.rg [.mv 7 (.s 0),
   .bi 8 .geq (.s 7) (.c (.int .u64 65536))])
  (.cd (.s 8) (.sq (.rg [.mv 9 (.s 0),
   .bi 10 .shr (.s 9) (.c (.int .u64 16)),
   .mv 0 (.s 10)])
  (.rg [.mv 11 (.s 2),
   .bi 12 .add (.s 11) (.c (.int .i64 16)),
   .mv 2 (.s 12)])) .sk))
  (.sq (.sq (.rg [.mv 13 (.s 0),
   .bi 14 .geq (.s 13) (.c (.int .u64 256))])
  (.cd (.s 14) (.sq (.rg [.mv 15 (.s 0),
   .bi 16 .shr (.s 15) (.c (.int .u64 8)),
   .mv 0 (.s 16)])
  (.rg [.mv 17 (.s 2),
   .bi 18 .add (.s 17) (.c (.int .i64 8)),
   .mv 2 (.s 18)])) .sk))
  (.sq (.rg [.mv 19 (.s 2),
   .mv 20 (.s 0),
   .cv 21 .u8 (.s 20),
   .ixs 22 (.c (.str [0, 1, 2, 2, 3, 3, 3, 3, 4, 4, 4, 4, 4, 4, 4, 4, 5, 5, 5, 5, 5, 5, 5, 5, 5, 5, 5, 5, 5, 5, 5, 5, 6, 6, 6, 6, 6, 6, 6, 6, 6, 6, 6, 6, 6, 6, 6, 6, 6, 6, 6, 6, 6, 6, 6, 6, 6, 6, 6, 6, 6, 6, 6, 6, 7, 7, 7, 7, 7, 7, 7, 7, 7, 7, 7, 7, 7, 7, 7, 7, 7, 7, 7, 7, 7, 7, 7, 7, 7, 7, 7, 7, 7, 7, 7, 7, 7, 7, 7, 7, 7, 7, 7, 7, 7, 7, 7, 7, 7, 7, 7, 7, 7, 7, 7, 7, 7, 7, 7, 7, 7, 7, 7, 7, 7, 7, 7, 7, 8, 8, 8, 8, 8, 8, 8, 8, 8, 8, 8, 8, 8, 8, 8, 8, 8, 8, 8, 8, 8, 8, 8, 8, 8, 8, 8, 8, 8, 8, 8, 8, 8, 8, 8, 8, 8, 8, 8, 8, 8, 8, 8, 8, 8, 8, 8, 8, 8, 8, 8, 8, 8, 8, 8, 8, 8, 8, 8, 8, 8, 8, 8, 8, 8, 8, 8, 8, 8, 8, 8, 8, 8, 8, 8, 8, 8, 8, 8, 8, 8, 8, 8, 8, 8, 8, 8, 8, 8, 8, 8, 8, 8, 8, 8, 8, 8, 8, 8, 8, 8, 8, 8, 8, 8, 8, 8, 8, 8, 8, 8, 8, 8, 8, 8, 8, 8, 8, 8, 8, 8, 8, 8, 8, 8, 8, 8, 8])) (.s 21),
   .cv 23 .i64 (.s 22),
   .bi 24 .add (.s 19) (.s 23),
   .mv 2 (.s 24)])
  .rt)))))
def a228 : AF := ⟨c228, [.t 2], 1, 25⟩
theorem m228 : mF Tryz.prog gl drD Tryz.f228 a228 = true := by kernel_rfl
theorem s228 {l : List AV} {r : AV} (hl : l.length = 1) (hi : idsL l = []) (h : wpA (SpH Tryz.prog gl) c228 (postA [.t 2] r) ⟨initE 0 l, [], []⟩) : Sp Tryz.prog gl 228 l r :=
  @fun_sp Tryz.prog gl drD 228 Tryz.f228 a228 Tryz.func228 m228 (dok _) l r hl hi h
theorem h228 {d : Nat} {I : In} {O : Out} (hl : I.vs.length = 1) (h : wpA (SpH Tryz.prog gl) c228 (postH d [.t 2] O) (inSt I)) : SpH Tryz.prog gl 228 d I O :=
  @fun_spH Tryz.prog gl drD 228 Tryz.f228 a228 Tryz.func228 m228 (dok _) d I O hl h
/-- math/bits.LeadingZeros64 -/
def c229 : AC :=
 (.sq (.rg [.mv 2 (.c (.int .i64 0))])
  (.sq (.rg [.mv 3 (.s 0),
   .cl 4 228 [(.s 3)],
   .bi 5 .sub (.c (.int .i64 64)) (.s 4),
   .mv 2 (.s 5)])
  .rt))
def a229 : AF := ⟨c229, [.t 2], 1, 6⟩
theorem m229 : mF Tryz.prog gl drD Tryz.f229 a229 = true := by kernel_rfl
theorem s229 {l : List AV} {r : AV} (hl : l.length = 1) (hi : idsL l = []) (h : wpA (SpH Tryz.prog gl) c229 (postA [.t 2] r) ⟨initE 0 l, [], []⟩) : Sp Tryz.prog gl 229 l r :=
  @fun_sp Tryz.prog gl drD 229 Tryz.f229 a229 Tryz.func229 m229 (dok _) l r hl hi h
theorem h229 {d : Nat} {I : In} {O : Out} (hl : I.vs.length = 1) (h : wpA (SpH Tryz.prog gl) c229 (postH d [.t 2] O) (inSt I)) : SpH Tryz.prog gl 229 d I O :=
  @fun_spH Tryz.prog gl drD 229 Tryz.f229 a229 Tryz.func229 m229 (dok _) d I O hl h
/-- cmp.isNaN[uint64] -/
def c230 : AC :=
 (.sq (.rg [.mv 2 (.c (.bool false))])
  (.sq (.rg [.mv 3 (.s 0),
   .mv 4 (.s 0),
   .bi 5 .neq (.s 3) (.s 4),
   .mv 2 (.s 5)])
  .rt))
def a230 : AF := ⟨c230, [.t 2], 1, 6⟩
theorem m230 : mF Tryz.prog gl drD Tryz.f230 a230 = true := by kernel_rfl
theorem s230 {l : List AV} {r : AV} (hl : l.length = 1) (hi : idsL l = []) (h : wpA (SpH Tryz.prog gl) c230 (postA [.t 2] r) ⟨initE 0 l, [], []⟩) : Sp Tryz.prog gl 230 l r :=
  @fun_sp Tryz.prog gl drD 230 Tryz.f230 a230 Tryz.func230 m230 (dok _) l r hl hi h
theorem h230 {d : Nat} {I : In} {O : Out} (hl : I.vs.length = 1) (h : wpA (SpH Tryz.prog gl) c230 (postH d [.t 2] O) (inSt I)) : SpH Tryz.prog gl 230 d I O :=
  @fun_spH Tryz.prog gl drD 230 Tryz.f230 a230 Tryz.func230 m230 (dok _) d I O hl h
/-- firebell/exact.Less -/
def c239 : AC :=
 (.sq (.rg [.bx 2 (.s 0),
   .bx 3 (.s 1),
   .al 4 [(.int .u64 0), (.int .u64 0)],
   .mv 5 (.c (.int .i64 0))])
  (.sq (.rg [.fa 11 (.s 2) 1,
   .lds 12 (.s 11),
   .fa 13 (.s 3) 1,
   .lds 14 (.s 13),
   .cl 15 255 [(.s 12), (.s 14), (.c (.int .u64 0))],
   .mv 10 (.s 15),
   .exq 16 (.s 10) 0,
   .exq 17 (.s 10) 1,
   .mv 6 (.s 16),
   .mv 7 (.s 17)])
  (.sq (.rg [.fa 19 (.s 2) 0,
   .lds 20 (.s 19),
   .fa 21 (.s 3) 0,
   .lds 22 (.s 21),
   .mv 23 (.s 7),
   .cl 24 255 [(.s 20), (.s 22), (.s 23)],
   .mv 18 (.s 24),
   .exq 25 (.s 18) 0,
   .exq 26 (.s 18) 1,
   .mv 8 (.s 25),
   .mv 9 (.s 26)])
  (.sq (.sq (.rg [.mv 27 (.s 9),
   .bi 28 .neq (.s 27) (.c (.int .u64 0))])
  (.cd (.s 28) (.sq (.rg [.bd 29 [(.int .u64 0), (.int .u64 0)] [],
   .st 2 (.s 4) (.s 29),
   .mv 5 (.c (.int .i64 3))])
  .rt) .sk))
  (.sq (.rg [.mv 30 (.s 8),
   .mv 31 (.s 6),
   .bd 32 [(.int .u64 0), (.int .u64 0)] [(0, 1, (.s 30)), (1, 1, (.s 31))],
   .st 2 (.s 4) (.s 32),
   .mv 5 (.c (.int .i64 0))])
  .rt)))))
def a239 : AF := ⟨c239, [.ca 4 2, .t 5], 2, 33⟩
theorem m239 : mF Tryz.prog gl drD Tryz.f239 a239 = true := by kernel_rfl
theorem s239 {l : List AV} {r : AV} (hl : l.length = 2) (hi : idsL l = []) (h : wpA (SpH Tryz.prog gl) c239 (postA [.ca 4 2, .t 5] r) ⟨initE 0 l, [], []⟩) : Sp Tryz.prog gl 239 l r :=
  @fun_sp Tryz.prog gl drD 239 Tryz.f239 a239 Tryz.func239 m239 (dok _) l r hl hi h
theorem h239 {d : Nat} {I : In} {O : Out} (hl : I.vs.length = 2) (h : wpA (SpH Tryz.prog gl) c239 (postH d [.ca 4 2, .t 5] O) (inSt I)) : SpH Tryz.prog gl 239 d I O :=
  @fun_spH Tryz.prog gl drD 239 Tryz.f239 a239 Tryz.func239 m239 (dok _) d I O hl h
/-- firebell/signed.sized -/
def c240 : AC :=
 (.sq (.rg [.bx 3 (.s 1),
   .al 4 [(.bool false), (.int .u64 0), (.int .u64 0)]])
  (.sq (.rg [.mv 5 (.s 0),
   .lda 6 2 (.s 3),
   .bd 7 [(.bool false), (.int .u64 0), (.int .u64 0)] [(0, 1, (.s 5)), (1, 2, (.s 6))],
   .cl 8 163 [(.s 7)],
   .st 3 (.s 4) (.s 8)])
  .rt))
def a240 : AF := ⟨c240, [.ca 4 3], 2, 9⟩
theorem m240 : mF Tryz.prog gl drD Tryz.f240 a240 = true := by kernel_rfl
theorem s240 {l : List AV} {r : AV} (hl : l.length = 2) (hi : idsL l = []) (h : wpA (SpH Tryz.prog gl) c240 (postA [.ca 4 3] r) ⟨initE 0 l, [], []⟩) : Sp Tryz.prog gl 240 l r :=
  @fun_sp Tryz.prog gl drD 240 Tryz.f240 a240 Tryz.func240 m240 (dok _) l r hl hi h
theorem h240 {d : Nat} {I : In} {O : Out} (hl : I.vs.length = 2) (h : wpA (SpH Tryz.prog gl) c240 (postH d [.ca 4 3] O) (inSt I)) : SpH Tryz.prog gl 240 d I O :=
  @fun_spH Tryz.prog gl drD 240 Tryz.f240 a240 Tryz.func240 m240 (dok _) d I O hl h
end Go.Ai
