/- YtbepaingfmlpeaaCode: part of the abstract interpreter library (values, rules, soundness against the model) or of what a function of the seat computes. Conditions: as each theorem says. -/
import Derived.Test.YtbepaingfmlpeaaAiUse
import Derived.Test.YtbepaingfmlpeaaAiExt
import Derived.Test.YtbepaingfmlpeaaAiFunH
import Derived.Test.YtbepaingfmlpeaaProg
namespace Go.Ai
open Go.Proofs
theorem mix : Try.prog.follows .mixedOrders = true := by kernel_rfl
def gl : List (Nat × List Value) := []
theorem dok (N : Nat) : DrawsOk Try.prog gl N drD := draws_ok mix
/-- gosem.cut.init -/
def c2 : AC :=
 (.rg [.cl 0 1 []])
def a2 : AF := ⟨c2, [], 0, 1⟩
theorem m2 : mF Try.prog gl drD Try.f2 a2 = true := by kernel_rfl
theorem s2 {l : List AV} {r : AV} (hl : l.length = 0) (hi : idsL l = []) (h : wpA (SpH Try.prog gl) c2 (postA [] r) ⟨initE 0 l, [], []⟩) : Sp Try.prog gl 2 l r :=
  @fun_sp Try.prog gl drD 2 Try.f2 a2 Try.func2 m2 (dok _) l r hl hi h
theorem h2 {d : Nat} {I : In} {O : Out} (hl : I.vs.length = 0) (h : wpA (SpH Try.prog gl) c2 (postH d [] O) (inSt I)) : SpH Try.prog gl 2 d I O :=
  @fun_spH Try.prog gl drD 2 Try.f2 a2 Try.func2 m2 (dok _) d I O hl h
/-- firebell/firebelllaw30.BundleAgain -/
def c3 : AC :=
 (.sq (.rg [.mv 2 (.c (.bool false))])
  (.sq (.sq (.rg [.cl 5 12 [],
   .un 6 .not (.s 5)])
  (.cd (.s 6) (.sq (.rg [.mv 2 (.c (.bool false))])
  .rt) .sk))
  (.sq (.sq (.rg [.mv 7 (.s 0),
   .cl 8 13 [(.s 7)]])
  (.cd (.s 8) (.sq (.rg [.mv 2 (.c (.bool true))])
  .rt) .sk))
  (.sq (.rg [.mv 9 (.s 0),
   .cl 10 14 [(.s 9)],
   .mv 3 (.s 10)])
  (.sq (.rg [.mv 11 (.s 3),
   .cl 12 15 [(.s 11)],
   .cl 13 14 [(.s 12)],
   .mv 4 (.s 13)])
  (.sq (.rg [.mv 14 (.s 3),
   .mv 15 (.s 4),
   .cl 16 16 [(.s 14), (.s 15)],
   .mv 17 (.s 16),
   .gd 17 true 18 (.mv 18 (.s 3)),
   .gd 17 true 19 (.cl 19 15 [(.s 18)]),
   .gd 17 true 20 (.ln 20 (.s 19)),
   .gd 17 true 21 (.mv 21 (.s 0)),
   .gd 17 true 22 (.ln 22 (.s 21)),
   .gd 17 true 23 (.bi 23 .eql (.s 20) (.s 22)),
   .pk 24 (.s 17) (.s 23) (.c (.bool false)),
   .mv 2 (.s 24)])
  .rt))))))
def a3 : AF := ⟨c3, [.t 2], 1, 25⟩
theorem m3 : mF Try.prog gl drD Try.f3 a3 = true := by kernel_rfl
theorem s3 {l : List AV} {r : AV} (hl : l.length = 1) (hi : idsL l = []) (h : wpA (SpH Try.prog gl) c3 (postA [.t 2] r) ⟨initE 0 l, [], []⟩) : Sp Try.prog gl 3 l r :=
  @fun_sp Try.prog gl drD 3 Try.f3 a3 Try.func3 m3 (dok _) l r hl hi h
theorem h3 {d : Nat} {I : In} {O : Out} (hl : I.vs.length = 1) (h : wpA (SpH Try.prog gl) c3 (postH d [.t 2] O) (inSt I)) : SpH Try.prog gl 3 d I O :=
  @fun_spH Try.prog gl drD 3 Try.f3 a3 Try.func3 m3 (dok _) d I O hl h
/-- firebell/firebelllaw30.BundleGroups -/
def c4 : AC :=
 (.sq (.rg [.mv 2 (.c (.bool false))])
  (.sq (.sq (.rg [.cl 11 12 [],
   .un 12 .not (.s 11)])
  (.cd (.s 12) (.sq (.rg [.mv 2 (.c (.bool false))])
  .rt) .sk))
  (.sq (.sq (.rg [.mv 13 (.s 0),
   .cl 14 13 [(.s 13)]])
  (.cd (.s 14) (.sq (.rg [.mv 2 (.c (.bool true))])
  .rt) .sk))
  (.sq (.rg [.mv 15 (.s 0),
   .cl 16 14 [(.s 15)],
   .mv 3 (.s 16)])
  (.sq (.sq (.rg [.mv 17 (.s 3),
   .mv 18 (.s 0),
   .cl 19 17 [(.s 18)],
   .cl 20 16 [(.s 17), (.s 19)],
   .un 21 .not (.s 20)])
  (.cd (.s 21) (.sq (.rg [.mv 2 (.c (.bool false))])
  .rt) .sk))
  (.sq (.rg [.mv 22 (.s 3),
   .cl 23 15 [(.s 22)],
   .mv 4 (.s 23)])
  (.sq (.sq (.rg [.mv 24 (.s 4),
   .ln 25 (.s 24),
   .mv 26 (.s 0),
   .ln 27 (.s 26),
   .bi 28 .neq (.s 25) (.s 27)])
  (.cd (.s 28) (.sq (.rg [.mv 2 (.c (.bool false))])
  .rt) .sk))
  (.sq (.rg [.mv 5 (.c (.bool true))])
  (.sq (.sq (.rg [.mv 6 (.c (.int .i64 0))])
  (.bl 0 (.lp (.sq (.sq (.rg [.mv 29 (.s 6),
   .mv 30 (.s 0),
   .ln 31 (.s 30),
   .bi 32 .lss (.s 29) (.s 31)])
  (.cd (.s 32) .sk (.ex 0)))
  (.sq (.bl 1 (.sq (.rg [.mv 7 (.c (.int .i64 0)),
   .mv 8 (.c (.int .i64 0))])
  (.sq (.sq (.rg [.mv 9 (.c (.int .i64 0))])
  (.bl 2 (.lp (.sq (.sq (.rg [.mv 35 (.s 9),
   .mv 36 (.s 0),
   .ln 37 (.s 36),
   .bi 38 .lss (.s 35) (.s 37)])
  (.cd (.s 38) .sk (.ex 2)))
  (.sq (.bl 3 (.sq (.sq (.rd [[], [], [], [], [], [], [], [], []] [.mv 41 (.s 0),
   .mv 42 (.s 9),
   .ia 43 5 (.s 41) (.s 42),
   .lda 44 5 (.s 43),
   .mv 45 (.s 0),
   .mv 46 (.s 6),
   .ia 47 5 (.s 45) (.s 46),
   .lda 48 5 (.s 47),
   .ea 49 false [.s, .s, .b, .i, .b] (.s 44) (.s 48)])
  (.cd (.s 49) (.rg [.mv 50 (.s 7),
   .bi 51 .add (.s 50) (.c (.int .i64 1)),
   .mv 7 (.s 51)]) .sk))
  (.sq (.rd [[], [], [], [], [], [], [], [], []] [.mv 52 (.s 4),
   .mv 53 (.s 9),
   .ia 54 5 (.s 52) (.s 53),
   .lda 55 5 (.s 54),
   .mv 56 (.s 0),
   .mv 57 (.s 6),
   .ia 58 5 (.s 56) (.s 57),
   .lda 59 5 (.s 58),
   .ea 60 false [.s, .s, .b, .i, .b] (.s 55) (.s 59)])
  (.cd (.s 60) (.rg [.mv 61 (.s 8),
   .bi 62 .add (.s 61) (.c (.int .i64 1)),
   .mv 8 (.s 62)]) .sk))))
  (.rg [.mv 39 (.s 9),
   .bi 40 .add (.s 39) (.c (.int .i64 1)),
   .mv 9 (.s 40)]))))))
  (.sq (.sq (.rg [.mv 63 (.s 7),
   .mv 64 (.s 8),
   .bi 65 .neq (.s 63) (.s 64)])
  (.cd (.s 65) (.sq (.rg [.mv 2 (.c (.bool false))])
  .rt) .sk))
  (.rg [.mv 66 (.s 5),
   .mv 67 (.s 66),
   .gd 67 true 68 (.mv 68 (.s 7)),
   .gd 67 true 69 (.bi 69 .eql (.s 68) (.c (.int .i64 1))),
   .pk 70 (.s 67) (.s 69) (.c (.bool false)),
   .mv 71 (.s 70),
   .gd 71 true 72 (.mv 72 (.s 0)),
   .gd 71 true 73 (.mv 73 (.s 6)),
   .gd 71 true 74 (.ia 74 5 (.s 72) (.s 73)),
   .gd 71 true 75 (.lda 75 5 (.s 74)),
   .gd 71 true 76 (.cl 76 18 [(.s 75)]),
   .pk 77 (.s 71) (.s 76) (.c (.bool false)),
   .mv 5 (.s 77)])))))
  (.rg [.mv 33 (.s 6),
   .bi 34 .add (.s 33) (.c (.int .i64 1)),
   .mv 6 (.s 34)]))))))
  (.sq (.sq (.rg [.mv 10 (.c (.int .i64 0))])
  (.bl 4 (.lp (.sq (.sq (.rg [.mv 78 (.s 10),
   .mv 79 (.s 3),
   .ln 80 (.s 79),
   .bi 81 .lss (.s 78) (.s 80)])
  (.cd (.s 81) .sk (.ex 4)))
  (.sq (.bl 5 (.sq (.rg [.mv 84 (.s 5),
   .mv 85 (.s 84),
   .gd 85 true 86 (.mv 86 (.s 3)),
   .gd 85 true 87 (.mv 87 (.s 10)),
   .gd 85 true 88 (.ia 88 3 (.s 86) (.s 87)),
   .gd 85 true 89 (.lda 89 3 (.s 88)),
   .gd 85 true 90 (.cl 90 19 [(.s 89)]),
   .gd 85 true 91 (.un 91 .not (.s 90)),
   .pk 92 (.s 85) (.s 91) (.c (.bool false))])
  (.cd (.s 92) (.sq (.rg [.mv 2 (.c (.bool false))])
  .rt) .sk)))
  (.rg [.mv 82 (.s 10),
   .bi 83 .add (.s 82) (.c (.int .i64 1)),
   .mv 10 (.s 83)]))))))
  (.sq (.rg [.mv 2 (.c (.bool true))])
  .rt)))))))))))
def a4 : AF := ⟨c4, [.t 2], 1, 93⟩
theorem m4 : mF Try.prog gl drD Try.f4 a4 = true := by kernel_rfl
theorem s4 {l : List AV} {r : AV} (hl : l.length = 1) (hi : idsL l = []) (h : wpA (SpH Try.prog gl) c4 (postA [.t 2] r) ⟨initE 0 l, [], []⟩) : Sp Try.prog gl 4 l r :=
  @fun_sp Try.prog gl drD 4 Try.f4 a4 Try.func4 m4 (dok _) l r hl hi h
theorem h4 {d : Nat} {I : In} {O : Out} (hl : I.vs.length = 1) (h : wpA (SpH Try.prog gl) c4 (postH d [.t 2] O) (inSt I)) : SpH Try.prog gl 4 d I O :=
  @fun_spH Try.prog gl drD 4 Try.f4 a4 Try.func4 m4 (dok _) d I O hl h
/-- firebell/firebelllaw21.BurnHolds -/
def c5 : AC :=
 (.sq (.rg [.bx 5 (.s 2),
   .mv 6 (.c (.bool false))])
  (.sq (.sq (.rg [.cl 11 20 [],
   .un 12 .not (.s 11)])
  (.cd (.s 12) (.sq (.rg [.mv 6 (.c (.bool false))])
  .rt) .sk))
  (.sq (.rg [.mv 14 (.s 0),
   .mv 15 (.s 1),
   .lda 16 2 (.s 5),
   .cl 17 21 [(.s 14), (.s 15), (.s 16)],
   .mv 13 (.s 17),
   .exq 18 (.s 13) 0,
   .exq 19 (.s 13) 1,
   .mv 7 (.s 18),
   .mv 8 (.s 19)])
  (.sq (.rg [.mv 21 (.s 0),
   .mv 22 (.s 1),
   .lda 23 2 (.s 5),
   .cl 24 22 [(.s 21), (.s 22), (.s 23)],
   .mv 20 (.s 24),
   .exq 25 (.s 20) 0,
   .exq 26 (.s 20) 1,
   .mv 9 (.s 25),
   .mv 10 (.s 26)])
  (.sq (.rg [.mv 27 (.s 7),
   .mv 28 (.s 9),
   .bb 29 false (.s 27) (.s 28),
   .mv 30 (.s 29),
   .gd 30 true 31 (.mv 31 (.s 8)),
   .gd 30 true 32 (.mv 32 (.s 10)),
   .gd 30 true 33 (.bi 33 .eql (.s 31) (.s 32)),
   .pk 34 (.s 30) (.s 33) (.c (.bool false)),
   .mv 35 (.s 34),
   .gd 35 true 36 (.fa 36 (.s 5) 1),
   .gd 35 true 37 (.lds 37 (.s 36)),
   .gd 35 true 38 (.bi 38 .gtr (.s 37) (.c (.int .u64 0))),
   .gd 35 true 39 (.mv 39 (.s 38)),
   .gd 39 false 40 (.mv 40 (.s 7)),
   .gd 39 false 41 (.un 41 .not (.s 40)),
   .gd 35 true 42 (.pk 42 (.s 39) (.c (.bool true)) (.s 41)),
   .pk 43 (.s 35) (.s 42) (.c (.bool false)),
   .mv 6 (.s 43)])
  .rt)))))
def a5 : AF := ⟨c5, [.t 6], 3, 44⟩
theorem m5 : mF Try.prog gl drD Try.f5 a5 = true := by kernel_rfl
theorem s5 {l : List AV} {r : AV} (hl : l.length = 3) (hi : idsL l = []) (h : wpA (SpH Try.prog gl) c5 (postA [.t 6] r) ⟨initE 0 l, [], []⟩) : Sp Try.prog gl 5 l r :=
  @fun_sp Try.prog gl drD 5 Try.f5 a5 Try.func5 m5 (dok _) l r hl hi h
theorem h5 {d : Nat} {I : In} {O : Out} (hl : I.vs.length = 3) (h : wpA (SpH Try.prog gl) c5 (postH d [.t 6] O) (inSt I)) : SpH Try.prog gl 5 d I O :=
  @fun_spH Try.prog gl drD 5 Try.f5 a5 Try.func5 m5 (dok _) d I O hl h
/-- firebell/firebelllaw21.BurnRates -/
def c6 : AC :=
 (.sq (.rg [.bx 5 (.s 2),
   .mv 6 (.c (.bool false))])
  (.sq (.sq (.rg [.cl 13 20 [],
   .un 14 .not (.s 13)])
  (.cd (.s 14) (.sq (.rg [.mv 6 (.c (.bool false))])
  .rt) .sk))
  (.sq (.rg [.mv 16 (.s 0),
   .lda 17 2 (.s 5),
   .cl 18 23 [(.s 16), (.s 17)],
   .mv 15 (.s 18),
   .exq 19 (.s 15) 0,
   .exq 20 (.s 15) 1,
   .mv 7 (.s 19),
   .mv 8 (.s 20)])
  (.sq (.rg [.mv 22 (.s 0),
   .lda 23 2 (.s 5),
   .cl 24 24 [(.s 22), (.s 23)],
   .mv 21 (.s 24),
   .exq 25 (.s 21) 0,
   .exq 26 (.s 21) 1,
   .mv 9 (.s 25),
   .mv 10 (.s 26)])
  (.sq (.sq (.rg [.mv 27 (.s 7),
   .mv 28 (.s 9),
   .bi 29 .neq (.s 27) (.s 28),
   .mv 30 (.s 29),
   .gd 30 false 31 (.mv 31 (.s 8)),
   .gd 30 false 32 (.mv 32 (.s 10)),
   .gd 30 false 33 (.bi 33 .neq (.s 31) (.s 32)),
   .pk 34 (.s 30) (.c (.bool true)) (.s 33)])
  (.cd (.s 34) (.sq (.rg [.mv 6 (.c (.bool false))])
  .rt) .sk))
  (.sq (.rg [.mv 36 (.s 0),
   .mv 37 (.s 1),
   .lda 38 2 (.s 5),
   .cl 39 21 [(.s 36), (.s 37), (.s 38)],
   .mv 35 (.s 39),
   .exq 40 (.s 35) 0,
   .exq 41 (.s 35) 1,
   .mv 11 (.s 40),
   .mv 12 (.s 41)])
  (.sq (.sq (.rg [.mv 42 (.s 8),
   .bi 43 .neq (.s 42) (.c (.int .i64 0)),
   .mv 44 (.s 43),
   .gd 44 false 45 (.mv 45 (.s 12)),
   .gd 44 false 46 (.bi 46 .neq (.s 45) (.c (.int .i64 0))),
   .pk 47 (.s 44) (.c (.bool true)) (.s 46),
   .mv 48 (.s 47),
   .gd 48 false 49 (.fa 49 (.s 5) 1),
   .gd 48 false 50 (.lds 50 (.s 49)),
   .gd 48 false 51 (.bi 51 .eql (.s 50) (.c (.int .u64 0))),
   .pk 52 (.s 48) (.c (.bool true)) (.s 51)])
  (.cd (.s 52) (.sq (.rg [.mv 53 (.s 11),
   .un 54 .not (.s 53),
   .mv 55 (.s 54),
   .gd 55 false 56 (.mv 56 (.s 0)),
   .gd 55 false 57 (.bi 57 .eql (.s 56) (.c (.int .u32 1000000))),
   .pk 58 (.s 55) (.c (.bool true)) (.s 57),
   .mv 6 (.s 58)])
  .rt) .sk))
  (.sq (.rg [.mv 59 (.s 11),
   .un 60 .not (.s 59),
   .mv 61 (.s 60),
   .gd 61 false 62 (.mv 62 (.s 7)),
   .gd 61 false 63 (.mv 63 (.s 1)),
   .gd 61 false 64 (.bi 64 .geq (.s 62) (.s 63)),
   .pk 65 (.s 61) (.c (.bool true)) (.s 64),
   .mv 66 (.s 65),
   .gd 66 true 67 (.mv 67 (.s 7)),
   .gd 66 true 68 (.mv 68 (.s 1)),
   .gd 66 true 69 (.bi 69 .leq (.s 67) (.s 68)),
   .gd 66 true 70 (.mv 70 (.s 69)),
   .gd 70 false 71 (.mv 71 (.s 11)),
   .gd 66 true 72 (.pk 72 (.s 70) (.c (.bool true)) (.s 71)),
   .pk 73 (.s 66) (.s 72) (.c (.bool false)),
   .mv 6 (.s 73)])
  .rt))))))))
def a6 : AF := ⟨c6, [.t 6], 3, 74⟩
theorem m6 : mF Try.prog gl drD Try.f6 a6 = true := by kernel_rfl
theorem s6 {l : List AV} {r : AV} (hl : l.length = 3) (hi : idsL l = []) (h : wpA (SpH Try.prog gl) c6 (postA [.t 6] r) ⟨initE 0 l, [], []⟩) : Sp Try.prog gl 6 l r :=
  @fun_sp Try.prog gl drD 6 Try.f6 a6 Try.func6 m6 (dok _) l r hl hi h
theorem h6 {d : Nat} {I : In} {O : Out} (hl : I.vs.length = 3) (h : wpA (SpH Try.prog gl) c6 (postH d [.t 6] O) (inSt I)) : SpH Try.prog gl 6 d I O :=
  @fun_spH Try.prog gl drD 6 Try.f6 a6 Try.func6 m6 (dok _) d I O hl h
/-- firebell/firebelllaw21.BurnScales -/
def c7 : AC :=
 (.sq (.rg [.bx 7 (.s 2),
   .mv 10 (.c (.bool false))])
  (.sq (.sq (.rg [.cl 22 20 [],
   .un 23 .not (.s 22)])
  (.cd (.s 23) (.sq (.rg [.mv 10 (.c (.bool false))])
  .rt) .sk))
  (.sq (.sq (.rg [.fa 24 (.s 7) 1,
   .lds 25 (.s 24),
   .bi 26 .geq (.s 25) (.c (.int .u64 1099511627776)),
   .mv 27 (.s 26),
   .gd 27 false 28 (.fa 28 (.s 7) 0),
   .gd 27 false 29 (.lds 29 (.s 28)),
   .gd 27 false 30 (.fa 30 (.s 7) 1),
   .gd 27 false 31 (.lds 31 (.s 30)),
   .gd 27 false 32 (.bi 32 .gtr (.s 29) (.s 31)),
   .pk 33 (.s 27) (.c (.bool true)) (.s 32)])
  (.cd (.s 33) (.sq (.rg [.mv 10 (.c (.bool true))])
  .rt) .sk))
  (.sq (.rg [.mv 34 (.s 3),
   .bi 35 .rem (.s 34) (.c (.int .u16 1000)),
   .cv 36 .u64 (.s 35),
   .bi 37 .add (.s 36) (.c (.int .u64 1)),
   .mv 11 (.s 37)])
  (.sq (.rg [.mv 39 (.s 0),
   .mv 40 (.s 1),
   .lda 41 2 (.s 7),
   .cl 42 21 [(.s 39), (.s 40), (.s 41)],
   .mv 38 (.s 42),
   .exq 43 (.s 38) 0,
   .exq 44 (.s 38) 1,
   .mv 12 (.s 43),
   .mv 13 (.s 44)])
  (.sq (.rg [.mv 46 (.s 0),
   .mv 47 (.s 1),
   .mv 48 (.s 11),
   .fa 49 (.s 7) 0,
   .lds 50 (.s 49),
   .bi 51 .mul (.s 48) (.s 50),
   .mv 52 (.s 11),
   .fa 53 (.s 7) 1,
   .lds 54 (.s 53),
   .bi 55 .mul (.s 52) (.s 54),
   .bd 56 [(.int .u64 0), (.int .u64 0)] [(0, 1, (.s 51)), (1, 1, (.s 55))],
   .cl 57 21 [(.s 46), (.s 47), (.s 56)],
   .mv 45 (.s 57),
   .exq 58 (.s 45) 0,
   .exq 59 (.s 45) 1,
   .mv 14 (.s 58),
   .mv 15 (.s 59)])
  (.sq (.rd [[], [], [], [], [], [], [], [], [], [], [], [], [], [], [], [], [], [], []] [.mv 61 (.s 0),
   .mv 62 (.s 1),
   .fa 63 (.s 7) 0,
   .lds 64 (.s 63),
   .mv 65 (.s 4),
   .fa 66 (.s 7) 0,
   .lds 67 (.s 66),
   .bi 68 .add (.s 67) (.c (.int .u64 1)),
   .bi 69 .rem (.s 65) (.s 68),
   .bi 70 .sub (.s 64) (.s 69),
   .fa 71 (.s 7) 1,
   .lds 72 (.s 71),
   .bd 73 [(.int .u64 0), (.int .u64 0)] [(0, 1, (.s 70)), (1, 1, (.s 72))],
   .cl 74 21 [(.s 61), (.s 62), (.s 73)],
   .mv 60 (.s 74),
   .exq 75 (.s 60) 0,
   .exq 76 (.s 60) 1,
   .mv 16 (.s 75),
   .mv 17 (.s 76)])
  (.sq (.rg [.mv 78 (.s 0),
   .lda 79 2 (.s 7),
   .cl 80 23 [(.s 78), (.s 79)],
   .mv 77 (.s 80),
   .exq 81 (.s 77) 0,
   .exq 82 (.s 77) 1,
   .mv 18 (.s 81),
   .mv 19 (.s 82)])
  (.sq (.rg [.mv 84 (.s 0),
   .mv 85 (.s 11),
   .fa 86 (.s 7) 0,
   .lds 87 (.s 86),
   .bi 88 .mul (.s 85) (.s 87),
   .mv 89 (.s 11),
   .fa 90 (.s 7) 1,
   .lds 91 (.s 90),
   .bi 92 .mul (.s 89) (.s 91),
   .bd 93 [(.int .u64 0), (.int .u64 0)] [(0, 1, (.s 88)), (1, 1, (.s 92))],
   .cl 94 23 [(.s 84), (.s 93)],
   .mv 83 (.s 94),
   .exq 95 (.s 83) 0,
   .exq 96 (.s 83) 1,
   .mv 20 (.s 95),
   .mv 21 (.s 96)])
  (.sq (.rg [.mv 97 (.s 12),
   .mv 98 (.s 14),
   .bb 99 false (.s 97) (.s 98),
   .mv 100 (.s 99),
   .gd 100 true 101 (.mv 101 (.s 13)),
   .gd 100 true 102 (.mv 102 (.s 15)),
   .gd 100 true 103 (.bi 103 .eql (.s 101) (.s 102)),
   .pk 104 (.s 100) (.s 103) (.c (.bool false)),
   .mv 105 (.s 104),
   .gd 105 true 106 (.mv 106 (.s 13)),
   .gd 105 true 107 (.mv 107 (.s 17)),
   .gd 105 true 108 (.bi 108 .eql (.s 106) (.s 107)),
   .pk 109 (.s 105) (.s 108) (.c (.bool false)),
   .mv 110 (.s 109),
   .gd 110 true 111 (.mv 111 (.s 12)),
   .gd 110 true 112 (.un 112 .not (.s 111)),
   .gd 110 true 113 (.mv 113 (.s 112)),
   .gd 113 false 114 (.mv 114 (.s 16)),
   .gd 110 true 115 (.pk 115 (.s 113) (.c (.bool true)) (.s 114)),
   .pk 116 (.s 110) (.s 115) (.c (.bool false)),
   .mv 117 (.s 116),
   .gd 117 true 118 (.mv 118 (.s 18)),
   .gd 117 true 119 (.mv 119 (.s 20)),
   .gd 117 true 120 (.bi 120 .eql (.s 118) (.s 119)),
   .pk 121 (.s 117) (.s 120) (.c (.bool false)),
   .mv 122 (.s 121),
   .gd 122 true 123 (.mv 123 (.s 19)),
   .gd 122 true 124 (.mv 124 (.s 21)),
   .gd 122 true 125 (.bi 125 .eql (.s 123) (.s 124)),
   .pk 126 (.s 122) (.s 125) (.c (.bool false)),
   .mv 10 (.s 126)])
  .rt))))))))))
def a7 : AF := ⟨c7, [.t 10], 5, 127⟩
theorem m7 : mF Try.prog gl drD Try.f7 a7 = true := by kernel_rfl
theorem s7 {l : List AV} {r : AV} (hl : l.length = 5) (hi : idsL l = []) (h : wpA (SpH Try.prog gl) c7 (postA [.t 10] r) ⟨initE 0 l, [], []⟩) : Sp Try.prog gl 7 l r :=
  @fun_sp Try.prog gl drD 7 Try.f7 a7 Try.func7 m7 (dok _) l r hl hi h
theorem h7 {d : Nat} {I : In} {O : Out} (hl : I.vs.length = 5) (h : wpA (SpH Try.prog gl) c7 (postH d [.t 10] O) (inSt I)) : SpH Try.prog gl 7 d I O :=
  @fun_spH Try.prog gl drD 7 Try.f7 a7 Try.func7 m7 (dok _) d I O hl h
/-- firebell/firebelllaw23.LedgerLeft -/
def c8 : AC :=
 (.sq (.rg [.bx 3 (.s 1),
   .mv 4 (.c (.bool false))])
  (.sq (.sq (.rg [.cl 14 25 [],
   .un 15 .not (.s 14)])
  (.cd (.s 15) (.sq (.rg [.mv 4 (.c (.bool false))])
  .rt) .sk))
  (.sq (.rg [.mv 17 (.s 0),
   .lda 18 2 (.s 3),
   .cl 19 26 [(.s 17), (.s 18)],
   .mv 16 (.s 19),
   .exq 20 (.s 16) 0,
   .exq 21 (.s 16) 1,
   .al 5 [(.bool false), (.int .u64 0), (.int .u64 0)],
   .st 3 (.s 5) (.s 20),
   .mv 6 (.s 21)])
  (.sq (.rg [.mv 23 (.s 0),
   .lda 24 2 (.s 3),
   .cl 25 27 [(.s 23), (.s 24)],
   .mv 22 (.s 25),
   .exq 26 (.s 22) 0,
   .exq 27 (.s 22) 1,
   .al 7 [(.bool false), (.int .u64 0), (.int .u64 0)],
   .st 3 (.s 7) (.s 26),
   .mv 8 (.s 27)])
  (.sq (.rg [.mv 29 (.s 0),
   .lda 30 2 (.s 3),
   .cl 31 28 [(.s 29), (.s 30)],
   .mv 28 (.s 31),
   .exq 32 (.s 28) 0,
   .exq 33 (.s 28) 1,
   .mv 9 (.s 32),
   .mv 10 (.s 33)])
  (.sq (.rg [.mv 35 (.s 0),
   .lda 36 2 (.s 3),
   .cl 37 29 [(.s 35), (.s 36)],
   .mv 34 (.s 37),
   .exq 38 (.s 34) 0,
   .exq 39 (.s 34) 1,
   .mv 11 (.s 38),
   .mv 12 (.s 39)])
  (.sq (.sq (.rg [.lda 40 3 (.s 5),
   .lda 41 3 (.s 7),
   .ea 42 true [.b, .i, .i] (.s 40) (.s 41),
   .mv 43 (.s 42),
   .gd 43 false 44 (.mv 44 (.s 6)),
   .gd 43 false 45 (.mv 45 (.s 8)),
   .gd 43 false 46 (.bi 46 .neq (.s 44) (.s 45)),
   .pk 47 (.s 43) (.c (.bool true)) (.s 46),
   .mv 48 (.s 47),
   .gd 48 false 49 (.mv 49 (.s 9)),
   .gd 48 false 50 (.mv 50 (.s 11)),
   .gd 48 false 51 (.bi 51 .neq (.s 49) (.s 50)),
   .pk 52 (.s 48) (.c (.bool true)) (.s 51),
   .mv 53 (.s 52),
   .gd 53 false 54 (.mv 54 (.s 10)),
   .gd 53 false 55 (.mv 55 (.s 12)),
   .gd 53 false 56 (.bi 56 .neq (.s 54) (.s 55)),
   .pk 57 (.s 53) (.c (.bool true)) (.s 56)])
  (.cd (.s 57) (.sq (.rg [.mv 4 (.c (.bool false))])
  .rt) .sk))
  (.sq (.sq (.rg [.mv 58 (.s 10),
   .bi 59 .neq (.s 58) (.c (.int .i64 0))])
  (.cd (.s 59) (.sq (.rg [.mv 60 (.s 10),
   .bi 61 .neq (.s 60) (.c (.int .i64 4)),
   .mv 62 (.s 61),
   .gd 62 false 63 (.mv 63 (.s 6)),
   .gd 62 false 64 (.bi 64 .eql (.s 63) (.c (.int .i64 0))),
   .pk 65 (.s 62) (.c (.bool true)) (.s 64),
   .mv 4 (.s 65)])
  .rt) .sk))
  (.sq (.rg [.fa 66 (.s 5) 0,
   .lds 67 (.s 66),
   .mv 68 (.s 67),
   .gd 68 false 69 (.fa 69 (.s 5) 1),
   .gd 68 false 70 (.lda 70 2 (.s 69)),
   .gd 68 false 71 (.bd 71 [(.int .u64 0), (.int .u64 0)] []),
   .gd 68 false 72 (.ea 72 false [.i, .i] (.s 70) (.s 71)),
   .pk 73 (.s 68) (.c (.bool true)) (.s 72),
   .mv 13 (.s 73)])
  (.sq (.rg [.mv 74 (.s 13),
   .mv 75 (.s 9),
   .bi 76 .geq (.s 75) (.c (.int .u64 1000000)),
   .bb 77 false (.s 74) (.s 76),
   .mv 4 (.s 77)])
  .rt))))))))))
def a8 : AF := ⟨c8, [.t 4], 2, 78⟩
theorem m8 : mF Try.prog gl drD Try.f8 a8 = true := by kernel_rfl
theorem s8 {l : List AV} {r : AV} (hl : l.length = 2) (hi : idsL l = []) (h : wpA (SpH Try.prog gl) c8 (postA [.t 4] r) ⟨initE 0 l, [], []⟩) : Sp Try.prog gl 8 l r :=
  @fun_sp Try.prog gl drD 8 Try.f8 a8 Try.func8 m8 (dok _) l r hl hi h
theorem h8 {d : Nat} {I : In} {O : Out} (hl : I.vs.length = 2) (h : wpA (SpH Try.prog gl) c8 (postH d [.t 4] O) (inSt I)) : SpH Try.prog gl 8 d I O :=
  @fun_spH Try.prog gl drD 8 Try.f8 a8 Try.func8 m8 (dok _) d I O hl h
/-- firebell/firebelllaw23.LedgerAdds -/
def c9 : AC :=
 (.sq (.rg [.bx 4 (.s 1),
   .bx 5 (.s 2),
   .mv 6 (.c (.bool false))])
  (.sq (.sq (.rg [.cl 15 25 [],
   .un 16 .not (.s 15)])
  (.cd (.s 16) (.sq (.rg [.mv 6 (.c (.bool false))])
  .rt) .sk))
  (.sq (.sq (.rg [.mv 17 (.s 0),
   .bi 18 .gtr (.s 17) (.c (.int .u32 1000000)),
   .mv 19 (.s 18),
   .gd 19 false 20 (.fa 20 (.s 4) 0),
   .gd 19 false 21 (.lds 21 (.s 20)),
   .gd 19 false 22 (.fa 22 (.s 4) 1),
   .gd 19 false 23 (.lds 23 (.s 22)),
   .gd 19 false 24 (.bi 24 .gtr (.s 21) (.s 23)),
   .pk 25 (.s 19) (.c (.bool true)) (.s 24),
   .mv 26 (.s 25),
   .gd 26 false 27 (.fa 27 (.s 5) 0),
   .gd 26 false 28 (.lds 28 (.s 27)),
   .gd 26 false 29 (.fa 29 (.s 5) 1),
   .gd 26 false 30 (.lds 30 (.s 29)),
   .gd 26 false 31 (.bi 31 .gtr (.s 28) (.s 30)),
   .pk 32 (.s 26) (.c (.bool true)) (.s 31),
   .mv 33 (.s 32),
   .gd 33 false 34 (.fa 34 (.s 4) 1),
   .gd 33 false 35 (.lds 35 (.s 34)),
   .gd 33 false 36 (.bi 36 .geq (.s 35) (.c (.int .u64 9223372036854775808))),
   .pk 37 (.s 33) (.c (.bool true)) (.s 36),
   .mv 38 (.s 37),
   .gd 38 false 39 (.fa 39 (.s 5) 1),
   .gd 38 false 40 (.lds 40 (.s 39)),
   .gd 38 false 41 (.bi 41 .geq (.s 40) (.c (.int .u64 9223372036854775808))),
   .pk 42 (.s 38) (.c (.bool true)) (.s 41)])
  (.cd (.s 42) (.sq (.rg [.mv 6 (.c (.bool true))])
  .rt) .sk))
  (.sq (.rg [.mv 44 (.s 0),
   .lda 45 2 (.s 4),
   .cl 46 26 [(.s 44), (.s 45)],
   .mv 43 (.s 46),
   .exq 47 (.s 43) 0,
   .exq 48 (.s 43) 1,
   .al 7 [(.bool false), (.int .u64 0), (.int .u64 0)],
   .st 3 (.s 7) (.s 47),
   .mv 8 (.s 48)])
  (.sq (.rg [.mv 50 (.s 0),
   .lda 51 2 (.s 5),
   .cl 52 26 [(.s 50), (.s 51)],
   .mv 49 (.s 52),
   .exq 53 (.s 49) 0,
   .exq 54 (.s 49) 1,
   .al 9 [(.bool false), (.int .u64 0), (.int .u64 0)],
   .st 3 (.s 9) (.s 53),
   .mv 10 (.s 54)])
  (.sq (.rg [.mv 56 (.s 0),
   .fa 57 (.s 4) 0,
   .lds 58 (.s 57),
   .fa 59 (.s 5) 0,
   .lds 60 (.s 59),
   .bi 61 .add (.s 58) (.s 60),
   .fa 62 (.s 4) 1,
   .lds 63 (.s 62),
   .fa 64 (.s 5) 1,
   .lds 65 (.s 64),
   .bi 66 .add (.s 63) (.s 65),
   .bd 67 [(.int .u64 0), (.int .u64 0)] [(0, 1, (.s 61)), (1, 1, (.s 66))],
   .cl 68 26 [(.s 56), (.s 67)],
   .mv 55 (.s 68),
   .exq 69 (.s 55) 0,
   .exq 70 (.s 55) 1,
   .al 11 [(.bool false), (.int .u64 0), (.int .u64 0)],
   .st 3 (.s 11) (.s 69),
   .mv 12 (.s 70)])
  (.sq (.rg [.lda 72 3 (.s 7),
   .lda 73 3 (.s 9),
   .cl 74 30 [(.s 72), (.s 73)],
   .mv 71 (.s 74),
   .exq 75 (.s 71) 0,
   .exq 76 (.s 71) 1,
   .al 13 [(.bool false), (.int .u64 0), (.int .u64 0)],
   .st 3 (.s 13) (.s 75),
   .mv 14 (.s 76)])
  (.sq (.rg [.mv 77 (.s 8),
   .bi 78 .eql (.s 77) (.c (.int .i64 0)),
   .mv 79 (.s 78),
   .gd 79 true 80 (.mv 80 (.s 10)),
   .gd 79 true 81 (.bi 81 .eql (.s 80) (.c (.int .i64 0))),
   .pk 82 (.s 79) (.s 81) (.c (.bool false)),
   .mv 83 (.s 82),
   .gd 83 true 84 (.mv 84 (.s 12)),
   .gd 83 true 85 (.bi 85 .eql (.s 84) (.c (.int .i64 0))),
   .pk 86 (.s 83) (.s 85) (.c (.bool false)),
   .mv 87 (.s 86),
   .gd 87 true 88 (.mv 88 (.s 14)),
   .gd 87 true 89 (.bi 89 .eql (.s 88) (.c (.int .i64 0))),
   .pk 90 (.s 87) (.s 89) (.c (.bool false)),
   .mv 91 (.s 90),
   .gd 91 true 92 (.lda 92 3 (.s 11)),
   .gd 91 true 93 (.lda 93 3 (.s 13)),
   .gd 91 true 94 (.ea 94 false [.b, .i, .i] (.s 92) (.s 93)),
   .pk 95 (.s 91) (.s 94) (.c (.bool false)),
   .mv 6 (.s 95)])
  .rt))))))))
def a9 : AF := ⟨c9, [.t 6], 3, 96⟩
theorem m9 : mF Try.prog gl drD Try.f9 a9 = true := by kernel_rfl
theorem s9 {l : List AV} {r : AV} (hl : l.length = 3) (hi : idsL l = []) (h : wpA (SpH Try.prog gl) c9 (postA [.t 6] r) ⟨initE 0 l, [], []⟩) : Sp Try.prog gl 9 l r :=
  @fun_sp Try.prog gl drD 9 Try.f9 a9 Try.func9 m9 (dok _) l r hl hi h
theorem h9 {d : Nat} {I : In} {O : Out} (hl : I.vs.length = 3) (h : wpA (SpH Try.prog gl) c9 (postH d [.t 6] O) (inSt I)) : SpH Try.prog gl 9 d I O :=
  @fun_spH Try.prog gl drD 9 Try.f9 a9 Try.func9 m9 (dok _) d I O hl h
/-- firebell/firebelllaw24.OutlookLeast -/
def c10 : AC :=
 (.sq (.rg [.bx 3 (.s 0),
   .mv 6 (.c (.bool false))])
  (.sq (.sq (.rg [.cl 13 31 [],
   .un 14 .not (.s 13)])
  (.cd (.s 14) (.sq (.rg [.mv 6 (.c (.bool false))])
  .rt) .sk))
  (.sq (.rg [.lda 16 3 (.s 3),
   .mv 17 (.s 1),
   .mv 18 (.s 2),
   .cl 19 32 [(.s 16), (.s 17), (.s 18)],
   .mv 15 (.s 19),
   .exq 20 (.s 15) 0,
   .exq 21 (.s 15) 1,
   .al 7 [(.int .i64 0), (.int .u64 0), (.int .u64 0)],
   .st 3 (.s 7) (.s 20),
   .mv 8 (.s 21)])
  (.sq (.rg [.lda 23 3 (.s 3),
   .mv 24 (.s 1),
   .mv 25 (.s 2),
   .cl 26 33 [(.s 23), (.s 24), (.s 25)],
   .mv 22 (.s 26),
   .exq 27 (.s 22) 0,
   .exq 28 (.s 22) 1,
   .al 9 [(.int .i64 0), (.int .u64 0), (.int .u64 0)],
   .st 3 (.s 9) (.s 27),
   .mv 10 (.s 28)])
  (.sq (.sq (.rg [.lda 29 3 (.s 7),
   .lda 30 3 (.s 9),
   .ea 31 true [.i, .i, .i] (.s 29) (.s 30),
   .mv 32 (.s 31),
   .gd 32 false 33 (.mv 33 (.s 8)),
   .gd 32 false 34 (.mv 34 (.s 10)),
   .gd 32 false 35 (.bi 35 .neq (.s 33) (.s 34)),
   .pk 36 (.s 32) (.c (.bool true)) (.s 35),
   .mv 37 (.s 36),
   .gd 37 false 38 (.lda 38 3 (.s 7)),
   .gd 37 false 39 (.cl 39 34 [(.s 38)]),
   .gd 37 false 40 (.un 40 .not (.s 39)),
   .pk 41 (.s 37) (.c (.bool true)) (.s 40)])
  (.cd (.s 41) (.sq (.rg [.mv 6 (.c (.bool false))])
  .rt) .sk))
  (.sq (.sq (.rg [.mv 42 (.s 8),
   .bi 43 .neq (.s 42) (.c (.int .i64 0)),
   .mv 44 (.s 43),
   .gd 44 false 45 (.fa 45 (.s 7) 0),
   .gd 44 false 46 (.lds 46 (.s 45)),
   .gd 44 false 47 (.bi 47 .neq (.s 46) (.c (.int .i64 2))),
   .pk 48 (.s 44) (.c (.bool true)) (.s 47)])
  (.cd (.s 48) (.sq (.rg [.mv 6 (.c (.bool true))])
  .rt) .sk))
  (.sq (.rg [.fa 49 (.s 3) 1,
   .lda 50 2 (.s 49),
   .mv 51 (.s 2),
   .cl 52 35 [(.s 50), (.s 51)],
   .mv 11 (.s 52)])
  (.sq (.rg [.fa 53 (.s 7) 1,
   .lda 54 2 (.s 53),
   .al 12 [(.int .u64 0), (.int .u64 0)],
   .st 2 (.s 12) (.s 54)])
  (.sq (.sq (.rg [.fa 55 (.s 12) 1,
   .lds 56 (.s 55),
   .bi 57 .eql (.s 56) (.c (.int .u64 0))])
  (.cd (.s 57) (.rg [.fa 58 (.s 12) 0,
   .lds 59 (.s 58),
   .bi 60 .sub (.s 59) (.c (.int .u64 1)),
   .fa 61 (.s 12) 0,
   .st 1 (.s 61) (.s 60)]) .sk))
  (.sq (.rg [.fa 62 (.s 12) 1,
   .lds 63 (.s 62),
   .bi 64 .sub (.s 63) (.c (.int .u64 1)),
   .fa 65 (.s 12) 1,
   .st 1 (.s 65) (.s 64)])
  (.sq (.rg [.fa 66 (.s 7) 1,
   .lda 67 2 (.s 66),
   .mv 68 (.s 1),
   .cl 69 37 [(.s 67), (.s 68)],
   .mv 70 (.s 11),
   .cl 71 36 [(.s 69), (.s 70)],
   .bi 72 .geq (.s 71) (.c (.int .i64 0)),
   .mv 73 (.s 72),
   .gd 73 true 74 (.lda 74 2 (.s 12)),
   .gd 73 true 75 (.mv 75 (.s 1)),
   .gd 73 true 76 (.cl 76 37 [(.s 74), (.s 75)]),
   .gd 73 true 77 (.mv 77 (.s 11)),
   .gd 73 true 78 (.cl 78 36 [(.s 76), (.s 77)]),
   .gd 73 true 79 (.bi 79 .lss (.s 78) (.c (.int .i64 0))),
   .pk 80 (.s 73) (.s 79) (.c (.bool false)),
   .mv 6 (.s 80)])
  .rt)))))))))))
def a10 : AF := ⟨c10, [.t 6], 3, 81⟩
theorem m10 : mF Try.prog gl drD Try.f10 a10 = true := by kernel_rfl
theorem s10 {l : List AV} {r : AV} (hl : l.length = 3) (hi : idsL l = []) (h : wpA (SpH Try.prog gl) c10 (postA [.t 6] r) ⟨initE 0 l, [], []⟩) : Sp Try.prog gl 10 l r :=
  @fun_sp Try.prog gl drD 10 Try.f10 a10 Try.func10 m10 (dok _) l r hl hi h
theorem h10 {d : Nat} {I : In} {O : Out} (hl : I.vs.length = 3) (h : wpA (SpH Try.prog gl) c10 (postH d [.t 6] O) (inSt I)) : SpH Try.prog gl 10 d I O :=
  @fun_spH Try.prog gl drD 10 Try.f10 a10 Try.func10 m10 (dok _) d I O hl h
/-- firebell/firebelllaw24.OutlookPrints -/
def c11 : AC :=
 (.sq (.rg [.bx 2 (.s 0),
   .mv 4 (.c (.bool false))])
  (.sq (.sq (.rg [.cl 12 31 [],
   .un 13 .not (.s 12)])
  (.cd (.s 13) (.sq (.rg [.mv 4 (.c (.bool false))])
  .rt) .sk))
  (.sq (.sq (.rg [.mv 14 (.s 1),
   .lns 15 (.s 14),
   .bi 16 .gtr (.s 15) (.c (.int .i64 200))])
  (.cd (.s 16) (.sq (.rg [.mv 4 (.c (.bool true))])
  .rt) .sk))
  (.sq (.rg [.lda 17 3 (.s 2),
   .cl 18 38 [(.s 17)],
   .mv 5 (.s 18)])
  (.sq (.rg [.mv 20 (.s 5),
   .cl 21 39 [(.s 20)],
   .mv 19 (.s 21),
   .exq 22 (.s 19) 0,
   .exq 23 (.s 19) 1,
   .al 6 [(.int .i64 0), (.int .u64 0), (.int .u64 0)],
   .st 3 (.s 6) (.s 22),
   .mv 7 (.s 23)])
  (.sq (.rg [.mv 25 (.s 1),
   .cl 26 39 [(.s 25)],
   .mv 24 (.s 26),
   .exq 27 (.s 24) 0,
   .exq 28 (.s 24) 1,
   .al 8 [(.int .i64 0), (.int .u64 0), (.int .u64 0)],
   .st 3 (.s 8) (.s 27),
   .mv 9 (.s 28)])
  (.sq (.rg [.mv 30 (.s 1),
   .cl 31 40 [(.s 30)],
   .mv 29 (.s 31),
   .exq 32 (.s 29) 0,
   .exq 33 (.s 29) 1,
   .al 10 [(.int .i64 0), (.int .u64 0), (.int .u64 0)],
   .st 3 (.s 10) (.s 32),
   .mv 11 (.s 33)])
  (.sq (.sq (.rd [[], [], [], [], [], [], [], [], [], [], [], [], [], [], [], [], [], [], [], [], [], [], [], [], [], [], [], [], [], [], []] [.lda 34 3 (.s 2),
   .cl 35 34 [(.s 34)],
   .lda 36 3 (.s 2),
   .cl 37 41 [(.s 36)],
   .bb 38 true (.s 35) (.s 37),
   .mv 39 (.s 38),
   .gd 39 false 40 (.mv 40 (.s 5)),
   .gd 39 false 41 (.lda 41 3 (.s 2)),
   .gd 39 false 42 (.cl 42 42 [(.s 41)]),
   .gd 39 false 43 (.bi 43 .neq (.s 40) (.s 42)),
   .pk 44 (.s 39) (.c (.bool true)) (.s 43),
   .mv 45 (.s 44),
   .gd 45 false 46 (.lda 46 3 (.s 8)),
   .gd 45 false 47 (.lda 47 3 (.s 10)),
   .gd 45 false 48 (.ea 48 true [.i, .i, .i] (.s 46) (.s 47)),
   .pk 49 (.s 45) (.c (.bool true)) (.s 48),
   .mv 50 (.s 49),
   .gd 50 false 51 (.mv 51 (.s 9)),
   .gd 50 false 52 (.mv 52 (.s 11)),
   .gd 50 false 53 (.bi 53 .neq (.s 51) (.s 52)),
   .pk 54 (.s 50) (.c (.bool true)) (.s 53),
   .mv 55 (.s 54),
   .gd 55 false 56 (.mv 56 (.s 9)),
   .gd 55 false 57 (.bi 57 .eql (.s 56) (.c (.int .i64 0))),
   .gd 55 false 58 (.mv 58 (.s 57)),
   .gd 58 true 59 (.lda 59 3 (.s 8)),
   .gd 58 true 60 (.cl 60 38 [(.s 59)]),
   .gd 58 true 61 (.mv 61 (.s 1)),
   .gd 58 true 62 (.bi 62 .neq (.s 60) (.s 61)),
   .gd 55 false 63 (.pk 63 (.s 58) (.s 62) (.c (.bool false))),
   .pk 64 (.s 55) (.c (.bool true)) (.s 63)])
  (.cd (.s 64) (.sq (.rg [.mv 4 (.c (.bool false))])
  .rt) .sk))
  (.sq (.sq (.rg [.lda 65 3 (.s 2),
   .cl 66 41 [(.s 65)],
   .un 67 .not (.s 66)])
  (.cd (.s 67) (.sq (.rg [.lda 68 3 (.s 6),
   .bd 69 [(.int .i64 0), (.int .u64 0), (.int .u64 0)] [],
   .ea 70 false [.i, .i, .i] (.s 68) (.s 69),
   .mv 71 (.s 70),
   .gd 71 true 72 (.mv 72 (.s 7)),
   .gd 71 true 73 (.bi 73 .eql (.s 72) (.c (.int .i64 5))),
   .pk 74 (.s 71) (.s 73) (.c (.bool false)),
   .mv 4 (.s 74)])
  .rt) .sk))
  (.sq (.rg [.lda 75 3 (.s 6),
   .lda 76 3 (.s 2),
   .ea 77 false [.i, .i, .i] (.s 75) (.s 76),
   .mv 78 (.s 77),
   .gd 78 true 79 (.mv 79 (.s 7)),
   .gd 78 true 80 (.bi 80 .eql (.s 79) (.c (.int .i64 0))),
   .pk 81 (.s 78) (.s 80) (.c (.bool false)),
   .mv 4 (.s 81)])
  .rt))))))))))
def a11 : AF := ⟨c11, [.t 4], 2, 82⟩
theorem m11 : mF Try.prog gl drD Try.f11 a11 = true := by kernel_rfl
theorem s11 {l : List AV} {r : AV} (hl : l.length = 2) (hi : idsL l = []) (h : wpA (SpH Try.prog gl) c11 (postA [.t 4] r) ⟨initE 0 l, [], []⟩) : Sp Try.prog gl 11 l r :=
  @fun_sp Try.prog gl drD 11 Try.f11 a11 Try.func11 m11 (dok _) l r hl hi h
theorem h11 {d : Nat} {I : In} {O : Out} (hl : I.vs.length = 2) (h : wpA (SpH Try.prog gl) c11 (postH d [.t 4] O) (inSt I)) : SpH Try.prog gl 11 d I O :=
  @fun_spH Try.prog gl drD 11 Try.f11 a11 Try.func11 m11 (dok _) d I O hl h
/-- firebell/firebelllaw30.awake -/
def c12 : AC :=
 (.sq (.rg [.mv 0 (.c (.bool false))])
  (.sq (.rg [.bd 2 [(.str []), (.str []), (.bool false), (.int .u64 0), (.bool false)] [(0, 1, (.c (.str [97]))), (1, 1, (.c (.str [114]))), (3, 1, (.c (.int .u64 1)))],
   .bd 3 [(.str []), (.str []), (.bool false), (.int .u64 0), (.bool false)] [(0, 1, (.c (.str [98]))), (1, 1, (.c (.str [114]))), (2, 1, (.c (.bool true))), (3, 1, (.c (.int .u64 2)))],
   .bd 4 [(.str []), (.str []), (.bool false), (.int .u64 0), (.bool false)] [(0, 1, (.c (.str [97]))), (1, 1, (.c (.str [115]))), (3, 1, (.c (.int .u64 3)))],
   .bs 5 5 [(.s 2), (.s 3), (.s 4)],
   .cl 6 14 [(.s 5)],
   .mv 1 (.s 6)])
  (.sq (.rg [.mv 7 (.s 1),
   .ln 8 (.s 7),
   .bi 9 .eql (.s 8) (.c (.int .i64 2)),
   .mv 10 (.s 9),
   .gd 10 true 11 (.mv 11 (.s 1)),
   .gd 10 true 12 (.ia 12 3 (.s 11) (.c (.int .i64 0))),
   .gd 10 true 13 (.fa 13 (.s 12) 0),
   .gd 10 true 14 (.lds 14 (.s 13)),
   .gd 10 true 15 (.bi 15 .eql (.s 14) (.c (.str [98]))),
   .pk 16 (.s 10) (.s 15) (.c (.bool false)),
   .mv 17 (.s 16),
   .gd 17 true 18 (.mv 18 (.s 1)),
   .gd 17 true 19 (.ia 19 3 (.s 18) (.c (.int .i64 1))),
   .gd 17 true 20 (.fa 20 (.s 19) 2),
   .gd 17 true 21 (.lds 21 (.s 20)),
   .gd 17 true 22 (.ln 22 (.s 21)),
   .gd 17 true 23 (.bi 23 .eql (.s 22) (.c (.int .i64 2))),
   .pk 24 (.s 17) (.s 23) (.c (.bool false)),
   .mv 0 (.s 24)])
  .rt)))
def a12 : AF := ⟨c12, [.t 0], 0, 25⟩
theorem m12 : mF Try.prog gl drD Try.f12 a12 = true := by kernel_rfl
theorem s12 {l : List AV} {r : AV} (hl : l.length = 0) (hi : idsL l = []) (h : wpA (SpH Try.prog gl) c12 (postA [.t 0] r) ⟨initE 0 l, [], []⟩) : Sp Try.prog gl 12 l r :=
  @fun_sp Try.prog gl drD 12 Try.f12 a12 Try.func12 m12 (dok _) l r hl hi h
theorem h12 {d : Nat} {I : In} {O : Out} (hl : I.vs.length = 0) (h : wpA (SpH Try.prog gl) c12 (postH d [.t 0] O) (inSt I)) : SpH Try.prog gl 12 d I O :=
  @fun_spH Try.prog gl drD 12 Try.f12 a12 Try.func12 m12 (dok _) d I O hl h
/-- firebell/firebellref29.HeavyKeys -/
def c13 : AC :=
 (.sq (.rg [.mv 2 (.c (.bool false))])
  (.sq (.sq (.rg [.mv 4 (.s 0),
   .ln 5 (.s 4),
   .bi 6 .gtr (.s 5) (.c (.int .i64 100))])
  (.cd (.s 6) (.sq (.rg [.mv 2 (.c (.bool true))])
  .rt) .sk))
  (.sq (.sq (.rg [.mv 3 (.c (.int .i64 0))])
  (.bl 0 (.lp (.sq (.sq (.rg [.mv 7 (.s 3),
   .mv 8 (.s 0),
   .ln 9 (.s 8),
   .bi 10 .lss (.s 7) (.s 9)])
  (.cd (.s 10) .sk (.ex 0)))
  (.sq (.bl 1 (.sq (.rg [.mv 13 (.s 0),
   .mv 14 (.s 3),
   .ia 15 5 (.s 13) (.s 14),
   .lda 16 5 (.s 15),
   .cl 17 43 [(.s 16)]])
  (.cd (.s 17) (.sq (.rg [.mv 2 (.c (.bool true))])
  .rt) .sk)))
  (.rg [.mv 11 (.s 3),
   .bi 12 .add (.s 11) (.c (.int .i64 1)),
   .mv 3 (.s 12)]))))))
  (.sq (.rg [.mv 2 (.c (.bool false))])
  .rt))))
def a13 : AF := ⟨c13, [.t 2], 1, 18⟩
theorem m13 : mF Try.prog gl drD Try.f13 a13 = true := by kernel_rfl
theorem s13 {l : List AV} {r : AV} (hl : l.length = 1) (hi : idsL l = []) (h : wpA (SpH Try.prog gl) c13 (postA [.t 2] r) ⟨initE 0 l, [], []⟩) : Sp Try.prog gl 13 l r :=
  @fun_sp Try.prog gl drD 13 Try.f13 a13 Try.func13 m13 (dok _) l r hl hi h
theorem h13 {d : Nat} {I : In} {O : Out} (hl : I.vs.length = 1) (h : wpA (SpH Try.prog gl) c13 (postH d [.t 2] O) (inSt I)) : SpH Try.prog gl 13 d I O :=
  @fun_spH Try.prog gl drD 13 Try.f13 a13 Try.func13 m13 (dok _) d I O hl h
/-- firebell/bundle.Group -/
def c14 : AC :=
 (.sq (.rg [.mv 2 (.c .nils)])
  (.sq (.rg [.mv 3 (.s 0),
   .ce 4 44 [(.s 3), (.c (.bool true))],
   .mv 5 (.s 0),
   .cl 6 44 [(.s 5), (.c (.bool false))],
   .ap 7 3 48 (.s 4) (.s 6),
   .mv 2 (.s 7)])
  .rt))
def a14 : AF := ⟨c14, [.t 2], 1, 8⟩
theorem m14 : mF Try.prog gl drD Try.f14 a14 = true := by kernel_rfl
theorem s14 {l : List AV} {r : AV} (hl : l.length = 1) (hi : idsL l = []) (h : wpA (SpH Try.prog gl) c14 (postA [.t 2] r) ⟨initE 0 l, [], []⟩) : Sp Try.prog gl 14 l r :=
  @fun_sp Try.prog gl drD 14 Try.f14 a14 Try.func14 m14 (dok _) l r hl hi h
theorem h14 {d : Nat} {I : In} {O : Out} (hl : I.vs.length = 1) (h : wpA (SpH Try.prog gl) c14 (postH d [.t 2] O) (inSt I)) : SpH Try.prog gl 14 d I O :=
  @fun_spH Try.prog gl drD 14 Try.f14 a14 Try.func14 m14 (dok _) d I O hl h
/-- firebell/bundle.Keys -/
def c15 : AC :=
 (.sq (.rg [.mv 2 (.c .nils)])
  (.sq (.rg [.mv 3 (.c .nils)])
  (.sq (.sq (.rg [.mv 6 (.s 0),
   .ln 7 (.s 6),
   .mv 8 (.c (.int .i64 0))])
  (.bl 0 (.lp (.sq (.rg [.bi 9 .lss (.s 8) (.s 7)])
  (.sq (.cd (.s 9) .sk (.ex 0))
  (.sq (.bl 1 (.sq (.rg [.ia 10 3 (.s 6) (.s 8),
   .lda 11 3 (.s 10),
   .al 5 [(.str []), (.bool false), .nils],
   .st 3 (.s 5) (.s 11)])
  (.rg [.mo 12 3,
   .fa 13 (.s 5) 2,
   .lds 14 (.s 13),
   .ap 15 5 56 (.s 12) (.s 14),
   .mo 3 15])))
  (.rg [.bi 16 .add (.s 8) (.c (.int .i64 1)),
   .mv 8 (.s 16)])))))))
  (.sq (.rg [.mv 17 (.s 3),
   .mv 2 (.s 17)])
  .rt))))
def a15 : AF := ⟨c15, [.t 2], 1, 18⟩
theorem m15 : mF Try.prog gl drD Try.f15 a15 = true := by kernel_rfl
theorem s15 {l : List AV} {r : AV} (hl : l.length = 1) (hi : idsL l = []) (h : wpA (SpH Try.prog gl) c15 (postA [.t 2] r) ⟨initE 0 l, [], []⟩) : Sp Try.prog gl 15 l r :=
  @fun_sp Try.prog gl drD 15 Try.f15 a15 Try.func15 m15 (dok _) l r hl hi h
theorem h15 {d : Nat} {I : In} {O : Out} (hl : I.vs.length = 1) (h : wpA (SpH Try.prog gl) c15 (postH d [.t 2] O) (inSt I)) : SpH Try.prog gl 15 d I O :=
  @fun_spH Try.prog gl drD 15 Try.f15 a15 Try.func15 m15 (dok _) d I O hl h
/-- firebell/firebellref30.Same -/
def c16 : AC :=
 (.sq (.rg [.mv 4 (.c (.bool false))])
  (.sq (.sq (.rg [.mv 6 (.s 0),
   .ln 7 (.s 6),
   .mv 8 (.s 1),
   .ln 9 (.s 8),
   .bi 10 .neq (.s 7) (.s 9)])
  (.cd (.s 10) (.sq (.rg [.mv 4 (.c (.bool false))])
  .rt) .sk))
  (.sq (.sq (.rg [.mv 5 (.c (.int .i64 0))])
  (.bl 0 (.lp (.sq (.sq (.rg [.mv 11 (.s 5),
   .mv 12 (.s 0),
   .ln 13 (.s 12),
   .bi 14 .lss (.s 11) (.s 13)])
  (.cd (.s 14) .sk (.ex 0)))
  (.sq (.bl 1 (.sq (.rd [[], [], [], [], [], [], [], [], [], []] [.mv 17 (.s 0),
   .mv 18 (.s 5),
   .ia 19 3 (.s 17) (.s 18),
   .lda 20 3 (.s 19),
   .mv 21 (.s 1),
   .mv 22 (.s 5),
   .ia 23 3 (.s 21) (.s 22),
   .lda 24 3 (.s 23),
   .cl 25 45 [(.s 20), (.s 24)],
   .un 26 .not (.s 25)])
  (.cd (.s 26) (.sq (.rg [.mv 4 (.c (.bool false))])
  .rt) .sk)))
  (.rg [.mv 15 (.s 5),
   .bi 16 .add (.s 15) (.c (.int .i64 1)),
   .mv 5 (.s 16)]))))))
  (.sq (.rg [.mv 4 (.c (.bool true))])
  .rt))))
def a16 : AF := ⟨c16, [.t 4], 2, 27⟩
theorem m16 : mF Try.prog gl drD Try.f16 a16 = true := by kernel_rfl
theorem s16 {l : List AV} {r : AV} (hl : l.length = 2) (hi : idsL l = []) (h : wpA (SpH Try.prog gl) c16 (postA [.t 4] r) ⟨initE 0 l, [], []⟩) : Sp Try.prog gl 16 l r :=
  @fun_sp Try.prog gl drD 16 Try.f16 a16 Try.func16 m16 (dok _) l r hl hi h
theorem h16 {d : Nat} {I : In} {O : Out} (hl : I.vs.length = 2) (h : wpA (SpH Try.prog gl) c16 (postH d [.t 4] O) (inSt I)) : SpH Try.prog gl 16 d I O :=
  @fun_spH Try.prog gl drD 16 Try.f16 a16 Try.func16 m16 (dok _) d I O hl h
/-- firebell/firebellref30.Group -/
def c17 : AC :=
 (.sq (.rg [.mv 2 (.c .nils)])
  (.sq (.rg [.bs 8 3 [],
   .mo 3 8])
  (.sq (.sq (.rg [.mv 4 (.c (.int .i64 0))])
  (.bl 0 (.lp (.sq (.sq (.rg [.mv 9 (.s 4),
   .bi 10 .lss (.s 9) (.c (.int .i64 2))])
  (.cd (.s 10) .sk (.ex 0)))
  (.sq (.bl 1 (.sq (.rg [.mv 5 (.c (.int .i64 0))])
  (.bl 2 (.lp (.sq (.sq (.rg [.mv 13 (.s 5),
   .mv 14 (.s 0),
   .ln 15 (.s 14),
   .bi 16 .lss (.s 13) (.s 15)])
  (.cd (.s 16) .sk (.ex 2)))
  (.sq (.bl 3 (.sq (.sq (.rg [.mv 19 (.s 0),
   .mv 20 (.s 5),
   .ia 21 5 (.s 19) (.s 20),
   .fa 22 (.s 21) 2,
   .lds 23 (.s 22),
   .mv 24 (.s 4),
   .bi 25 .eql (.s 24) (.c (.int .i64 0)),
   .bb 26 true (.s 23) (.s 25),
   .mv 27 (.s 26),
   .gd 27 false 28 (.mv 28 (.s 0)),
   .gd 27 false 29 (.mv 29 (.s 5)),
   .gd 27 false 30 (.cl 30 46 [(.s 28), (.s 29)]),
   .gd 27 false 31 (.bi 31 .rem (.s 30) (.c (.int .i64 8))),
   .gd 27 false 32 (.bi 32 .neq (.s 31) (.c (.int .i64 0))),
   .pk 33 (.s 27) (.c (.bool true)) (.s 32)])
  (.cd (.s 33) (.ex 3) .sk))
  (.sq (.rd [[], [], [], [], [], [], [], [], [], [], [], [4, 9], []] [.mv 34 (.s 0),
   .mv 35 (.s 5),
   .ia 36 5 (.s 34) (.s 35),
   .fa 37 (.s 36) 0,
   .lds 38 (.s 37),
   .mv 39 (.s 0),
   .mv 40 (.s 5),
   .ia 41 5 (.s 39) (.s 40),
   .fa 42 (.s 41) 2,
   .lds 43 (.s 42),
   .bd 44 [(.str []), (.bool false), .nils] [(0, 1, (.s 38)), (1, 1, (.s 43))],
   .al 6 [(.str []), (.bool false), .nils],
   .st 3 (.s 6) (.s 44)])
  (.sq (.sq (.rg [.mv 45 (.s 5),
   .mv 7 (.s 45)])
  (.bl 4 (.lp (.sq (.sq (.rg [.mv 46 (.s 7),
   .mv 47 (.s 0),
   .ln 48 (.s 47),
   .bi 49 .lss (.s 46) (.s 48),
   .mv 50 (.s 49),
   .gd 50 true 51 (.fa 51 (.s 6) 2),
   .gd 50 true 52 (.lds 52 (.s 51)),
   .gd 50 true 53 (.ln 53 (.s 52)),
   .gd 50 true 54 (.bi 54 .lss (.s 53) (.c (.int .i64 8))),
   .pk 55 (.s 50) (.s 54) (.c (.bool false))])
  (.cd (.s 55) .sk (.ex 4)))
  (.sq (.bl 5 (.sq (.rd [[], [], [], [], [], [], [], [], [], [], [], [], [], [], [], [], [], []] [.mv 58 (.s 0),
   .mv 59 (.s 7),
   .ia 60 5 (.s 58) (.s 59),
   .fa 61 (.s 60) 0,
   .lds 62 (.s 61),
   .fa 63 (.s 6) 0,
   .lds 64 (.s 63),
   .bi 65 .eql (.s 62) (.s 64),
   .mv 66 (.s 65),
   .gd 66 true 67 (.mv 67 (.s 0)),
   .gd 66 true 68 (.mv 68 (.s 7)),
   .gd 66 true 69 (.ia 69 5 (.s 67) (.s 68)),
   .gd 66 true 70 (.fa 70 (.s 69) 2),
   .gd 66 true 71 (.lds 71 (.s 70)),
   .gd 66 true 72 (.fa 72 (.s 6) 1),
   .gd 66 true 73 (.lds 73 (.s 72)),
   .gd 66 true 74 (.bb 74 false (.s 71) (.s 73)),
   .pk 75 (.s 66) (.s 74) (.c (.bool false))])
  (.cd (.s 75) (.rd [[], [], [], [], [], [1], [], [], [], []] [.fa 76 (.s 6) 2,
   .lo 77 (.s 76),
   .mv 78 (.s 0),
   .mv 79 (.s 7),
   .ia 80 5 (.s 78) (.s 79),
   .lda 81 5 (.s 80),
   .bs 82 5 [(.s 81)],
   .ap 83 5 56 (.s 77) (.s 82),
   .fa 84 (.s 6) 2,
   .so (.s 84) 83]) .sk)))
  (.rg [.mv 56 (.s 7),
   .bi 57 .add (.s 56) (.c (.int .i64 1)),
   .mv 7 (.s 57)]))))))
  (.rg [.mo 85 3,
   .lda 86 3 (.s 6),
   .bs 87 3 [(.s 86)],
   .ap 88 3 48 (.s 85) (.s 87),
   .mo 3 88])))))
  (.rg [.mv 17 (.s 5),
   .bi 18 .add (.s 17) (.c (.int .i64 1)),
   .mv 5 (.s 18)])))))))
  (.rg [.mv 11 (.s 4),
   .bi 12 .add (.s 11) (.c (.int .i64 1)),
   .mv 4 (.s 12)]))))))
  (.sq (.rg [.mv 89 (.s 3),
   .mv 2 (.s 89)])
  .rt))))
def a17 : AF := ⟨c17, [.t 2], 1, 90⟩
theorem m17 : mF Try.prog gl drD Try.f17 a17 = true := by kernel_rfl
theorem s17 {l : List AV} {r : AV} (hl : l.length = 1) (hi : idsL l = []) (h : wpA (SpH Try.prog gl) c17 (postA [.t 2] r) ⟨initE 0 l, [], []⟩) : Sp Try.prog gl 17 l r :=
  @fun_sp Try.prog gl drD 17 Try.f17 a17 Try.func17 m17 (dok _) l r hl hi h
theorem h17 {d : Nat} {I : In} {O : Out} (hl : I.vs.length = 1) (h : wpA (SpH Try.prog gl) c17 (postH d [.t 2] O) (inSt I)) : SpH Try.prog gl 17 d I O :=
  @fun_spH Try.prog gl drD 17 Try.f17 a17 Try.func17 m17 (dok _) d I O hl h
/-- firebell/firebellref25.Right -/
def c18 : AC :=
 (.sq (.rg [.bx 1 (.s 0),
   .mv 2 (.c (.bool false))])
  (.sq (.rg [.fa 3 (.s 1) 0,
   .lds 4 (.s 3),
   .cl 5 47 [(.s 4)],
   .mv 6 (.s 5),
   .gd 6 true 7 (.fa 7 (.s 1) 1),
   .gd 6 true 8 (.lds 8 (.s 7)),
   .gd 6 true 9 (.cl 9 47 [(.s 8)]),
   .pk 10 (.s 6) (.s 9) (.c (.bool false)),
   .mv 11 (.s 10),
   .gd 11 true 12 (.fa 12 (.s 1) 3),
   .gd 11 true 13 (.lds 13 (.s 12)),
   .gd 11 true 14 (.bi 14 .gtr (.s 13) (.c (.int .u64 0))),
   .pk 15 (.s 11) (.s 14) (.c (.bool false)),
   .mv 16 (.s 15),
   .gd 16 true 17 (.fa 17 (.s 1) 3),
   .gd 16 true 18 (.lds 18 (.s 17)),
   .gd 16 true 19 (.bi 19 .leq (.s 18) (.c (.int .u64 4611686018427387904))),
   .pk 20 (.s 16) (.s 19) (.c (.bool false)),
   .mv 2 (.s 20)])
  .rt))
def a18 : AF := ⟨c18, [.t 2], 1, 21⟩
theorem m18 : mF Try.prog gl drD Try.f18 a18 = true := by kernel_rfl
theorem s18 {l : List AV} {r : AV} (hl : l.length = 1) (hi : idsL l = []) (h : wpA (SpH Try.prog gl) c18 (postA [.t 2] r) ⟨initE 0 l, [], []⟩) : Sp Try.prog gl 18 l r :=
  @fun_sp Try.prog gl drD 18 Try.f18 a18 Try.func18 m18 (dok _) l r hl hi h
theorem h18 {d : Nat} {I : In} {O : Out} (hl : I.vs.length = 1) (h : wpA (SpH Try.prog gl) c18 (postH d [.t 2] O) (inSt I)) : SpH Try.prog gl 18 d I O :=
  @fun_spH Try.prog gl drD 18 Try.f18 a18 Try.func18 m18 (dok _) d I O hl h
/-- firebell/bundle.Right -/
def c19 : AC :=
 (.sq (.rg [.bx 1 (.s 0),
   .mv 2 (.c (.bool false))])
  (.sq (.sq (.rg [.fa 5 (.s 1) 2,
   .lds 6 (.s 5),
   .ln 7 (.s 6),
   .bi 8 .lss (.s 7) (.c (.int .i64 1)),
   .mv 9 (.s 8),
   .gd 9 false 10 (.fa 10 (.s 1) 2),
   .gd 9 false 11 (.lds 11 (.s 10)),
   .gd 9 false 12 (.ln 12 (.s 11)),
   .gd 9 false 13 (.bi 13 .gtr (.s 12) (.c (.int .i64 8))),
   .pk 14 (.s 9) (.c (.bool true)) (.s 13)])
  (.cd (.s 14) (.sq (.rg [.mv 2 (.c (.bool false))])
  .rt) .sk))
  (.sq (.sq (.rg [.fa 15 (.s 1) 2,
   .lds 16 (.s 15),
   .ln 17 (.s 16),
   .mv 18 (.c (.int .i64 0))])
  (.bl 0 (.lp (.sq (.rg [.bi 19 .lss (.s 18) (.s 17)])
  (.sq (.cd (.s 19) .sk (.ex 0))
  (.sq (.bl 1 (.sq (.rg [.mv 20 (.s 18),
   .ia 21 5 (.s 16) (.s 18),
   .lda 22 5 (.s 21),
   .al 4 [(.str []), (.str []), (.bool false), (.int .u64 0), (.bool false)],
   .mv 3 (.s 20),
   .st 5 (.s 4) (.s 22)])
  (.sq (.rg [.lda 23 5 (.s 4),
   .cl 24 48 [(.s 23)],
   .un 25 .not (.s 24),
   .mv 26 (.s 25),
   .gd 26 false 27 (.fa 27 (.s 4) 0),
   .gd 26 false 28 (.lds 28 (.s 27)),
   .gd 26 false 29 (.fa 29 (.s 1) 0),
   .gd 26 false 30 (.lds 30 (.s 29)),
   .gd 26 false 31 (.bi 31 .neq (.s 28) (.s 30)),
   .pk 32 (.s 26) (.c (.bool true)) (.s 31),
   .mv 33 (.s 32),
   .gd 33 false 34 (.fa 34 (.s 4) 2),
   .gd 33 false 35 (.lds 35 (.s 34)),
   .gd 33 false 36 (.fa 36 (.s 1) 1),
   .gd 33 false 37 (.lds 37 (.s 36)),
   .gd 33 false 38 (.bb 38 true (.s 35) (.s 37)),
   .pk 39 (.s 33) (.c (.bool true)) (.s 38),
   .mv 40 (.s 39),
   .gd 40 false 41 (.fa 41 (.s 1) 2),
   .gd 40 false 42 (.lds 42 (.s 41)),
   .gd 40 false 43 (.lda 43 5 (.s 4)),
   .gd 40 false 44 (.cl 44 49 [(.s 42), (.s 43)]),
   .gd 40 false 45 (.mv 45 (.s 3)),
   .gd 40 false 46 (.bi 46 .neq (.s 44) (.s 45)),
   .pk 47 (.s 40) (.c (.bool true)) (.s 46)])
  (.cd (.s 47) (.sq (.rg [.mv 2 (.c (.bool false))])
  .rt) .sk))))
  (.rg [.bi 48 .add (.s 18) (.c (.int .i64 1)),
   .mv 18 (.s 48)])))))))
  (.sq (.rg [.mv 2 (.c (.bool true))])
  .rt))))
def a19 : AF := ⟨c19, [.t 2], 1, 49⟩
theorem m19 : mF Try.prog gl drD Try.f19 a19 = true := by kernel_rfl
theorem s19 {l : List AV} {r : AV} (hl : l.length = 1) (hi : idsL l = []) (h : wpA (SpH Try.prog gl) c19 (postA [.t 2] r) ⟨initE 0 l, [], []⟩) : Sp Try.prog gl 19 l r :=
  @fun_sp Try.prog gl drD 19 Try.f19 a19 Try.func19 m19 (dok _) l r hl hi h
theorem h19 {d : Nat} {I : In} {O : Out} (hl : I.vs.length = 1) (h : wpA (SpH Try.prog gl) c19 (postH d [.t 2] O) (inSt I)) : SpH Try.prog gl 19 d I O :=
  @fun_spH Try.prog gl drD 19 Try.f19 a19 Try.func19 m19 (dok _) d I O hl h
/-- firebell/firebelllaw21.awake -/
def c20 : AC :=
 (.sq (.rg [.mv 0 (.c (.bool false))])
  (.sq (.rg [.bd 8 [(.int .u64 0), (.int .u64 0)] [(0, 1, (.c (.int .u64 986))), (1, 1, (.c (.int .u64 1000)))],
   .cl 9 23 [(.c (.int .u32 999000)), (.s 8)],
   .mv 7 (.s 9),
   .exq 10 (.s 7) 0,
   .exq 11 (.s 7) 1,
   .mv 1 (.s 10),
   .mv 2 (.s 11)])
  (.sq (.rg [.bd 13 [(.int .u64 0), (.int .u64 0)] [(0, 1, (.c (.int .u64 986))), (1, 1, (.c (.int .u64 1000)))],
   .cl 14 21 [(.c (.int .u32 999000)), (.c (.int .u64 14400)), (.s 13)],
   .mv 12 (.s 14),
   .exq 15 (.s 12) 0,
   .exq 16 (.s 12) 1,
   .mv 3 (.s 15),
   .mv 4 (.s 16)])
  (.sq (.rg [.bd 18 [(.int .u64 0), (.int .u64 0)] [(0, 1, (.c (.int .u64 985))), (1, 1, (.c (.int .u64 1000)))],
   .cl 19 21 [(.c (.int .u32 999000)), (.c (.int .u64 14400)), (.s 18)],
   .mv 17 (.s 19),
   .exq 20 (.s 17) 0,
   .exq 21 (.s 17) 1,
   .mv 5 (.s 20),
   .mv 6 (.s 21)])
  (.sq (.rg [.mv 22 (.s 1),
   .bi 23 .eql (.s 22) (.c (.int .u64 14000)),
   .mv 24 (.s 23),
   .gd 24 true 25 (.mv 25 (.s 2)),
   .gd 24 true 26 (.bi 26 .eql (.s 25) (.c (.int .i64 0))),
   .pk 27 (.s 24) (.s 26) (.c (.bool false)),
   .mv 28 (.s 27),
   .gd 28 true 29 (.mv 29 (.s 3)),
   .gd 28 true 30 (.un 30 .not (.s 29)),
   .pk 31 (.s 28) (.s 30) (.c (.bool false)),
   .mv 32 (.s 31),
   .gd 32 true 33 (.mv 33 (.s 4)),
   .gd 32 true 34 (.bi 34 .eql (.s 33) (.c (.int .i64 0))),
   .pk 35 (.s 32) (.s 34) (.c (.bool false)),
   .mv 36 (.s 35),
   .gd 36 true 37 (.mv 37 (.s 5)),
   .pk 38 (.s 36) (.s 37) (.c (.bool false)),
   .mv 39 (.s 38),
   .gd 39 true 40 (.mv 40 (.s 6)),
   .gd 39 true 41 (.bi 41 .eql (.s 40) (.c (.int .i64 0))),
   .pk 42 (.s 39) (.s 41) (.c (.bool false)),
   .mv 0 (.s 42)])
  .rt)))))
def a20 : AF := ⟨c20, [.t 0], 0, 43⟩
theorem m20 : mF Try.prog gl drD Try.f20 a20 = true := by kernel_rfl
theorem s20 {l : List AV} {r : AV} (hl : l.length = 0) (hi : idsL l = []) (h : wpA (SpH Try.prog gl) c20 (postA [.t 0] r) ⟨initE 0 l, [], []⟩) : Sp Try.prog gl 20 l r :=
  @fun_sp Try.prog gl drD 20 Try.f20 a20 Try.func20 m20 (dok _) l r hl hi h
theorem h20 {d : Nat} {I : In} {O : Out} (hl : I.vs.length = 0) (h : wpA (SpH Try.prog gl) c20 (postH d [.t 0] O) (inSt I)) : SpH Try.prog gl 20 d I O :=
  @fun_spH Try.prog gl drD 20 Try.f20 a20 Try.func20 m20 (dok _) d I O hl h
/-- firebell/burn.Holds -/
def c21 : AC :=
 (.sq (.rg [.bx 5 (.s 2),
   .mv 6 (.c (.bool false)),
   .mv 7 (.c (.int .i64 0))])
  (.sq (.sq (.rg [.mv 10 (.s 1),
   .bi 11 .gtr (.s 10) (.c (.int .u64 1000000))])
  (.cd (.s 11) (.sq (.rg [.mv 6 (.c (.bool false)),
   .mv 7 (.c (.int .i64 8))])
  .rt) .sk))
  (.sq (.sq (.rg [.mv 12 (.s 0),
   .lda 13 2 (.s 5),
   .cl 14 50 [(.s 12), (.s 13)],
   .mv 8 (.s 14)])
  (.sq (.rg [.mv 15 (.s 8),
   .bi 16 .neq (.s 15) (.c (.int .i64 0))])
  (.cd (.s 16) (.sq (.rg [.mv 17 (.s 8),
   .mv 6 (.c (.bool false)),
   .mv 7 (.s 17)])
  .rt) .sk)))
  (.sq (.rd [[], [], [], [], [], [], [], [], [6], []] [.mv 18 (.s 1),
   .mv 19 (.s 0),
   .cl 20 52 [(.s 19)],
   .cv 21 .u64 (.s 20),
   .bi 22 .mul (.s 18) (.s 21),
   .fa 23 (.s 5) 1,
   .lds 24 (.s 23),
   .cl 25 51 [(.s 22), (.s 24)],
   .al 9 [(.int .u64 0), (.int .u64 0)],
   .st 2 (.s 9) (.s 25)])
  (.sq (.rd [[], [], [], [], [], [], []] [.lda 26 2 (.s 5),
   .cl 27 54 [(.s 26)],
   .lda 28 2 (.s 9),
   .cl 29 53 [(.s 27), (.s 28)],
   .bi 30 .gtr (.s 29) (.c (.int .i64 0)),
   .mv 6 (.s 30),
   .mv 7 (.c (.int .i64 0))])
  .rt)))))
def a21 : AF := ⟨c21, [.t 6, .t 7], 3, 31⟩
theorem m21 : mF Try.prog gl drD Try.f21 a21 = true := by kernel_rfl
theorem s21 {l : List AV} {r : AV} (hl : l.length = 3) (hi : idsL l = []) (h : wpA (SpH Try.prog gl) c21 (postA [.t 6, .t 7] r) ⟨initE 0 l, [], []⟩) : Sp Try.prog gl 21 l r :=
  @fun_sp Try.prog gl drD 21 Try.f21 a21 Try.func21 m21 (dok _) l r hl hi h
theorem h21 {d : Nat} {I : In} {O : Out} (hl : I.vs.length = 3) (h : wpA (SpH Try.prog gl) c21 (postH d [.t 6, .t 7] O) (inSt I)) : SpH Try.prog gl 21 d I O :=
  @fun_spH Try.prog gl drD 21 Try.f21 a21 Try.func21 m21 (dok _) d I O hl h
/-- firebell/firebellref21.Holds -/
def c22 : AC :=
 (.sq (.rg [.bx 5 (.s 2),
   .mv 6 (.c (.bool false)),
   .mv 7 (.c (.int .i64 0))])
  (.sq (.sq (.rg [.mv 8 (.s 0),
   .bi 9 .gtr (.s 8) (.c (.int .u32 1000000)),
   .mv 10 (.s 9),
   .gd 10 false 11 (.mv 11 (.s 1)),
   .gd 10 false 12 (.bi 12 .gtr (.s 11) (.c (.int .u64 1000000))),
   .pk 13 (.s 10) (.c (.bool true)) (.s 12)])
  (.cd (.s 13) (.sq (.rg [.mv 6 (.c (.bool false)),
   .mv 7 (.c (.int .i64 8))])
  .rt) .sk))
  (.sq (.sq (.rg [.fa 14 (.s 5) 0,
   .lds 15 (.s 14),
   .fa 16 (.s 5) 1,
   .lds 17 (.s 16),
   .bi 18 .gtr (.s 15) (.s 17)])
  (.cd (.s 18) (.sq (.rg [.mv 6 (.c (.bool false)),
   .mv 7 (.c (.int .i64 16))])
  .rt) .sk))
  (.sq (.rd [[], [], [], [], [], [], [], [], [], []] [.lda 19 2 (.s 5),
   .cl 20 55 [(.s 19)],
   .mv 21 (.s 0),
   .mv 22 (.s 1),
   .lda 23 2 (.s 5),
   .cl 24 56 [(.s 21), (.s 22), (.s 23)],
   .cl 25 36 [(.s 20), (.s 24)],
   .bi 26 .gtr (.s 25) (.c (.int .i64 0)),
   .mv 6 (.s 26),
   .mv 7 (.c (.int .i64 0))])
  .rt))))
def a22 : AF := ⟨c22, [.t 6, .t 7], 3, 27⟩
theorem m22 : mF Try.prog gl drD Try.f22 a22 = true := by kernel_rfl
theorem s22 {l : List AV} {r : AV} (hl : l.length = 3) (hi : idsL l = []) (h : wpA (SpH Try.prog gl) c22 (postA [.t 6, .t 7] r) ⟨initE 0 l, [], []⟩) : Sp Try.prog gl 22 l r :=
  @fun_sp Try.prog gl drD 22 Try.f22 a22 Try.func22 m22 (dok _) l r hl hi h
theorem h22 {d : Nat} {I : In} {O : Out} (hl : I.vs.length = 3) (h : wpA (SpH Try.prog gl) c22 (postH d [.t 6, .t 7] O) (inSt I)) : SpH Try.prog gl 22 d I O :=
  @fun_spH Try.prog gl drD 22 Try.f22 a22 Try.func22 m22 (dok _) d I O hl h
/-- firebell/burn.Rate -/
def c23 : AC :=
 (.sq (.rg [.bx 3 (.s 1),
   .mv 4 (.c (.int .u64 0)),
   .mv 5 (.c (.int .i64 0))])
  (.sq (.rg [.mv 10 (.s 0),
   .lda 11 2 (.s 3),
   .cl 12 50 [(.s 10), (.s 11)],
   .mv 6 (.s 12)])
  (.sq (.bl 0 (.sq (.rg [.mv 14 (.s 6),
   .bi 15 .neq (.s 14) (.c (.int .i64 0)),
   .mv 13 (.s 15)])
  (.cd (.s 13) (.sq (.rg [.mv 16 (.s 6),
   .mv 4 (.c (.int .u64 0)),
   .mv 5 (.s 16)])
  .rt) (.sq (.rg [.mv 18 (.s 0),
   .cl 19 52 [(.s 18)],
   .bi 20 .eql (.s 19) (.c (.int .u32 0)),
   .mv 17 (.s 20)])
  (.cd (.s 17) (.sq (.rg [.mv 4 (.c (.int .u64 0)),
   .mv 5 (.c (.int .i64 4))])
  .rt) (.sq (.rg [.fa 22 (.s 3) 1,
   .lds 23 (.s 22),
   .bi 24 .eql (.s 23) (.c (.int .u64 0)),
   .mv 21 (.s 24)])
  (.cd (.s 21) (.sq (.rg [.mv 4 (.c (.int .u64 0)),
   .mv 5 (.c (.int .i64 0))])
  .rt) .sk)))))))
  (.sq (.rd [[], [], [], [], [], [], [], [], [], [0, 3], [], [], []] [.lda 26 2 (.s 3),
   .cl 27 54 [(.s 26)],
   .fa 28 (.s 3) 1,
   .lds 29 (.s 28),
   .cl 30 57 [(.s 27), (.s 29)],
   .mv 25 (.s 30),
   .exq 31 (.s 25) 0,
   .exq 32 (.s 25) 1,
   .exq 33 (.s 25) 2,
   .al 7 [(.int .u64 0), (.int .u64 0)],
   .st 2 (.s 7) (.s 31),
   .mv 8 (.s 32),
   .mv 9 (.s 33)])
  (.sq (.rd [[], [], [], [], [], [], [], [], [], []] [.lda 35 2 (.s 7),
   .mv 36 (.s 0),
   .cl 37 52 [(.s 36)],
   .cv 38 .u64 (.s 37),
   .cl 39 57 [(.s 35), (.s 38)],
   .mv 34 (.s 39),
   .exq 40 (.s 34) 0,
   .exq 41 (.s 34) 1,
   .exq 42 (.s 34) 2,
   .st 2 (.s 7) (.s 40)])
  (.sq (.rg [.fa 43 (.s 7) 1,
   .lds 44 (.s 43),
   .mv 4 (.s 44),
   .mv 5 (.c (.int .i64 0))])
  .rt))))))
def a23 : AF := ⟨c23, [.t 4, .t 5], 2, 45⟩
theorem m23 : mF Try.prog gl drD Try.f23 a23 = true := by kernel_rfl
theorem s23 {l : List AV} {r : AV} (hl : l.length = 2) (hi : idsL l = []) (h : wpA (SpH Try.prog gl) c23 (postA [.t 4, .t 5] r) ⟨initE 0 l, [], []⟩) : Sp Try.prog gl 23 l r :=
  @fun_sp Try.prog gl drD 23 Try.f23 a23 Try.func23 m23 (dok _) l r hl hi h
theorem h23 {d : Nat} {I : In} {O : Out} (hl : I.vs.length = 2) (h : wpA (SpH Try.prog gl) c23 (postH d [.t 4, .t 5] O) (inSt I)) : SpH Try.prog gl 23 d I O :=
  @fun_spH Try.prog gl drD 23 Try.f23 a23 Try.func23 m23 (dok _) d I O hl h
/-- firebell/firebellref21.Rate -/
def c24 : AC :=
 (.sq (.rg [.bx 3 (.s 1),
   .mv 4 (.c (.int .u64 0)),
   .mv 5 (.c (.int .i64 0))])
  (.sq (.sq (.rg [.mv 9 (.s 0),
   .bi 10 .gtr (.s 9) (.c (.int .u32 1000000))])
  (.cd (.s 10) (.sq (.rg [.mv 4 (.c (.int .u64 0)),
   .mv 5 (.c (.int .i64 8))])
  .rt) .sk))
  (.sq (.sq (.rg [.fa 11 (.s 3) 0,
   .lds 12 (.s 11),
   .fa 13 (.s 3) 1,
   .lds 14 (.s 13),
   .bi 15 .gtr (.s 12) (.s 14)])
  (.cd (.s 15) (.sq (.rg [.mv 4 (.c (.int .u64 0)),
   .mv 5 (.c (.int .i64 16))])
  .rt) .sk))
  (.sq (.sq (.rg [.mv 16 (.s 0),
   .bi 17 .eql (.s 16) (.c (.int .u32 1000000))])
  (.cd (.s 17) (.sq (.rg [.mv 4 (.c (.int .u64 0)),
   .mv 5 (.c (.int .i64 4))])
  .rt) .sk))
  (.sq (.sq (.rg [.fa 18 (.s 3) 1,
   .lds 19 (.s 18),
   .bi 20 .eql (.s 19) (.c (.int .u64 0))])
  (.cd (.s 20) (.sq (.rg [.mv 4 (.c (.int .u64 0)),
   .mv 5 (.c (.int .i64 0))])
  .rt) .sk))
  (.sq (.rg [.mv 6 (.c (.int .u64 0)),
   .mv 7 (.c (.int .u64 1000000001))])
  (.sq (.bl 0 (.lp (.sq (.sq (.rg [.mv 21 (.s 7),
   .mv 22 (.s 6),
   .bi 23 .sub (.s 21) (.s 22),
   .bi 24 .gtr (.s 23) (.c (.int .u64 1))])
  (.cd (.s 24) .sk (.ex 0)))
  (.bl 1 (.sq (.rg [.mv 25 (.s 6),
   .mv 26 (.s 7),
   .mv 27 (.s 6),
   .bi 28 .sub (.s 26) (.s 27),
   .bi 29 .quo (.s 28) (.c (.int .u64 2)),
   .bi 30 .add (.s 25) (.s 29),
   .mv 8 (.s 30)])
  (.sq (.rd [[], [], [], [], [], [], [], []] [.mv 31 (.s 0),
   .mv 32 (.s 8),
   .lda 33 2 (.s 3),
   .cl 34 56 [(.s 31), (.s 32), (.s 33)],
   .lda 35 2 (.s 3),
   .cl 36 55 [(.s 35)],
   .cl 37 36 [(.s 34), (.s 36)],
   .bi 38 .leq (.s 37) (.c (.int .i64 0))])
  (.cd (.s 38) (.rg [.mv 39 (.s 8),
   .mv 6 (.s 39)]) (.rg [.mv 40 (.s 8),
   .mv 7 (.s 40)]))))))))
  (.sq (.rg [.mv 41 (.s 6),
   .mv 4 (.s 41),
   .mv 5 (.c (.int .i64 0))])
  .rt))))))))
def a24 : AF := ⟨c24, [.t 4, .t 5], 2, 42⟩
theorem m24 : mF Try.prog gl drD Try.f24 a24 = true := by kernel_rfl
theorem s24 {l : List AV} {r : AV} (hl : l.length = 2) (hi : idsL l = []) (h : wpA (SpH Try.prog gl) c24 (postA [.t 4, .t 5] r) ⟨initE 0 l, [], []⟩) : Sp Try.prog gl 24 l r :=
  @fun_sp Try.prog gl drD 24 Try.f24 a24 Try.func24 m24 (dok _) l r hl hi h
theorem h24 {d : Nat} {I : In} {O : Out} (hl : I.vs.length = 2) (h : wpA (SpH Try.prog gl) c24 (postH d [.t 4, .t 5] O) (inSt I)) : SpH Try.prog gl 24 d I O :=
  @fun_spH Try.prog gl drD 24 Try.f24 a24 Try.func24 m24 (dok _) d I O hl h
/-- firebell/firebelllaw23.awake -/
def c25 : AC :=
 (.sq (.rg [.mv 0 (.c (.bool false))])
  (.sq (.rg [.bd 6 [(.int .u64 0), (.int .u64 0)] [(0, 1, (.c (.int .u64 999600))), (1, 1, (.c (.int .u64 1000000)))],
   .al 1 [(.int .u64 0), (.int .u64 0)],
   .st 2 (.s 1) (.s 6)])
  (.sq (.rg [.lda 8 2 (.s 1),
   .cl 9 26 [(.c (.int .u32 999000)), (.s 8)],
   .mv 7 (.s 9),
   .exq 10 (.s 7) 0,
   .exq 11 (.s 7) 1,
   .al 2 [(.bool false), (.int .u64 0), (.int .u64 0)],
   .st 3 (.s 2) (.s 10),
   .mv 3 (.s 11)])
  (.sq (.rg [.lda 13 2 (.s 1),
   .cl 14 28 [(.c (.int .u32 999000)), (.s 13)],
   .mv 12 (.s 14),
   .exq 15 (.s 12) 0,
   .exq 16 (.s 12) 1,
   .mv 4 (.s 15),
   .mv 5 (.s 16)])
  (.sq (.rg [.lda 17 3 (.s 2),
   .bd 18 [(.int .u64 0), (.int .u64 0)] [(1, 1, (.c (.int .u64 600000000)))],
   .bd 19 [(.bool false), (.int .u64 0), (.int .u64 0)] [(1, 2, (.s 18))],
   .ea 20 false [.b, .i, .i] (.s 17) (.s 19),
   .mv 21 (.s 20),
   .gd 21 true 22 (.mv 22 (.s 3)),
   .gd 21 true 23 (.bi 23 .eql (.s 22) (.c (.int .i64 0))),
   .pk 24 (.s 21) (.s 23) (.c (.bool false)),
   .mv 25 (.s 24),
   .gd 25 true 26 (.mv 26 (.s 4)),
   .gd 25 true 27 (.bi 27 .eql (.s 26) (.c (.int .u64 400000))),
   .pk 28 (.s 25) (.s 27) (.c (.bool false)),
   .mv 29 (.s 28),
   .gd 29 true 30 (.mv 30 (.s 5)),
   .gd 29 true 31 (.bi 31 .eql (.s 30) (.c (.int .i64 0))),
   .pk 32 (.s 29) (.s 31) (.c (.bool false)),
   .mv 0 (.s 32)])
  .rt)))))
def a25 : AF := ⟨c25, [.t 0], 0, 33⟩
theorem m25 : mF Try.prog gl drD Try.f25 a25 = true := by kernel_rfl
theorem s25 {l : List AV} {r : AV} (hl : l.length = 0) (hi : idsL l = []) (h : wpA (SpH Try.prog gl) c25 (postA [.t 0] r) ⟨initE 0 l, [], []⟩) : Sp Try.prog gl 25 l r :=
  @fun_sp Try.prog gl drD 25 Try.f25 a25 Try.func25 m25 (dok _) l r hl hi h
theorem h25 {d : Nat} {I : In} {O : Out} (hl : I.vs.length = 0) (h : wpA (SpH Try.prog gl) c25 (postH d [.t 0] O) (inSt I)) : SpH Try.prog gl 25 d I O :=
  @fun_spH Try.prog gl drD 25 Try.f25 a25 Try.func25 m25 (dok _) d I O hl h
/-- firebell/ledger.Left -/
def c26 : AC :=
 (.sq (.rg [.bx 3 (.s 1),
   .al 4 [(.bool false), (.int .u64 0), (.int .u64 0)],
   .mv 5 (.c (.int .i64 0))])
  (.sq (.sq (.rg [.mv 7 (.s 0),
   .lda 8 2 (.s 3),
   .cl 9 58 [(.s 7), (.s 8)],
   .mv 6 (.s 9)])
  (.sq (.rg [.mv 10 (.s 6),
   .bi 11 .neq (.s 10) (.c (.int .i64 0))])
  (.cd (.s 11) (.sq (.rg [.bd 12 [(.bool false), (.int .u64 0), (.int .u64 0)] [],
   .mv 13 (.s 6),
   .st 3 (.s 4) (.s 12),
   .mv 5 (.s 13)])
  .rt) .sk)))
  (.sq (.rg [.mv 14 (.s 0),
   .lda 15 2 (.s 3),
   .cl 16 60 [(.s 14), (.s 15)],
   .exq 17 (.s 16) 0,
   .exq 18 (.s 16) 1,
   .cl 19 59 [(.s 17), (.s 18)],
   .st 3 (.s 4) (.s 19),
   .mv 5 (.c (.int .i64 0))])
  .rt)))
def a26 : AF := ⟨c26, [.ca 4 3, .t 5], 2, 20⟩
theorem m26 : mF Try.prog gl drD Try.f26 a26 = true := by kernel_rfl
theorem s26 {l : List AV} {r : AV} (hl : l.length = 2) (hi : idsL l = []) (h : wpA (SpH Try.prog gl) c26 (postA [.ca 4 3, .t 5] r) ⟨initE 0 l, [], []⟩) : Sp Try.prog gl 26 l r :=
  @fun_sp Try.prog gl drD 26 Try.f26 a26 Try.func26 m26 (dok _) l r hl hi h
theorem h26 {d : Nat} {I : In} {O : Out} (hl : I.vs.length = 2) (h : wpA (SpH Try.prog gl) c26 (postH d [.ca 4 3, .t 5] O) (inSt I)) : SpH Try.prog gl 26 d I O :=
  @fun_spH Try.prog gl drD 26 Try.f26 a26 Try.func26 m26 (dok _) d I O hl h
/-- firebell/firebellref23.Left -/
def c27 : AC :=
 (.sq (.rg [.bx 3 (.s 1),
   .al 4 [(.bool false), (.int .u64 0), (.int .u64 0)],
   .mv 5 (.c (.int .i64 0))])
  (.sq (.rg [.mv 9 (.s 0),
   .lda 10 2 (.s 3),
   .cl 11 61 [(.s 9), (.s 10)],
   .mv 6 (.s 11)])
  (.sq (.sq (.rg [.mv 12 (.s 6),
   .bi 13 .neq (.s 12) (.c (.int .i64 0))])
  (.cd (.s 13) (.sq (.rg [.bd 14 [(.bool false), (.int .u64 0), (.int .u64 0)] [],
   .mv 15 (.s 6),
   .st 3 (.s 4) (.s 14),
   .mv 5 (.s 15)])
  .rt) .sk))
  (.sq (.rg [.mv 17 (.s 0),
   .lda 18 2 (.s 3),
   .cl 19 63 [(.s 17), (.s 18)],
   .cl 20 62 [(.s 19)],
   .mv 16 (.s 20),
   .exq 21 (.s 16) 0,
   .exq 22 (.s 16) 1,
   .al 7 [(.bool false), (.int .u64 0), (.int .u64 0)],
   .st 3 (.s 7) (.s 21),
   .mv 8 (.s 22)])
  (.sq (.rg [.lda 23 3 (.s 7),
   .st 3 (.s 4) (.s 23),
   .mv 5 (.c (.int .i64 0))])
  .rt)))))
def a27 : AF := ⟨c27, [.ca 4 3, .t 5], 2, 24⟩
theorem m27 : mF Try.prog gl drD Try.f27 a27 = true := by kernel_rfl
theorem s27 {l : List AV} {r : AV} (hl : l.length = 2) (hi : idsL l = []) (h : wpA (SpH Try.prog gl) c27 (postA [.ca 4 3, .t 5] r) ⟨initE 0 l, [], []⟩) : Sp Try.prog gl 27 l r :=
  @fun_sp Try.prog gl drD 27 Try.f27 a27 Try.func27 m27 (dok _) l r hl hi h
theorem h27 {d : Nat} {I : In} {O : Out} (hl : I.vs.length = 2) (h : wpA (SpH Try.prog gl) c27 (postH d [.ca 4 3, .t 5] O) (inSt I)) : SpH Try.prog gl 27 d I O :=
  @fun_spH Try.prog gl drD 27 Try.f27 a27 Try.func27 m27 (dok _) d I O hl h
/-- firebell/ledger.Spent -/
def c28 : AC :=
 (.sq (.rg [.bx 3 (.s 1),
   .mv 4 (.c (.int .u64 0)),
   .mv 5 (.c (.int .i64 0))])
  (.sq (.rg [.mv 14 (.s 0),
   .lda 15 2 (.s 3),
   .cl 16 58 [(.s 14), (.s 15)],
   .mv 6 (.s 16)])
  (.sq (.bl 0 (.sq (.rg [.mv 18 (.s 6),
   .bi 19 .neq (.s 18) (.c (.int .i64 0)),
   .mv 17 (.s 19)])
  (.cd (.s 17) (.sq (.rg [.mv 20 (.s 6),
   .mv 4 (.c (.int .u64 0)),
   .mv 5 (.s 20)])
  .rt) (.sq (.rg [.fa 22 (.s 3) 1,
   .lds 23 (.s 22),
   .bi 24 .eql (.s 23) (.c (.int .u64 0)),
   .mv 25 (.s 24),
   .gd 25 false 26 (.mv 26 (.s 0)),
   .gd 25 false 27 (.cl 27 52 [(.s 26)]),
   .gd 25 false 28 (.bi 28 .eql (.s 27) (.c (.int .u32 0))),
   .pk 29 (.s 25) (.c (.bool true)) (.s 28),
   .mv 21 (.s 29)])
  (.cd (.s 21) (.sq (.rg [.mv 4 (.c (.int .u64 0)),
   .mv 5 (.c (.int .i64 4))])
  .rt) .sk)))))
  (.sq (.rg [.mv 31 (.s 0),
   .lda 32 2 (.s 3),
   .cl 33 60 [(.s 31), (.s 32)],
   .mv 30 (.s 33),
   .exq 34 (.s 30) 0,
   .exq 35 (.s 30) 1,
   .al 7 [(.int .u64 0), (.int .u64 0)],
   .al 8 [(.int .u64 0), (.int .u64 0)],
   .st 2 (.s 7) (.s 34),
   .st 2 (.s 8) (.s 35)])
  (.sq (.rg [.lda 37 2 (.s 8),
   .cl 38 64 [(.s 37), (.c (.int .u64 1000000))],
   .mv 36 (.s 38),
   .exq 39 (.s 36) 0,
   .exq 40 (.s 36) 1,
   .al 9 [(.int .u64 0), (.int .u64 0)],
   .st 2 (.s 9) (.s 39),
   .mv 10 (.s 40)])
  (.sq (.rg [.lda 42 2 (.s 9),
   .fa 43 (.s 3) 1,
   .lds 44 (.s 43),
   .cl 45 57 [(.s 42), (.s 44)],
   .mv 41 (.s 45),
   .exq 46 (.s 41) 0,
   .exq 47 (.s 41) 1,
   .exq 48 (.s 41) 2,
   .al 11 [(.int .u64 0), (.int .u64 0)],
   .st 2 (.s 11) (.s 46),
   .mv 12 (.s 47),
   .mv 13 (.s 48)])
  (.sq (.rd [[], [], [], [], [], [], [], [], [], []] [.lda 50 2 (.s 11),
   .mv 51 (.s 0),
   .cl 52 52 [(.s 51)],
   .cv 53 .u64 (.s 52),
   .cl 54 57 [(.s 50), (.s 53)],
   .mv 49 (.s 54),
   .exq 55 (.s 49) 0,
   .exq 56 (.s 49) 1,
   .exq 57 (.s 49) 2,
   .st 2 (.s 11) (.s 55)])
  (.sq (.rg [.fa 58 (.s 11) 1,
   .lds 59 (.s 58),
   .mv 4 (.s 59),
   .mv 5 (.c (.int .i64 0))])
  .rt))))))))
def a28 : AF := ⟨c28, [.t 4, .t 5], 2, 60⟩
theorem m28 : mF Try.prog gl drD Try.f28 a28 = true := by kernel_rfl
theorem s28 {l : List AV} {r : AV} (hl : l.length = 2) (hi : idsL l = []) (h : wpA (SpH Try.prog gl) c28 (postA [.t 4, .t 5] r) ⟨initE 0 l, [], []⟩) : Sp Try.prog gl 28 l r :=
  @fun_sp Try.prog gl drD 28 Try.f28 a28 Try.func28 m28 (dok _) l r hl hi h
theorem h28 {d : Nat} {I : In} {O : Out} (hl : I.vs.length = 2) (h : wpA (SpH Try.prog gl) c28 (postH d [.t 4, .t 5] O) (inSt I)) : SpH Try.prog gl 28 d I O :=
  @fun_spH Try.prog gl drD 28 Try.f28 a28 Try.func28 m28 (dok _) d I O hl h
/-- firebell/firebellref23.Spent -/
def c29 : AC :=
 (.sq (.rg [.bx 3 (.s 1),
   .mv 4 (.c (.int .u64 0)),
   .mv 5 (.c (.int .i64 0))])
  (.sq (.rg [.mv 12 (.s 0),
   .lda 13 2 (.s 3),
   .cl 14 61 [(.s 12), (.s 13)],
   .mv 6 (.s 14)])
  (.sq (.sq (.rg [.mv 15 (.s 6),
   .bi 16 .neq (.s 15) (.c (.int .i64 0))])
  (.cd (.s 16) (.sq (.rg [.mv 17 (.s 6),
   .mv 4 (.c (.int .u64 0)),
   .mv 5 (.s 17)])
  .rt) .sk))
  (.sq (.rg [.mv 18 (.s 0),
   .lda 19 2 (.s 3),
   .cl 20 63 [(.s 18), (.s 19)],
   .al 7 [.nils, .nils],
   .st 2 (.s 7) (.s 20)])
  (.sq (.sq (.rg [.fa 21 (.s 7) 0,
   .lds 22 (.s 21),
   .cl 23 36 [(.s 22), (.c .nils)],
   .bi 24 .eql (.s 23) (.c (.int .i64 0))])
  (.cd (.s 24) (.sq (.rg [.mv 4 (.c (.int .u64 0)),
   .mv 5 (.c (.int .i64 4))])
  .rt) .sk))
  (.sq (.rd [[], [], [], [], [], [], [], [], [], [], [], []] [.fa 26 (.s 7) 1,
   .lds 27 (.s 26),
   .cl 28 67 [(.c (.int .u64 1000000))],
   .cl 29 66 [(.s 27), (.s 28)],
   .fa 30 (.s 7) 0,
   .lds 31 (.s 30),
   .cl 32 65 [(.s 29), (.s 31)],
   .mv 25 (.s 32),
   .exq 33 (.s 25) 0,
   .exq 34 (.s 25) 1,
   .mv 8 (.s 33),
   .mv 9 (.s 34)])
  (.sq (.rg [.mv 36 (.s 8),
   .cl 37 68 [(.s 36)],
   .mv 35 (.s 37),
   .exq 38 (.s 35) 0,
   .exq 39 (.s 35) 1,
   .al 10 [(.int .u64 0), (.int .u64 0)],
   .st 2 (.s 10) (.s 38),
   .mv 11 (.s 39)])
  (.sq (.rg [.fa 40 (.s 10) 1,
   .lds 41 (.s 40),
   .mv 4 (.s 41),
   .mv 5 (.c (.int .i64 0))])
  .rt))))))))
def a29 : AF := ⟨c29, [.t 4, .t 5], 2, 42⟩
theorem m29 : mF Try.prog gl drD Try.f29 a29 = true := by kernel_rfl
theorem s29 {l : List AV} {r : AV} (hl : l.length = 2) (hi : idsL l = []) (h : wpA (SpH Try.prog gl) c29 (postA [.t 4, .t 5] r) ⟨initE 0 l, [], []⟩) : Sp Try.prog gl 29 l r :=
  @fun_sp Try.prog gl drD 29 Try.f29 a29 Try.func29 m29 (dok _) l r hl hi h
theorem h29 {d : Nat} {I : In} {O : Out} (hl : I.vs.length = 2) (h : wpA (SpH Try.prog gl) c29 (postH d [.t 4, .t 5] O) (inSt I)) : SpH Try.prog gl 29 d I O :=
  @fun_spH Try.prog gl drD 29 Try.f29 a29 Try.func29 m29 (dok _) d I O hl h
/-- firebell/signed.Add -/
def c30 : AC :=
 (.sq (.rg [.bx 2 (.s 0),
   .bx 3 (.s 1),
   .al 4 [(.bool false), (.int .u64 0), (.int .u64 0)],
   .mv 5 (.c (.int .i64 0))])
  (.sq (.rd [[], [], [], [], [], []] [.lda 8 3 (.s 2),
   .cl 9 69 [(.s 8)],
   .lda 10 3 (.s 3),
   .cl 11 69 [(.s 10)],
   .st 3 (.s 2) (.s 9),
   .st 3 (.s 3) (.s 11)])
  (.sq (.sq (.rg [.fa 12 (.s 2) 0,
   .lds 13 (.s 12),
   .fa 14 (.s 3) 0,
   .lds 15 (.s 14),
   .bb 16 false (.s 13) (.s 15)])
  (.cd (.s 16) (.sq (.rg [.fa 18 (.s 2) 1,
   .lda 19 2 (.s 18),
   .fa 20 (.s 3) 1,
   .lda 21 2 (.s 20),
   .cl 22 70 [(.s 19), (.s 21)],
   .mv 17 (.s 22),
   .exq 23 (.s 17) 0,
   .exq 24 (.s 17) 1,
   .al 6 [(.int .u64 0), (.int .u64 0)],
   .st 2 (.s 6) (.s 23),
   .mv 7 (.s 24)])
  (.sq (.sq (.rg [.mv 25 (.s 7),
   .bi 26 .neq (.s 25) (.c (.int .i64 0))])
  (.cd (.s 26) (.sq (.rg [.bd 27 [(.bool false), (.int .u64 0), (.int .u64 0)] [],
   .mv 28 (.s 7),
   .st 3 (.s 4) (.s 27),
   .mv 5 (.s 28)])
  .rt) .sk))
  (.sq (.rg [.fa 29 (.s 2) 0,
   .lds 30 (.s 29),
   .lda 31 2 (.s 6),
   .cl 32 71 [(.s 30), (.s 31)],
   .st 3 (.s 4) (.s 32),
   .mv 5 (.c (.int .i64 0))])
  .rt))) .sk))
  (.sq (.sq (.rg [.fa 33 (.s 2) 0,
   .lds 34 (.s 33)])
  (.cd (.s 34) (.rg [.lda 35 3 (.s 3),
   .lda 36 3 (.s 2),
   .st 3 (.s 2) (.s 35),
   .st 3 (.s 3) (.s 36)]) .sk))
  (.sq (.rg [.fa 37 (.s 2) 1,
   .lda 38 2 (.s 37),
   .fa 39 (.s 3) 1,
   .lda 40 2 (.s 39),
   .cl 41 59 [(.s 38), (.s 40)],
   .st 3 (.s 4) (.s 41),
   .mv 5 (.c (.int .i64 0))])
  .rt)))))
def a30 : AF := ⟨c30, [.ca 4 3, .t 5], 2, 42⟩
theorem m30 : mF Try.prog gl drD Try.f30 a30 = true := by kernel_rfl
theorem s30 {l : List AV} {r : AV} (hl : l.length = 2) (hi : idsL l = []) (h : wpA (SpH Try.prog gl) c30 (postA [.ca 4 3, .t 5] r) ⟨initE 0 l, [], []⟩) : Sp Try.prog gl 30 l r :=
  @fun_sp Try.prog gl drD 30 Try.f30 a30 Try.func30 m30 (dok _) l r hl hi h
theorem h30 {d : Nat} {I : In} {O : Out} (hl : I.vs.length = 2) (h : wpA (SpH Try.prog gl) c30 (postH d [.ca 4 3, .t 5] O) (inSt I)) : SpH Try.prog gl 30 d I O :=
  @fun_spH Try.prog gl drD 30 Try.f30 a30 Try.func30 m30 (dok _) d I O hl h
/-- firebell/firebelllaw24.awake -/
def c31 : AC :=
 (.sq (.rg [.mv 0 (.c (.bool false))])
  (.sq (.rg [.bd 4 [(.int .u64 0), (.int .u64 0)] [(1, 1, (.c (.int .u64 600000000)))],
   .bd 5 [(.bool false), (.int .u64 0), (.int .u64 0)] [(1, 2, (.s 4))],
   .cl 6 32 [(.s 5), (.c (.int .u64 2)), (.c (.int .i64 100))],
   .mv 3 (.s 6),
   .exq 7 (.s 3) 0,
   .exq 8 (.s 3) 1,
   .al 1 [(.int .i64 0), (.int .u64 0), (.int .u64 0)],
   .st 3 (.s 1) (.s 7),
   .mv 2 (.s 8)])
  (.sq (.rg [.lda 9 3 (.s 1),
   .bd 10 [(.int .u64 0), (.int .u64 0)] [(1, 1, (.c (.int .u64 30000)))],
   .bd 11 [(.int .i64 0), (.int .u64 0), (.int .u64 0)] [(0, 1, (.c (.int .i64 2))), (1, 2, (.s 10))],
   .ea 12 false [.i, .i, .i] (.s 9) (.s 11),
   .mv 13 (.s 12),
   .gd 13 true 14 (.mv 14 (.s 2)),
   .gd 13 true 15 (.bi 15 .eql (.s 14) (.c (.int .i64 0))),
   .pk 16 (.s 13) (.s 15) (.c (.bool false)),
   .mv 0 (.s 16)])
  .rt)))
def a31 : AF := ⟨c31, [.t 0], 0, 17⟩
theorem m31 : mF Try.prog gl drD Try.f31 a31 = true := by kernel_rfl
theorem s31 {l : List AV} {r : AV} (hl : l.length = 0) (hi : idsL l = []) (h : wpA (SpH Try.prog gl) c31 (postA [.t 0] r) ⟨initE 0 l, [], []⟩) : Sp Try.prog gl 31 l r :=
  @fun_sp Try.prog gl drD 31 Try.f31 a31 Try.func31 m31 (dok _) l r hl hi h
theorem h31 {d : Nat} {I : In} {O : Out} (hl : I.vs.length = 0) (h : wpA (SpH Try.prog gl) c31 (postH d [.t 0] O) (inSt I)) : SpH Try.prog gl 31 d I O :=
  @fun_spH Try.prog gl drD 31 Try.f31 a31 Try.func31 m31 (dok _) d I O hl h
/-- firebell/outlook.Forecast -/
def c32 : AC :=
 (.sq (.rg [.bx 3 (.s 0),
   .al 6 [(.int .i64 0), (.int .u64 0), (.int .u64 0)],
   .mv 7 (.c (.int .i64 0))])
  (.sq (.bl 0 (.sq (.rg [.mv 11 (.s 2),
   .bi 12 .lss (.s 11) (.c (.int .i64 1)),
   .mv 13 (.s 12),
   .gd 13 false 14 (.mv 14 (.s 2)),
   .gd 13 false 15 (.bi 15 .gtr (.s 14) (.c (.int .i64 34560000))),
   .pk 16 (.s 13) (.c (.bool true)) (.s 15),
   .mv 10 (.s 16)])
  (.cd (.s 10) (.sq (.rg [.bd 17 [(.int .i64 0), (.int .u64 0), (.int .u64 0)] [],
   .st 3 (.s 6) (.s 17),
   .mv 7 (.c (.int .i64 8))])
  .rt) (.sq (.rg [.lda 19 3 (.s 3),
   .bd 20 [(.bool false), (.int .u64 0), (.int .u64 0)] [],
   .cl 21 72 [(.s 19), (.s 20)],
   .bi 22 .leq (.s 21) (.c (.int .i64 0)),
   .mv 18 (.s 22)])
  (.cd (.s 18) (.sq (.rg [.bd 23 [(.int .i64 0), (.int .u64 0), (.int .u64 0)] [(0, 1, (.c (.int .i64 0)))],
   .st 3 (.s 6) (.s 23),
   .mv 7 (.c (.int .i64 0))])
  .rt) (.sq (.rg [.mv 25 (.s 1),
   .bi 26 .eql (.s 25) (.c (.int .u64 0)),
   .mv 24 (.s 26)])
  (.cd (.s 24) (.sq (.rg [.bd 27 [(.int .i64 0), (.int .u64 0), (.int .u64 0)] [(0, 1, (.c (.int .i64 1)))],
   .st 3 (.s 6) (.s 27),
   .mv 7 (.c (.int .i64 0))])
  .rt) .sk)))))))
  (.sq (.rg [.fa 29 (.s 3) 1,
   .lda 30 2 (.s 29),
   .mv 31 (.s 2),
   .cv 32 .u64 (.s 31),
   .cl 33 64 [(.s 30), (.s 32)],
   .mv 28 (.s 33),
   .exq 34 (.s 28) 0,
   .exq 35 (.s 28) 1,
   .al 8 [(.int .u64 0), (.int .u64 0)],
   .st 2 (.s 8) (.s 34),
   .mv 9 (.s 35)])
  (.sq (.sq (.rg [.mv 36 (.s 9),
   .bi 37 .neq (.s 36) (.c (.int .i64 0))])
  (.cd (.s 37) (.sq (.rg [.bd 38 [(.int .i64 0), (.int .u64 0), (.int .u64 0)] [],
   .mv 39 (.s 9),
   .st 3 (.s 6) (.s 38),
   .mv 7 (.s 39)])
  .rt) .sk))
  (.sq (.rg [.lda 41 2 (.s 8),
   .cl 42 73 [(.s 41), (.c (.int .u64 1000000))],
   .mv 40 (.s 42),
   .exq 43 (.s 40) 0,
   .exq 44 (.s 40) 1,
   .st 2 (.s 8) (.s 43)])
  (.sq (.rg [.lda 46 2 (.s 8),
   .mv 47 (.s 1),
   .cl 48 73 [(.s 46), (.s 47)],
   .mv 45 (.s 48),
   .exq 49 (.s 45) 0,
   .exq 50 (.s 45) 1,
   .st 2 (.s 8) (.s 49)])
  (.sq (.rg [.lda 51 2 (.s 8),
   .bd 52 [(.int .i64 0), (.int .u64 0), (.int .u64 0)] [(0, 1, (.c (.int .i64 2))), (1, 2, (.s 51))],
   .st 3 (.s 6) (.s 52),
   .mv 7 (.c (.int .i64 0))])
  .rt)))))))
def a32 : AF := ⟨c32, [.ca 6 3, .t 7], 3, 53⟩
theorem m32 : mF Try.prog gl drD Try.f32 a32 = true := by kernel_rfl
theorem s32 {l : List AV} {r : AV} (hl : l.length = 3) (hi : idsL l = []) (h : wpA (SpH Try.prog gl) c32 (postA [.ca 6 3, .t 7] r) ⟨initE 0 l, [], []⟩) : Sp Try.prog gl 32 l r :=
  @fun_sp Try.prog gl drD 32 Try.f32 a32 Try.func32 m32 (dok _) l r hl hi h
theorem h32 {d : Nat} {I : In} {O : Out} (hl : I.vs.length = 3) (h : wpA (SpH Try.prog gl) c32 (postH d [.ca 6 3, .t 7] O) (inSt I)) : SpH Try.prog gl 32 d I O :=
  @fun_spH Try.prog gl drD 32 Try.f32 a32 Try.func32 m32 (dok _) d I O hl h
/-- firebell/firebellref24.Forecast -/
def c33 : AC :=
 (.sq (.rg [.bx 3 (.s 0),
   .al 6 [(.int .i64 0), (.int .u64 0), (.int .u64 0)],
   .mv 7 (.c (.int .i64 0))])
  (.sq (.sq (.rg [.mv 16 (.s 2),
   .bi 17 .lss (.s 16) (.c (.int .i64 1)),
   .mv 18 (.s 17),
   .gd 18 false 19 (.mv 19 (.s 2)),
   .gd 18 false 20 (.bi 20 .gtr (.s 19) (.c (.int .i64 34560000))),
   .pk 21 (.s 18) (.c (.bool true)) (.s 20)])
  (.cd (.s 21) (.sq (.rg [.bd 22 [(.int .i64 0), (.int .u64 0), (.int .u64 0)] [],
   .st 3 (.s 6) (.s 22),
   .mv 7 (.c (.int .i64 8))])
  .rt) .sk))
  (.sq (.sq (.rg [.fa 23 (.s 3) 0,
   .lds 24 (.s 23),
   .mv 25 (.s 24),
   .gd 25 false 26 (.fa 26 (.s 3) 1),
   .gd 25 false 27 (.lda 27 2 (.s 26)),
   .gd 25 false 28 (.bd 28 [(.int .u64 0), (.int .u64 0)] []),
   .gd 25 false 29 (.ea 29 false [.i, .i] (.s 27) (.s 28)),
   .pk 30 (.s 25) (.c (.bool true)) (.s 29)])
  (.cd (.s 30) (.sq (.rg [.bd 31 [(.int .i64 0), (.int .u64 0), (.int .u64 0)] [],
   .st 3 (.s 6) (.s 31),
   .mv 7 (.c (.int .i64 0))])
  .rt) .sk))
  (.sq (.sq (.rg [.mv 32 (.s 1),
   .bi 33 .eql (.s 32) (.c (.int .u64 0))])
  (.cd (.s 33) (.sq (.rg [.bd 34 [(.int .i64 0), (.int .u64 0), (.int .u64 0)] [(0, 1, (.c (.int .i64 1)))],
   .st 3 (.s 6) (.s 34),
   .mv 7 (.c (.int .i64 0))])
  .rt) .sk))
  (.sq (.rg [.fa 35 (.s 3) 1,
   .lda 36 2 (.s 35),
   .mv 37 (.s 2),
   .cl 38 35 [(.s 36), (.s 37)],
   .mv 8 (.s 38)])
  (.sq (.sq (.rg [.mv 40 (.s 8),
   .cl 41 68 [(.s 40)],
   .mv 39 (.s 41),
   .exq 42 (.s 39) 0,
   .exq 43 (.s 39) 1,
   .al 9 [(.int .u64 0), (.int .u64 0)],
   .st 2 (.s 9) (.s 42),
   .mv 10 (.s 43)])
  (.sq (.rg [.mv 44 (.s 10),
   .un 45 .not (.s 44)])
  (.cd (.s 45) (.sq (.rg [.bd 46 [(.int .i64 0), (.int .u64 0), (.int .u64 0)] [],
   .st 3 (.s 6) (.s 46),
   .mv 7 (.c (.int .i64 3))])
  .rt) .sk)))
  (.sq (.rg [.mv 47 (.s 1),
   .cl 48 67 [(.s 47)],
   .cl 49 67 [(.c (.int .u64 1000000))],
   .cl 50 66 [(.s 48), (.s 49)],
   .mv 11 (.s 50)])
  (.sq (.rg [.mv 52 (.s 8),
   .mv 53 (.s 11),
   .cl 54 65 [(.s 52), (.s 53)],
   .mv 51 (.s 54),
   .exq 55 (.s 51) 0,
   .exq 56 (.s 51) 1,
   .mv 12 (.s 55),
   .mv 13 (.s 56)])
  (.sq (.sq (.rg [.mv 57 (.s 13),
   .cl 58 36 [(.s 57), (.c .nils)],
   .bi 59 .gtr (.s 58) (.c (.int .i64 0))])
  (.cd (.s 59) (.rg [.mv 60 (.s 12),
   .bs 61 1 [(.c (.bool true))],
   .cl 62 74 [(.s 60), (.s 61)],
   .mv 12 (.s 62)]) .sk))
  (.sq (.rg [.mv 64 (.s 12),
   .cl 65 68 [(.s 64)],
   .mv 63 (.s 65),
   .exq 66 (.s 63) 0,
   .exq 67 (.s 63) 1,
   .al 14 [(.int .u64 0), (.int .u64 0)],
   .st 2 (.s 14) (.s 66),
   .mv 15 (.s 67)])
  (.sq (.rg [.lda 68 2 (.s 14),
   .bd 69 [(.int .i64 0), (.int .u64 0), (.int .u64 0)] [(0, 1, (.c (.int .i64 2))), (1, 2, (.s 68))],
   .st 3 (.s 6) (.s 69),
   .mv 7 (.c (.int .i64 0))])
  .rt)))))))))))
def a33 : AF := ⟨c33, [.ca 6 3, .t 7], 3, 70⟩
theorem m33 : mF Try.prog gl drD Try.f33 a33 = true := by kernel_rfl
theorem s33 {l : List AV} {r : AV} (hl : l.length = 3) (hi : idsL l = []) (h : wpA (SpH Try.prog gl) c33 (postA [.ca 6 3, .t 7] r) ⟨initE 0 l, [], []⟩) : Sp Try.prog gl 33 l r :=
  @fun_sp Try.prog gl drD 33 Try.f33 a33 Try.func33 m33 (dok _) l r hl hi h
theorem h33 {d : Nat} {I : In} {O : Out} (hl : I.vs.length = 3) (h : wpA (SpH Try.prog gl) c33 (postH d [.ca 6 3, .t 7] O) (inSt I)) : SpH Try.prog gl 33 d I O :=
  @fun_spH Try.prog gl drD 33 Try.f33 a33 Try.func33 m33 (dok _) d I O hl h
/-- firebell/outlook.Right -/
def c34 : AC :=
 (.sq (.rg [.bx 1 (.s 0),
   .mv 2 (.c (.bool false))])
  (.sq (.sq (.rg [.fa 3 (.s 1) 0,
   .lds 4 (.s 3)])
  (.bl 0 (.sq (.sq (.rg [.bi 6 .eql (.s 4) (.c (.int .i64 0)),
   .mv 5 (.s 6)])
  (.cd (.s 5) .sk (.rg [.bi 7 .eql (.s 4) (.c (.int .i64 1)),
   .mv 5 (.s 7)])))
  (.cd (.s 5) (.sq (.rg [.fa 8 (.s 1) 1,
   .lda 9 2 (.s 8),
   .bd 10 [(.int .u64 0), (.int .u64 0)] [],
   .ea 11 false [.i, .i] (.s 9) (.s 10),
   .mv 2 (.s 11)])
  .rt) .sk))))
  (.sq (.rg [.fa 12 (.s 1) 0,
   .lds 13 (.s 12),
   .bi 14 .eql (.s 13) (.c (.int .i64 2)),
   .mv 15 (.s 14),
   .gd 15 true 16 (.fa 16 (.s 1) 1),
   .gd 15 true 17 (.lda 17 2 (.s 16)),
   .gd 15 true 18 (.bd 18 [(.int .u64 0), (.int .u64 0)] []),
   .gd 15 true 19 (.ea 19 true [.i, .i] (.s 17) (.s 18)),
   .pk 20 (.s 15) (.s 19) (.c (.bool false)),
   .mv 2 (.s 20)])
  .rt)))
def a34 : AF := ⟨c34, [.t 2], 1, 21⟩
theorem m34 : mF Try.prog gl drD Try.f34 a34 = true := by kernel_rfl
theorem s34 {l : List AV} {r : AV} (hl : l.length = 1) (hi : idsL l = []) (h : wpA (SpH Try.prog gl) c34 (postA [.t 2] r) ⟨initE 0 l, [], []⟩) : Sp Try.prog gl 34 l r :=
  @fun_sp Try.prog gl drD 34 Try.f34 a34 Try.func34 m34 (dok _) l r hl hi h
theorem h34 {d : Nat} {I : In} {O : Out} (hl : I.vs.length = 1) (h : wpA (SpH Try.prog gl) c34 (postH d [.t 2] O) (inSt I)) : SpH Try.prog gl 34 d I O :=
  @fun_spH Try.prog gl drD 34 Try.f34 a34 Try.func34 m34 (dok _) d I O hl h
/-- firebell/firebellref24.Has -/
def c35 : AC :=
 (.sq (.rg [.bx 2 (.s 0),
   .mv 4 (.c .nils)])
  (.sq (.rg [.lda 5 2 (.s 2),
   .cl 6 75 [(.s 5)],
   .mv 7 (.s 1),
   .cv 8 .u64 (.s 7),
   .cl 9 67 [(.s 8)],
   .cl 10 66 [(.s 6), (.s 9)],
   .mv 4 (.s 10)])
  .rt))
def a35 : AF := ⟨c35, [.t 4], 2, 11⟩
theorem m35 : mF Try.prog gl drD Try.f35 a35 = true := by kernel_rfl
theorem s35 {l : List AV} {r : AV} (hl : l.length = 2) (hi : idsL l = []) (h : wpA (SpH Try.prog gl) c35 (postA [.t 4] r) ⟨initE 0 l, [], []⟩) : Sp Try.prog gl 35 l r :=
  @fun_sp Try.prog gl drD 35 Try.f35 a35 Try.func35 m35 (dok _) l r hl hi h
theorem h35 {d : Nat} {I : In} {O : Out} (hl : I.vs.length = 2) (h : wpA (SpH Try.prog gl) c35 (postH d [.t 4] O) (inSt I)) : SpH Try.prog gl 35 d I O :=
  @fun_spH Try.prog gl drD 35 Try.f35 a35 Try.func35 m35 (dok _) d I O hl h
/-- firebell/firebellref01.Compare -/
def c36 : AC :=
 (.sq (.rg [.mv 4 (.c (.int .i64 0))])
  (.sq (.rg [.mv 7 (.s 0),
   .ln 8 (.s 7),
   .mv 5 (.s 8)])
  (.sq (.sq (.rg [.mv 9 (.s 1),
   .ln 10 (.s 9),
   .mv 11 (.s 5),
   .bi 12 .gtr (.s 10) (.s 11)])
  (.cd (.s 12) (.rg [.mv 13 (.s 1),
   .ln 14 (.s 13),
   .mv 5 (.s 14)]) .sk))
  (.sq (.sq (.rg [.mv 15 (.s 5),
   .bi 16 .sub (.s 15) (.c (.int .i64 1)),
   .mv 6 (.s 16)])
  (.bl 0 (.lp (.sq (.sq (.rg [.mv 17 (.s 6),
   .bi 18 .geq (.s 17) (.c (.int .i64 0))])
  (.cd (.s 18) .sk (.ex 0)))
  (.sq (.bl 1 (.sq (.rg [.mv 21 (.s 0),
   .mv 22 (.s 6),
   .cl 23 76 [(.s 21), (.s 22)],
   .mv 24 (.s 1),
   .mv 25 (.s 6),
   .cl 26 76 [(.s 24), (.s 25)],
   .bi 27 .neq (.s 23) (.s 26)])
  (.cd (.s 27) (.sq (.rg [.mv 28 (.s 0),
   .mv 29 (.s 6),
   .cl 30 76 [(.s 28), (.s 29)],
   .mv 31 (.s 1),
   .mv 32 (.s 6),
   .cl 33 76 [(.s 31), (.s 32)],
   .bi 34 .sub (.s 30) (.s 33),
   .mv 4 (.s 34)])
  .rt) .sk)))
  (.rg [.mv 19 (.s 6),
   .bi 20 .sub (.s 19) (.c (.int .i64 1)),
   .mv 6 (.s 20)]))))))
  (.sq (.rg [.mv 4 (.c (.int .i64 0))])
  .rt)))))
def a36 : AF := ⟨c36, [.t 4], 2, 35⟩
theorem m36 : mF Try.prog gl drD Try.f36 a36 = true := by kernel_rfl
theorem s36 {l : List AV} {r : AV} (hl : l.length = 2) (hi : idsL l = []) (h : wpA (SpH Try.prog gl) c36 (postA [.t 4] r) ⟨initE 0 l, [], []⟩) : Sp Try.prog gl 36 l r :=
  @fun_sp Try.prog gl drD 36 Try.f36 a36 Try.func36 m36 (dok _) l r hl hi h
theorem h36 {d : Nat} {I : In} {O : Out} (hl : I.vs.length = 2) (h : wpA (SpH Try.prog gl) c36 (postH d [.t 4] O) (inSt I)) : SpH Try.prog gl 36 d I O :=
  @fun_spH Try.prog gl drD 36 Try.f36 a36 Try.func36 m36 (dok _) d I O hl h
/-- firebell/firebellref24.Used -/
def c37 : AC :=
 (.sq (.rg [.bx 2 (.s 0),
   .mv 4 (.c .nils)])
  (.sq (.rg [.lda 5 2 (.s 2),
   .cl 6 75 [(.s 5)],
   .mv 7 (.s 1),
   .cl 8 67 [(.s 7)],
   .cl 9 66 [(.s 6), (.s 8)],
   .cl 10 67 [(.c (.int .u64 1000000))],
   .cl 11 66 [(.s 9), (.s 10)],
   .mv 4 (.s 11)])
  .rt))
def a37 : AF := ⟨c37, [.t 4], 2, 12⟩
theorem m37 : mF Try.prog gl drD Try.f37 a37 = true := by kernel_rfl
theorem s37 {l : List AV} {r : AV} (hl : l.length = 2) (hi : idsL l = []) (h : wpA (SpH Try.prog gl) c37 (postA [.t 4] r) ⟨initE 0 l, [], []⟩) : Sp Try.prog gl 37 l r :=
  @fun_sp Try.prog gl drD 37 Try.f37 a37 Try.func37 m37 (dok _) l r hl hi h
theorem h37 {d : Nat} {I : In} {O : Out} (hl : I.vs.length = 2) (h : wpA (SpH Try.prog gl) c37 (postH d [.t 4] O) (inSt I)) : SpH Try.prog gl 37 d I O :=
  @fun_spH Try.prog gl drD 37 Try.f37 a37 Try.func37 m37 (dok _) d I O hl h
/-- firebell/outlook.Print -/
def c38 : AC :=
 (.sq (.rg [.bx 1 (.s 0),
   .mv 2 (.c (.str []))])
  (.sq (.bl 0 (.sq (.rg [.lda 4 3 (.s 1),
   .cl 5 34 [(.s 4)],
   .un 6 .not (.s 5),
   .mv 3 (.s 6)])
  (.cd (.s 3) (.sq (.rg [.mv 2 (.c (.str [63]))])
  .rt) (.sq (.rg [.fa 8 (.s 1) 0,
   .lds 9 (.s 8),
   .bi 10 .eql (.s 9) (.c (.int .i64 0)),
   .mv 7 (.s 10)])
  (.cd (.s 7) (.sq (.rg [.mv 2 (.c (.str [103, 111, 110, 101]))])
  .rt) (.sq (.rg [.fa 12 (.s 1) 0,
   .lds 13 (.s 12),
   .bi 14 .eql (.s 13) (.c (.int .i64 1)),
   .mv 11 (.s 14)])
  (.cd (.s 11) (.sq (.rg [.mv 2 (.c (.str [110, 101, 118, 101, 114]))])
  .rt) .sk)))))))
  (.sq (.rg [.fa 15 (.s 1) 1,
   .lda 16 2 (.s 15),
   .cl 17 77 [(.s 16)],
   .mv 2 (.s 17)])
  .rt)))
def a38 : AF := ⟨c38, [.t 2], 1, 18⟩
theorem m38 : mF Try.prog gl drD Try.f38 a38 = true := by kernel_rfl
theorem s38 {l : List AV} {r : AV} (hl : l.length = 1) (hi : idsL l = []) (h : wpA (SpH Try.prog gl) c38 (postA [.t 2] r) ⟨initE 0 l, [], []⟩) : Sp Try.prog gl 38 l r :=
  @fun_sp Try.prog gl drD 38 Try.f38 a38 Try.func38 m38 (dok _) l r hl hi h
theorem h38 {d : Nat} {I : In} {O : Out} (hl : I.vs.length = 1) (h : wpA (SpH Try.prog gl) c38 (postH d [.t 2] O) (inSt I)) : SpH Try.prog gl 38 d I O :=
  @fun_spH Try.prog gl drD 38 Try.f38 a38 Try.func38 m38 (dok _) d I O hl h
/-- firebell/outlook.Read -/
def c39 : AC :=
 (.sq (.rg [.al 2 [(.int .i64 0), (.int .u64 0), (.int .u64 0)],
   .mv 3 (.c (.int .i64 0))])
  (.sq (.sq (.rg [.mv 7 (.s 0)])
  (.bl 0 (.sq (.rg [.bi 9 .eql (.s 7) (.c (.str [103, 111, 110, 101])),
   .mv 8 (.s 9)])
  (.cd (.s 8) (.sq (.rg [.bd 10 [(.int .i64 0), (.int .u64 0), (.int .u64 0)] [(0, 1, (.c (.int .i64 0)))],
   .st 3 (.s 2) (.s 10),
   .mv 3 (.c (.int .i64 0))])
  .rt) (.sq (.rg [.bi 12 .eql (.s 7) (.c (.str [110, 101, 118, 101, 114])),
   .mv 11 (.s 12)])
  (.cd (.s 11) (.sq (.rg [.bd 13 [(.int .i64 0), (.int .u64 0), (.int .u64 0)] [(0, 1, (.c (.int .i64 1)))],
   .st 3 (.s 2) (.s 13),
   .mv 3 (.c (.int .i64 0))])
  .rt) .sk))))))
  (.sq (.rg [.mv 15 (.s 0),
   .cl 16 78 [(.s 15)],
   .mv 14 (.s 16),
   .exq 17 (.s 14) 0,
   .exq 18 (.s 14) 1,
   .al 4 [(.int .u64 0), (.int .u64 0)],
   .st 2 (.s 4) (.s 17),
   .mv 5 (.s 18)])
  (.sq (.rg [.lda 19 2 (.s 4),
   .bd 20 [(.int .i64 0), (.int .u64 0), (.int .u64 0)] [(0, 1, (.c (.int .i64 2))), (1, 2, (.s 19))],
   .al 6 [(.int .i64 0), (.int .u64 0), (.int .u64 0)],
   .st 3 (.s 6) (.s 20)])
  (.sq (.bl 1 (.sq (.rg [.mv 22 (.s 5),
   .bi 23 .neq (.s 22) (.c (.int .i64 0)),
   .mv 21 (.s 23)])
  (.cd (.s 21) (.sq (.rg [.bd 24 [(.int .i64 0), (.int .u64 0), (.int .u64 0)] [],
   .mv 25 (.s 5),
   .st 3 (.s 2) (.s 24),
   .mv 3 (.s 25)])
  .rt) (.sq (.rg [.lda 27 3 (.s 6),
   .cl 28 34 [(.s 27)],
   .un 29 .not (.s 28),
   .mv 26 (.s 29)])
  (.cd (.s 26) (.sq (.rg [.bd 30 [(.int .i64 0), (.int .u64 0), (.int .u64 0)] [],
   .st 3 (.s 2) (.s 30),
   .mv 3 (.c (.int .i64 5))])
  .rt) .sk)))))
  (.sq (.rg [.lda 31 3 (.s 6),
   .st 3 (.s 2) (.s 31),
   .mv 3 (.c (.int .i64 0))])
  .rt))))))
def a39 : AF := ⟨c39, [.ca 2 3, .t 3], 1, 32⟩
theorem m39 : mF Try.prog gl drD Try.f39 a39 = true := by kernel_rfl
theorem s39 {l : List AV} {r : AV} (hl : l.length = 1) (hi : idsL l = []) (h : wpA (SpH Try.prog gl) c39 (postA [.ca 2 3, .t 3] r) ⟨initE 0 l, [], []⟩) : Sp Try.prog gl 39 l r :=
  @fun_sp Try.prog gl drD 39 Try.f39 a39 Try.func39 m39 (dok _) l r hl hi h
theorem h39 {d : Nat} {I : In} {O : Out} (hl : I.vs.length = 1) (h : wpA (SpH Try.prog gl) c39 (postH d [.ca 2 3, .t 3] O) (inSt I)) : SpH Try.prog gl 39 d I O :=
  @fun_spH Try.prog gl drD 39 Try.f39 a39 Try.func39 m39 (dok _) d I O hl h
/-- firebell/firebellref24.Read -/
def c40 : AC :=
 (.sq (.rg [.al 2 [(.int .i64 0), (.int .u64 0), (.int .u64 0)],
   .mv 3 (.c (.int .i64 0))])
  (.sq (.sq (.rg [.mv 6 (.s 0),
   .bi 7 .eql (.s 6) (.c (.str [103, 111, 110, 101]))])
  (.cd (.s 7) (.sq (.rg [.bd 8 [(.int .i64 0), (.int .u64 0), (.int .u64 0)] [],
   .st 3 (.s 2) (.s 8),
   .mv 3 (.c (.int .i64 0))])
  .rt) .sk))
  (.sq (.sq (.rg [.mv 9 (.s 0),
   .bi 10 .eql (.s 9) (.c (.str [110, 101, 118, 101, 114]))])
  (.cd (.s 10) (.sq (.rg [.bd 11 [(.int .i64 0), (.int .u64 0), (.int .u64 0)] [(0, 1, (.c (.int .i64 1)))],
   .st 3 (.s 2) (.s 11),
   .mv 3 (.c (.int .i64 0))])
  .rt) .sk))
  (.sq (.rg [.mv 13 (.s 0),
   .cl 14 79 [(.s 13)],
   .mv 12 (.s 14),
   .exq 15 (.s 12) 0,
   .exq 16 (.s 12) 1,
   .al 4 [(.int .u64 0), (.int .u64 0)],
   .st 2 (.s 4) (.s 15),
   .mv 5 (.s 16)])
  (.sq (.sq (.rg [.mv 17 (.s 5),
   .bi 18 .neq (.s 17) (.c (.int .i64 0))])
  (.cd (.s 18) (.sq (.rg [.bd 19 [(.int .i64 0), (.int .u64 0), (.int .u64 0)] [],
   .mv 20 (.s 5),
   .st 3 (.s 2) (.s 19),
   .mv 3 (.s 20)])
  .rt) .sk))
  (.sq (.sq (.rg [.mv 21 (.s 0),
   .bi 22 .eql (.s 21) (.c (.str [48]))])
  (.cd (.s 22) (.sq (.rg [.bd 23 [(.int .i64 0), (.int .u64 0), (.int .u64 0)] [],
   .st 3 (.s 2) (.s 23),
   .mv 3 (.c (.int .i64 5))])
  .rt) .sk))
  (.sq (.rg [.lda 24 2 (.s 4),
   .bd 25 [(.int .i64 0), (.int .u64 0), (.int .u64 0)] [(0, 1, (.c (.int .i64 2))), (1, 2, (.s 24))],
   .st 3 (.s 2) (.s 25),
   .mv 3 (.c (.int .i64 0))])
  .rt)))))))
def a40 : AF := ⟨c40, [.ca 2 3, .t 3], 1, 26⟩
theorem m40 : mF Try.prog gl drD Try.f40 a40 = true := by kernel_rfl
theorem s40 {l : List AV} {r : AV} (hl : l.length = 1) (hi : idsL l = []) (h : wpA (SpH Try.prog gl) c40 (postA [.ca 2 3, .t 3] r) ⟨initE 0 l, [], []⟩) : Sp Try.prog gl 40 l r :=
  @fun_sp Try.prog gl drD 40 Try.f40 a40 Try.func40 m40 (dok _) l r hl hi h
theorem h40 {d : Nat} {I : In} {O : Out} (hl : I.vs.length = 1) (h : wpA (SpH Try.prog gl) c40 (postH d [.ca 2 3, .t 3] O) (inSt I)) : SpH Try.prog gl 40 d I O :=
  @fun_spH Try.prog gl drD 40 Try.f40 a40 Try.func40 m40 (dok _) d I O hl h
/-- firebell/firebellref24.Right -/
def c41 : AC :=
 (.sq (.rg [.bx 1 (.s 0),
   .mv 2 (.c (.bool false))])
  (.sq (.sq (.rg [.fa 3 (.s 1) 0,
   .lds 4 (.s 3),
   .bi 5 .eql (.s 4) (.c (.int .i64 0)),
   .mv 6 (.s 5),
   .gd 6 false 7 (.fa 7 (.s 1) 0),
   .gd 6 false 8 (.lds 8 (.s 7)),
   .gd 6 false 9 (.bi 9 .eql (.s 8) (.c (.int .i64 1))),
   .pk 10 (.s 6) (.c (.bool true)) (.s 9)])
  (.cd (.s 10) (.sq (.rg [.fa 11 (.s 1) 1,
   .lda 12 2 (.s 11),
   .bd 13 [(.int .u64 0), (.int .u64 0)] [],
   .ea 14 false [.i, .i] (.s 12) (.s 13),
   .mv 2 (.s 14)])
  .rt) .sk))
  (.sq (.rg [.fa 15 (.s 1) 0,
   .lds 16 (.s 15),
   .bi 17 .eql (.s 16) (.c (.int .i64 2)),
   .mv 18 (.s 17),
   .gd 18 true 19 (.fa 19 (.s 1) 1),
   .gd 18 true 20 (.fa 20 (.s 19) 0),
   .gd 18 true 21 (.lds 21 (.s 20)),
   .gd 18 true 22 (.bi 22 .gtr (.s 21) (.c (.int .u64 0))),
   .gd 18 true 23 (.mv 23 (.s 22)),
   .gd 23 false 24 (.fa 24 (.s 1) 1),
   .gd 23 false 25 (.fa 25 (.s 24) 1),
   .gd 23 false 26 (.lds 26 (.s 25)),
   .gd 23 false 27 (.bi 27 .gtr (.s 26) (.c (.int .u64 0))),
   .gd 18 true 28 (.pk 28 (.s 23) (.c (.bool true)) (.s 27)),
   .pk 29 (.s 18) (.s 28) (.c (.bool false)),
   .mv 2 (.s 29)])
  .rt)))
def a41 : AF := ⟨c41, [.t 2], 1, 30⟩
theorem m41 : mF Try.prog gl drD Try.f41 a41 = true := by kernel_rfl
theorem s41 {l : List AV} {r : AV} (hl : l.length = 1) (hi : idsL l = []) (h : wpA (SpH Try.prog gl) c41 (postA [.t 2] r) ⟨initE 0 l, [], []⟩) : Sp Try.prog gl 41 l r :=
  @fun_sp Try.prog gl drD 41 Try.f41 a41 Try.func41 m41 (dok _) l r hl hi h
theorem h41 {d : Nat} {I : In} {O : Out} (hl : I.vs.length = 1) (h : wpA (SpH Try.prog gl) c41 (postH d [.t 2] O) (inSt I)) : SpH Try.prog gl 41 d I O :=
  @fun_spH Try.prog gl drD 41 Try.f41 a41 Try.func41 m41 (dok _) d I O hl h
/-- firebell/firebellref24.Print -/
def c42 : AC :=
 (.sq (.rg [.bx 1 (.s 0),
   .mv 2 (.c (.str []))])
  (.sq (.sq (.rg [.lda 3 3 (.s 1),
   .cl 4 41 [(.s 3)],
   .un 5 .not (.s 4)])
  (.cd (.s 5) (.sq (.rg [.mv 2 (.c (.str [63]))])
  .rt) .sk))
  (.sq (.sq (.rg [.fa 6 (.s 1) 0,
   .lds 7 (.s 6),
   .bi 8 .eql (.s 7) (.c (.int .i64 0))])
  (.cd (.s 8) (.sq (.rg [.mv 2 (.c (.str [103, 111, 110, 101]))])
  .rt) .sk))
  (.sq (.sq (.rg [.fa 9 (.s 1) 0,
   .lds 10 (.s 9),
   .bi 11 .eql (.s 10) (.c (.int .i64 1))])
  (.cd (.s 11) (.sq (.rg [.mv 2 (.c (.str [110, 101, 118, 101, 114]))])
  .rt) .sk))
  (.sq (.rg [.fa 12 (.s 1) 1,
   .lda 13 2 (.s 12),
   .cl 14 75 [(.s 13)],
   .cl 15 80 [(.s 14)],
   .mv 2 (.s 15)])
  .rt)))))
def a42 : AF := ⟨c42, [.t 2], 1, 16⟩
theorem m42 : mF Try.prog gl drD Try.f42 a42 = true := by kernel_rfl
theorem s42 {l : List AV} {r : AV} (hl : l.length = 1) (hi : idsL l = []) (h : wpA (SpH Try.prog gl) c42 (postA [.t 2] r) ⟨initE 0 l, [], []⟩) : Sp Try.prog gl 42 l r :=
  @fun_sp Try.prog gl drD 42 Try.f42 a42 Try.func42 m42 (dok _) l r hl hi h
theorem h42 {d : Nat} {I : In} {O : Out} (hl : I.vs.length = 1) (h : wpA (SpH Try.prog gl) c42 (postH d [.t 2] O) (inSt I)) : SpH Try.prog gl 42 d I O :=
  @fun_spH Try.prog gl drD 42 Try.f42 a42 Try.func42 m42 (dok _) d I O hl h
/-- firebell/firebellref25.Heavy -/
def c43 : AC :=
 (.sq (.rg [.bx 1 (.s 0),
   .mv 2 (.c (.bool false))])
  (.sq (.rg [.fa 3 (.s 1) 0,
   .lds 4 (.s 3),
   .lns 5 (.s 4),
   .bi 6 .gtr (.s 5) (.c (.int .i64 500)),
   .mv 7 (.s 6),
   .gd 7 false 8 (.fa 8 (.s 1) 1),
   .gd 7 false 9 (.lds 9 (.s 8)),
   .gd 7 false 10 (.lns 10 (.s 9)),
   .gd 7 false 11 (.bi 11 .gtr (.s 10) (.c (.int .i64 500))),
   .pk 12 (.s 7) (.c (.bool true)) (.s 11),
   .mv 2 (.s 12)])
  .rt))
def a43 : AF := ⟨c43, [.t 2], 1, 13⟩
theorem m43 : mF Try.prog gl drD Try.f43 a43 = true := by kernel_rfl
theorem s43 {l : List AV} {r : AV} (hl : l.length = 1) (hi : idsL l = []) (h : wpA (SpH Try.prog gl) c43 (postA [.t 2] r) ⟨initE 0 l, [], []⟩) : Sp Try.prog gl 43 l r :=
  @fun_sp Try.prog gl drD 43 Try.f43 a43 Try.func43 m43 (dok _) l r hl hi h
theorem h43 {d : Nat} {I : In} {O : Out} (hl : I.vs.length = 1) (h : wpA (SpH Try.prog gl) c43 (postH d [.t 2] O) (inSt I)) : SpH Try.prog gl 43 d I O :=
  @fun_spH Try.prog gl drD 43 Try.f43 a43 Try.func43 m43 (dok _) d I O hl h
/-- firebell/bundle.group -/
def c44 : AC :=
 (.sq (.rg [.mv 4 (.c .nils)])
  (.sq (.rg [.mv 5 (.c .nils)])
  (.sq (.sq (.rg [.mv 9 (.s 0),
   .ln 10 (.s 9),
   .mv 11 (.c (.int .i64 0))])
  (.bl 0 (.lp (.sq (.rg [.bi 12 .lss (.s 11) (.s 10)])
  (.sq (.cd (.s 12) .sk (.ex 0))
  (.sq (.bl 1 (.sq (.rg [.ia 13 5 (.s 9) (.s 11),
   .lda 14 5 (.s 13),
   .al 7 [(.str []), (.str []), (.bool false), (.int .u64 0), (.bool false)],
   .st 5 (.s 7) (.s 14)])
  (.sq (.sq (.rg [.fa 15 (.s 7) 2,
   .lds 16 (.s 15),
   .mv 17 (.s 1),
   .bb 18 true (.s 16) (.s 17)])
  (.cd (.s 18) (.ex 1) .sk))
  (.sq (.rg [.mv 19 (.s 5),
   .mf 20 82 [(.s 7)],
   .ce 21 81 [(.s 19), (.s 20)],
   .mv 8 (.s 21)])
  (.sq (.sq (.rg [.mv 22 (.s 8),
   .bi 23 .lss (.s 22) (.c (.int .i64 0))])
  (.cd (.s 23) (.sq (.rg [.mv 24 (.s 5),
   .ln 25 (.s 24),
   .mv 8 (.s 25)])
  (.rg [.mo 26 5,
   .fa 27 (.s 7) 0,
   .lds 28 (.s 27),
   .fa 29 (.s 7) 2,
   .lds 30 (.s 29),
   .bd 31 [(.str []), (.bool false), .nils] [(0, 1, (.s 28)), (1, 1, (.s 30))],
   .bsn 32 3 [(.s 31)],
   .apm 33 3 48 (.s 26) (.s 32),
   .mo 5 33])) .sk))
  (.rd [[], [], [], [], [], [], [], [6], [], [], [], [], []] [.mv 34 (.s 5),
   .mv 35 (.s 8),
   .mv 36 (.s 5),
   .mv 37 (.s 8),
   .ia 38 3 (.s 36) (.s 37),
   .fa 39 (.s 38) 2,
   .lo 40 (.s 39),
   .lda 41 5 (.s 7),
   .bs 42 5 [(.s 41)],
   .ap 43 5 56 (.s 40) (.s 42),
   .ia 44 3 (.s 34) (.s 35),
   .fa 45 (.s 44) 2,
   .so (.s 45) 43]))))))
  (.rg [.bi 46 .add (.s 11) (.c (.int .i64 1)),
   .mv 11 (.s 46)])))))))
  (.sq (.rg [.mv 47 (.s 5),
   .mv 4 (.s 47)])
  .rt))))
def a44 : AF := ⟨c44, [.t 4], 2, 48⟩
theorem m44 : mF Try.prog gl drD Try.f44 a44 = true := by kernel_rfl
theorem s44 {l : List AV} {r : AV} (hl : l.length = 2) (hi : idsL l = []) (h : wpA (SpH Try.prog gl) c44 (postF [.t 4] r) ⟨initE 0 l, [], []⟩) : Sp Try.prog gl 44 l r :=
  @fun_spF Try.prog gl drD 44 Try.f44 a44 Try.func44 m44 (dok _) l r hl hi h
theorem h44 {d : Nat} {I : In} {O : Out} (hl : I.vs.length = 2) (h : wpA (SpH Try.prog gl) c44 (postH d [.t 4] O) (inSt I)) : SpH Try.prog gl 44 d I O :=
  @fun_spH Try.prog gl drD 44 Try.f44 a44 Try.func44 m44 (dok _) d I O hl h
/-- firebell/firebellref30.SameOne -/
def c45 : AC :=
 (.sq (.rg [.bx 2 (.s 0),
   .bx 3 (.s 1),
   .mv 4 (.c (.bool false))])
  (.sq (.rg [.fa 5 (.s 2) 0,
   .lds 6 (.s 5),
   .fa 7 (.s 3) 0,
   .lds 8 (.s 7),
   .bi 9 .eql (.s 6) (.s 8),
   .mv 10 (.s 9),
   .gd 10 true 11 (.fa 11 (.s 2) 1),
   .gd 10 true 12 (.lds 12 (.s 11)),
   .gd 10 true 13 (.fa 13 (.s 3) 1),
   .gd 10 true 14 (.lds 14 (.s 13)),
   .gd 10 true 15 (.bb 15 false (.s 12) (.s 14)),
   .pk 16 (.s 10) (.s 15) (.c (.bool false)),
   .mv 17 (.s 16),
   .gd 17 true 18 (.fa 18 (.s 2) 2),
   .gd 17 true 19 (.lds 19 (.s 18)),
   .gd 17 true 20 (.fa 20 (.s 3) 2),
   .gd 17 true 21 (.lds 21 (.s 20)),
   .gd 17 true 22 (.cl 22 84 [(.s 19), (.s 21)]),
   .pk 23 (.s 17) (.s 22) (.c (.bool false)),
   .mv 4 (.s 23)])
  .rt))
def a45 : AF := ⟨c45, [.t 4], 2, 24⟩
theorem m45 : mF Try.prog gl drD Try.f45 a45 = true := by kernel_rfl
theorem s45 {l : List AV} {r : AV} (hl : l.length = 2) (hi : idsL l = []) (h : wpA (SpH Try.prog gl) c45 (postA [.t 4] r) ⟨initE 0 l, [], []⟩) : Sp Try.prog gl 45 l r :=
  @fun_sp Try.prog gl drD 45 Try.f45 a45 Try.func45 m45 (dok _) l r hl hi h
theorem h45 {d : Nat} {I : In} {O : Out} (hl : I.vs.length = 2) (h : wpA (SpH Try.prog gl) c45 (postH d [.t 4] O) (inSt I)) : SpH Try.prog gl 45 d I O :=
  @fun_spH Try.prog gl drD 45 Try.f45 a45 Try.func45 m45 (dok _) d I O hl h
/-- firebell/firebellref30.ahead -/
def c46 : AC :=
 (.sq (.rg [.mv 4 (.c (.int .i64 0))])
  (.sq (.rg [.mv 5 (.c (.int .i64 0))])
  (.sq (.sq (.rg [.mv 6 (.c (.int .i64 0))])
  (.bl 0 (.lp (.sq (.sq (.rg [.mv 7 (.s 6),
   .mv 8 (.s 1),
   .bi 9 .lss (.s 7) (.s 8)])
  (.cd (.s 9) .sk (.ex 0)))
  (.sq (.bl 1 (.sq (.rd [[], [], [], [], [], [], [], [], [], [], [], [], [], [], [], [], [], [], [], [], [], [], [], []] [.mv 12 (.s 0),
   .mv 13 (.s 6),
   .ia 14 5 (.s 12) (.s 13),
   .fa 15 (.s 14) 0,
   .lds 16 (.s 15),
   .mv 17 (.s 0),
   .mv 18 (.s 1),
   .ia 19 5 (.s 17) (.s 18),
   .fa 20 (.s 19) 0,
   .lds 21 (.s 20),
   .bi 22 .eql (.s 16) (.s 21),
   .mv 23 (.s 22),
   .gd 23 true 24 (.mv 24 (.s 0)),
   .gd 23 true 25 (.mv 25 (.s 6)),
   .gd 23 true 26 (.ia 26 5 (.s 24) (.s 25)),
   .gd 23 true 27 (.fa 27 (.s 26) 2),
   .gd 23 true 28 (.lds 28 (.s 27)),
   .gd 23 true 29 (.mv 29 (.s 0)),
   .gd 23 true 30 (.mv 30 (.s 1)),
   .gd 23 true 31 (.ia 31 5 (.s 29) (.s 30)),
   .gd 23 true 32 (.fa 32 (.s 31) 2),
   .gd 23 true 33 (.lds 33 (.s 32)),
   .gd 23 true 34 (.bb 34 false (.s 28) (.s 33)),
   .pk 35 (.s 23) (.s 34) (.c (.bool false))])
  (.cd (.s 35) (.rg [.mv 36 (.s 5),
   .bi 37 .add (.s 36) (.c (.int .i64 1)),
   .mv 5 (.s 37)]) .sk)))
  (.rg [.mv 10 (.s 6),
   .bi 11 .add (.s 10) (.c (.int .i64 1)),
   .mv 6 (.s 11)]))))))
  (.sq (.rg [.mv 38 (.s 5),
   .mv 4 (.s 38)])
  .rt))))
def a46 : AF := ⟨c46, [.t 4], 2, 39⟩
theorem m46 : mF Try.prog gl drD Try.f46 a46 = true := by kernel_rfl
theorem s46 {l : List AV} {r : AV} (hl : l.length = 2) (hi : idsL l = []) (h : wpA (SpH Try.prog gl) c46 (postA [.t 4] r) ⟨initE 0 l, [], []⟩) : Sp Try.prog gl 46 l r :=
  @fun_sp Try.prog gl drD 46 Try.f46 a46 Try.func46 m46 (dok _) l r hl hi h
theorem h46 {d : Nat} {I : In} {O : Out} (hl : I.vs.length = 2) (h : wpA (SpH Try.prog gl) c46 (postH d [.t 4] O) (inSt I)) : SpH Try.prog gl 46 d I O :=
  @fun_spH Try.prog gl drD 46 Try.f46 a46 Try.func46 m46 (dok _) d I O hl h
/-- firebell/firebellref06.Name -/
def c47 : AC :=
 (.sq (.rg [.mv 2 (.c (.bool false))])
  (.sq (.rg [.mv 7 (.s 0),
   .cl 8 85 [(.s 7)],
   .mv 3 (.s 8)])
  (.sq (.sq (.rg [.mv 9 (.s 3),
   .ln 10 (.s 9),
   .bi 11 .eql (.s 10) (.c (.int .i64 0)),
   .mv 12 (.s 11),
   .gd 12 false 13 (.mv 13 (.s 3)),
   .gd 12 false 14 (.ln 14 (.s 13)),
   .gd 12 false 15 (.bi 15 .gtr (.s 14) (.c (.int .i64 24))),
   .pk 16 (.s 12) (.c (.bool true)) (.s 15),
   .mv 17 (.s 16),
   .gd 17 false 18 (.mv 18 (.s 3)),
   .gd 17 false 19 (.ia 19 1 (.s 18) (.c (.int .i64 0))),
   .gd 17 false 20 (.lds 20 (.s 19)),
   .gd 17 false 21 (.cl 21 86 [(.s 20)]),
   .gd 17 false 22 (.un 22 .not (.s 21)),
   .pk 23 (.s 17) (.c (.bool true)) (.s 22)])
  (.cd (.s 23) (.sq (.rg [.mv 2 (.c (.bool false))])
  .rt) .sk))
  (.sq (.sq (.rg [.mv 4 (.c (.int .i64 0))])
  (.bl 0 (.lp (.sq (.sq (.rg [.mv 24 (.s 4),
   .mv 25 (.s 3),
   .ln 26 (.s 25),
   .bi 27 .lss (.s 24) (.s 26)])
  (.cd (.s 27) .sk (.ex 0)))
  (.sq (.bl 1 (.sq (.rg [.mv 30 (.s 4),
   .mv 31 (.s 3),
   .ln 32 (.s 31),
   .bi 33 .sub (.s 32) (.c (.int .i64 1)),
   .bi 34 .eql (.s 30) (.s 33),
   .mv 5 (.s 34)])
  (.sq (.rg [.mv 35 (.s 3),
   .mv 36 (.s 4),
   .ia 37 1 (.s 35) (.s 36),
   .lds 38 (.s 37),
   .bi 39 .geq (.s 38) (.c (.int .i32 48)),
   .mv 40 (.s 39),
   .gd 40 true 41 (.mv 41 (.s 3)),
   .gd 40 true 42 (.mv 42 (.s 4)),
   .gd 40 true 43 (.ia 43 1 (.s 41) (.s 42)),
   .gd 40 true 44 (.lds 44 (.s 43)),
   .gd 40 true 45 (.bi 45 .leq (.s 44) (.c (.int .i32 57))),
   .pk 46 (.s 40) (.s 45) (.c (.bool false)),
   .mv 6 (.s 46)])
  (.sq (.rg [.mv 47 (.s 3),
   .mv 48 (.s 4),
   .ia 49 1 (.s 47) (.s 48),
   .lds 50 (.s 49),
   .cl 51 86 [(.s 50)],
   .un 52 .not (.s 51),
   .mv 53 (.s 52),
   .gd 53 true 54 (.mv 54 (.s 6)),
   .gd 53 true 55 (.un 55 .not (.s 54)),
   .pk 56 (.s 53) (.s 55) (.c (.bool false)),
   .mv 57 (.s 56),
   .gd 57 true 58 (.mv 58 (.s 5)),
   .gd 57 true 59 (.mv 59 (.s 58)),
   .gd 59 false 60 (.mv 60 (.s 3)),
   .gd 59 false 61 (.mv 61 (.s 4)),
   .gd 59 false 62 (.ia 62 1 (.s 60) (.s 61)),
   .gd 59 false 63 (.lds 63 (.s 62)),
   .gd 59 false 64 (.bi 64 .neq (.s 63) (.c (.int .i32 95))),
   .gd 59 false 65 (.mv 65 (.s 64)),
   .gd 65 true 66 (.mv 66 (.s 3)),
   .gd 65 true 67 (.mv 67 (.s 4)),
   .gd 65 true 68 (.ia 68 1 (.s 66) (.s 67)),
   .gd 65 true 69 (.lds 69 (.s 68)),
   .gd 65 true 70 (.bi 70 .neq (.s 69) (.c (.int .i32 45))),
   .gd 59 false 71 (.pk 71 (.s 65) (.s 70) (.c (.bool false))),
   .gd 57 true 72 (.pk 72 (.s 59) (.c (.bool true)) (.s 71)),
   .pk 73 (.s 57) (.s 72) (.c (.bool false))])
  (.cd (.s 73) (.sq (.rg [.mv 2 (.c (.bool false))])
  .rt) .sk)))))
  (.rg [.mv 28 (.s 4),
   .bi 29 .add (.s 28) (.c (.int .i64 1)),
   .mv 4 (.s 29)]))))))
  (.sq (.rg [.mv 2 (.c (.bool true))])
  .rt)))))
def a47 : AF := ⟨c47, [.t 2], 1, 74⟩
theorem m47 : mF Try.prog gl drD Try.f47 a47 = true := by kernel_rfl
theorem s47 {l : List AV} {r : AV} (hl : l.length = 1) (hi : idsL l = []) (h : wpA (SpH Try.prog gl) c47 (postA [.t 2] r) ⟨initE 0 l, [], []⟩) : Sp Try.prog gl 47 l r :=
  @fun_sp Try.prog gl drD 47 Try.f47 a47 Try.func47 m47 (dok _) l r hl hi h
theorem h47 {d : Nat} {I : In} {O : Out} (hl : I.vs.length = 1) (h : wpA (SpH Try.prog gl) c47 (postH d [.t 2] O) (inSt I)) : SpH Try.prog gl 47 d I O :=
  @fun_spH Try.prog gl drD 47 Try.f47 a47 Try.func47 m47 (dok _) d I O hl h
/-- firebell/key.Right -/
def c48 : AC :=
 (.sq (.rg [.bx 1 (.s 0),
   .mv 2 (.c (.bool false))])
  (.sq (.rg [.fa 3 (.s 1) 0,
   .lds 4 (.s 3),
   .cl 5 87 [(.s 4)],
   .mv 6 (.s 5),
   .gd 6 true 7 (.fa 7 (.s 1) 1),
   .gd 6 true 8 (.lds 8 (.s 7)),
   .gd 6 true 9 (.cl 9 87 [(.s 8)]),
   .pk 10 (.s 6) (.s 9) (.c (.bool false)),
   .mv 11 (.s 10),
   .gd 11 true 12 (.fa 12 (.s 1) 3),
   .gd 11 true 13 (.lds 13 (.s 12)),
   .gd 11 true 14 (.bi 14 .geq (.s 13) (.c (.int .u64 1))),
   .pk 15 (.s 11) (.s 14) (.c (.bool false)),
   .mv 16 (.s 15),
   .gd 16 true 17 (.fa 17 (.s 1) 3),
   .gd 16 true 18 (.lds 18 (.s 17)),
   .gd 16 true 19 (.bi 19 .leq (.s 18) (.c (.int .u64 4611686018427387904))),
   .pk 20 (.s 16) (.s 19) (.c (.bool false)),
   .mv 2 (.s 20)])
  .rt))
def a48 : AF := ⟨c48, [.t 2], 1, 21⟩
theorem m48 : mF Try.prog gl drD Try.f48 a48 = true := by kernel_rfl
theorem s48 {l : List AV} {r : AV} (hl : l.length = 1) (hi : idsL l = []) (h : wpA (SpH Try.prog gl) c48 (postA [.t 2] r) ⟨initE 0 l, [], []⟩) : Sp Try.prog gl 48 l r :=
  @fun_sp Try.prog gl drD 48 Try.f48 a48 Try.func48 m48 (dok _) l r hl hi h
theorem h48 {d : Nat} {I : In} {O : Out} (hl : I.vs.length = 1) (h : wpA (SpH Try.prog gl) c48 (postH d [.t 2] O) (inSt I)) : SpH Try.prog gl 48 d I O :=
  @fun_spH Try.prog gl drD 48 Try.f48 a48 Try.func48 m48 (dok _) d I O hl h
/-- slices.Index[[]firebell/api.Key,firebell/api.Key] -/
def c49 : AC :=
 (.sq (.rg [.bx 3 (.s 1),
   .mv 4 (.c (.int .i64 0))])
  (.sq (.sq (.rg [.mv 6 (.s 0),
   .ln 7 (.s 6),
   .mv 8 (.c (.int .i64 0))])
  (.bl 0 (.lp (.sq (.rg [.bi 9 .lss (.s 8) (.s 7)])
  (.sq (.cd (.s 9) .sk (.ex 0))
  (.sq (.bl 1 (.sq (.rg [.mv 10 (.s 8),
   .mv 5 (.s 10)])
  (.sq (.rd [[], [], [], [], [], []] [.lda 11 5 (.s 3),
   .mv 12 (.s 0),
   .mv 13 (.s 5),
   .ia 14 5 (.s 12) (.s 13),
   .lda 15 5 (.s 14),
   .ea 16 false [.s, .s, .b, .i, .b] (.s 11) (.s 15)])
  (.cd (.s 16) (.sq (.rg [.mv 17 (.s 5),
   .mv 4 (.s 17)])
  .rt) .sk))))
  (.rg [.bi 18 .add (.s 8) (.c (.int .i64 1)),
   .mv 8 (.s 18)])))))))
  (.sq (.rg [.mv 4 (.c (.int .i64 (-1)))])
  .rt)))
def a49 : AF := ⟨c49, [.t 4], 2, 19⟩
theorem m49 : mF Try.prog gl drD Try.f49 a49 = true := by kernel_rfl
theorem s49 {l : List AV} {r : AV} (hl : l.length = 2) (hi : idsL l = []) (h : wpA (SpH Try.prog gl) c49 (postA [.t 4] r) ⟨initE 0 l, [], []⟩) : Sp Try.prog gl 49 l r :=
  @fun_sp Try.prog gl drD 49 Try.f49 a49 Try.func49 m49 (dok _) l r hl hi h
theorem h49 {d : Nat} {I : In} {O : Out} (hl : I.vs.length = 2) (h : wpA (SpH Try.prog gl) c49 (postH d [.t 4] O) (inSt I)) : SpH Try.prog gl 49 d I O :=
  @fun_spH Try.prog gl drD 49 Try.f49 a49 Try.func49 m49 (dok _) d I O hl h
/-- firebell/burn.may -/
def c50 : AC :=
 (.sq (.rg [.bx 3 (.s 1),
   .mv 4 (.c (.int .i64 0))])
  (.sq (.bl 0 (.sq (.rg [.mv 6 (.s 0),
   .cl 7 88 [(.s 6)],
   .un 8 .not (.s 7),
   .mv 5 (.s 8)])
  (.cd (.s 5) (.sq (.rg [.mv 4 (.c (.int .i64 8))])
  .rt) (.sq (.rg [.fa 10 (.s 3) 0,
   .lds 11 (.s 10),
   .fa 12 (.s 3) 1,
   .lds 13 (.s 12),
   .bi 14 .gtr (.s 11) (.s 13),
   .mv 9 (.s 14)])
  (.cd (.s 9) (.sq (.rg [.mv 4 (.c (.int .i64 16))])
  .rt) .sk)))))
  (.sq (.rg [.mv 4 (.c (.int .i64 0))])
  .rt)))
def a50 : AF := ⟨c50, [.t 4], 2, 15⟩
theorem m50 : mF Try.prog gl drD Try.f50 a50 = true := by kernel_rfl
theorem s50 {l : List AV} {r : AV} (hl : l.length = 2) (hi : idsL l = []) (h : wpA (SpH Try.prog gl) c50 (postA [.t 4] r) ⟨initE 0 l, [], []⟩) : Sp Try.prog gl 50 l r :=
  @fun_sp Try.prog gl drD 50 Try.f50 a50 Try.func50 m50 (dok _) l r hl hi h
theorem h50 {d : Nat} {I : In} {O : Out} (hl : I.vs.length = 2) (h : wpA (SpH Try.prog gl) c50 (postH d [.t 4] O) (inSt I)) : SpH Try.prog gl 50 d I O :=
  @fun_spH Try.prog gl drD 50 Try.f50 a50 Try.func50 m50 (dok _) d I O hl h
/-- firebell/exact.Times -/
def c51 : AC :=
 (.sq (.rg [.al 4 [(.int .u64 0), (.int .u64 0)]])
  (.sq (.rg [.mv 8 (.s 0),
   .mv 9 (.s 1),
   .cl 10 89 [(.s 8), (.s 9)],
   .mv 7 (.s 10),
   .exq 11 (.s 7) 0,
   .exq 12 (.s 7) 1,
   .mv 5 (.s 11),
   .mv 6 (.s 12)])
  (.sq (.rg [.mv 13 (.s 5),
   .mv 14 (.s 6),
   .bd 15 [(.int .u64 0), (.int .u64 0)] [(0, 1, (.s 13)), (1, 1, (.s 14))],
   .st 2 (.s 4) (.s 15)])
  .rt)))
def a51 : AF := ⟨c51, [.ca 4 2], 2, 16⟩
theorem m51 : mF Try.prog gl drD Try.f51 a51 = true := by kernel_rfl
theorem s51 {l : List AV} {r : AV} (hl : l.length = 2) (hi : idsL l = []) (h : wpA (SpH Try.prog gl) c51 (postA [.ca 4 2] r) ⟨initE 0 l, [], []⟩) : Sp Try.prog gl 51 l r :=
  @fun_sp Try.prog gl drD 51 Try.f51 a51 Try.func51 m51 (dok _) l r hl hi h
theorem h51 {d : Nat} {I : In} {O : Out} (hl : I.vs.length = 2) (h : wpA (SpH Try.prog gl) c51 (postH d [.ca 4 2] O) (inSt I)) : SpH Try.prog gl 51 d I O :=
  @fun_spH Try.prog gl drD 51 Try.f51 a51 Try.func51 m51 (dok _) d I O hl h
/-- firebell/ppm.Rest -/
def c52 : AC :=
 (.sq (.rg [.mv 2 (.c (.int .u32 0))])
  (.sq (.sq (.rg [.mv 3 (.s 0),
   .cl 4 88 [(.s 3)],
   .un 5 .not (.s 4)])
  (.cd (.s 5) (.sq (.rg [.mv 2 (.c (.int .u32 0))])
  .rt) .sk))
  (.sq (.rg [.mv 6 (.s 0),
   .bi 7 .sub (.c (.int .u32 1000000)) (.s 6),
   .mv 2 (.s 7)])
  .rt)))
def a52 : AF := ⟨c52, [.t 2], 1, 8⟩
theorem m52 : mF Try.prog gl drD Try.f52 a52 = true := by kernel_rfl
theorem s52 {l : List AV} {r : AV} (hl : l.length = 1) (hi : idsL l = []) (h : wpA (SpH Try.prog gl) c52 (postA [.t 2] r) ⟨initE 0 l, [], []⟩) : Sp Try.prog gl 52 l r :=
  @fun_sp Try.prog gl drD 52 Try.f52 a52 Try.func52 m52 (dok _) l r hl hi h
theorem h52 {d : Nat} {I : In} {O : Out} (hl : I.vs.length = 1) (h : wpA (SpH Try.prog gl) c52 (postH d [.t 2] O) (inSt I)) : SpH Try.prog gl 52 d I O :=
  @fun_spH Try.prog gl drD 52 Try.f52 a52 Try.func52 m52 (dok _) d I O hl h
/-- firebell/exact.Compare -/
def c53 : AC :=
 (.sq (.rg [.bx 2 (.s 0),
   .bx 3 (.s 1),
   .mv 4 (.c (.int .i64 0))])
  (.sq (.rd [[], [], [], [], [], [], [], [], [], [], [], [], []] [.fa 5 (.s 2) 0,
   .lds 6 (.s 5),
   .fa 7 (.s 3) 0,
   .lds 8 (.s 7),
   .cl 9 91 [(.s 6), (.s 8)],
   .fa 10 (.s 2) 1,
   .lds 11 (.s 10),
   .fa 12 (.s 3) 1,
   .lds 13 (.s 12),
   .cl 14 91 [(.s 11), (.s 13)],
   .bs 15 1 [(.s 9), (.s 14)],
   .cl 16 90 [(.s 15)],
   .mv 4 (.s 16)])
  .rt))
def a53 : AF := ⟨c53, [.t 4], 2, 17⟩
theorem m53 : mF Try.prog gl drD Try.f53 a53 = true := by kernel_rfl
theorem s53 {l : List AV} {r : AV} (hl : l.length = 2) (hi : idsL l = []) (h : wpA (SpH Try.prog gl) c53 (postA [.t 4] r) ⟨initE 0 l, [], []⟩) : Sp Try.prog gl 53 l r :=
  @fun_sp Try.prog gl drD 53 Try.f53 a53 Try.func53 m53 (dok _) l r hl hi h
theorem h53 {d : Nat} {I : In} {O : Out} (hl : I.vs.length = 2) (h : wpA (SpH Try.prog gl) c53 (postH d [.t 4] O) (inSt I)) : SpH Try.prog gl 53 d I O :=
  @fun_spH Try.prog gl drD 53 Try.f53 a53 Try.func53 m53 (dok _) d I O hl h
/-- firebell/burn.bad -/
def c54 : AC :=
 (.sq (.rg [.bx 1 (.s 0),
   .al 2 [(.int .u64 0), (.int .u64 0)]])
  (.sq (.rg [.fa 3 (.s 1) 1,
   .lds 4 (.s 3),
   .fa 5 (.s 1) 0,
   .lds 6 (.s 5),
   .bi 7 .sub (.s 4) (.s 6),
   .cl 8 51 [(.s 7), (.c (.int .u64 1000000000))],
   .st 2 (.s 2) (.s 8)])
  .rt))
def a54 : AF := ⟨c54, [.ca 2 2], 1, 9⟩
theorem m54 : mF Try.prog gl drD Try.f54 a54 = true := by kernel_rfl
theorem s54 {l : List AV} {r : AV} (hl : l.length = 1) (hi : idsL l = []) (h : wpA (SpH Try.prog gl) c54 (postA [.ca 2 2] r) ⟨initE 0 l, [], []⟩) : Sp Try.prog gl 54 l r :=
  @fun_sp Try.prog gl drD 54 Try.f54 a54 Try.func54 m54 (dok _) l r hl hi h
theorem h54 {d : Nat} {I : In} {O : Out} (hl : I.vs.length = 1) (h : wpA (SpH Try.prog gl) c54 (postH d [.ca 2 2] O) (inSt I)) : SpH Try.prog gl 54 d I O :=
  @fun_spH Try.prog gl drD 54 Try.f54 a54 Try.func54 m54 (dok _) d I O hl h
/-- firebell/firebellref21.Bad -/
def c55 : AC :=
 (.sq (.rg [.bx 1 (.s 0),
   .mv 2 (.c .nils)])
  (.sq (.rg [.fa 3 (.s 1) 1,
   .lds 4 (.s 3),
   .fa 5 (.s 1) 0,
   .lds 6 (.s 5),
   .bi 7 .sub (.s 4) (.s 6),
   .cl 8 92 [(.s 7)],
   .cl 9 92 [(.c (.int .u64 1000000000))],
   .cl 10 66 [(.s 8), (.s 9)],
   .mv 2 (.s 10)])
  .rt))
def a55 : AF := ⟨c55, [.t 2], 1, 11⟩
theorem m55 : mF Try.prog gl drD Try.f55 a55 = true := by kernel_rfl
theorem s55 {l : List AV} {r : AV} (hl : l.length = 1) (hi : idsL l = []) (h : wpA (SpH Try.prog gl) c55 (postA [.t 2] r) ⟨initE 0 l, [], []⟩) : Sp Try.prog gl 55 l r :=
  @fun_sp Try.prog gl drD 55 Try.f55 a55 Try.func55 m55 (dok _) l r hl hi h
theorem h55 {d : Nat} {I : In} {O : Out} (hl : I.vs.length = 1) (h : wpA (SpH Try.prog gl) c55 (postH d [.t 2] O) (inSt I)) : SpH Try.prog gl 55 d I O :=
  @fun_spH Try.prog gl drD 55 Try.f55 a55 Try.func55 m55 (dok _) d I O hl h
/-- firebell/firebellref21.Allowed -/
def c56 : AC :=
 (.sq (.rg [.bx 5 (.s 2),
   .mv 6 (.c .nils)])
  (.sq (.rd [[], [], [], [], [], [], [], [], [], [], [], []] [.mv 7 (.s 1),
   .cl 8 92 [(.s 7)],
   .mv 9 (.s 0),
   .bi 10 .sub (.c (.int .u32 1000000)) (.s 9),
   .cv 11 .u64 (.s 10),
   .cl 12 92 [(.s 11)],
   .cl 13 66 [(.s 8), (.s 12)],
   .fa 14 (.s 5) 1,
   .lds 15 (.s 14),
   .cl 16 92 [(.s 15)],
   .cl 17 66 [(.s 13), (.s 16)],
   .mv 6 (.s 17)])
  .rt))
def a56 : AF := ⟨c56, [.t 6], 3, 18⟩
theorem m56 : mF Try.prog gl drD Try.f56 a56 = true := by kernel_rfl
theorem s56 {l : List AV} {r : AV} (hl : l.length = 3) (hi : idsL l = []) (h : wpA (SpH Try.prog gl) c56 (postA [.t 6] r) ⟨initE 0 l, [], []⟩) : Sp Try.prog gl 56 l r :=
  @fun_sp Try.prog gl drD 56 Try.f56 a56 Try.func56 m56 (dok _) l r hl hi h
theorem h56 {d : Nat} {I : In} {O : Out} (hl : I.vs.length = 3) (h : wpA (SpH Try.prog gl) c56 (postH d [.t 6] O) (inSt I)) : SpH Try.prog gl 56 d I O :=
  @fun_spH Try.prog gl drD 56 Try.f56 a56 Try.func56 m56 (dok _) d I O hl h
/-- firebell/exact.Floor -/
def c57 : AC :=
 (.sq (.rg [.bx 2 (.s 0),
   .al 4 [(.int .u64 0), (.int .u64 0)],
   .mv 5 (.c (.int .u64 0)),
   .mv 6 (.c (.int .i64 0))])
  (.sq (.sq (.rg [.mv 10 (.s 1),
   .bi 11 .eql (.s 10) (.c (.int .u64 0))])
  (.cd (.s 11) (.sq (.rg [.bd 12 [(.int .u64 0), (.int .u64 0)] [],
   .st 2 (.s 4) (.s 12),
   .mv 5 (.c (.int .u64 0)),
   .mv 6 (.c (.int .i64 4))])
  .rt) .sk))
  (.sq (.rg [.fa 14 (.s 2) 0,
   .lds 15 (.s 14),
   .mv 16 (.s 1),
   .cl 17 93 [(.c (.int .u64 0)), (.s 15), (.s 16)],
   .mv 13 (.s 17),
   .exq 18 (.s 13) 0,
   .exq 19 (.s 13) 1,
   .mv 7 (.s 18),
   .mv 8 (.s 19)])
  (.sq (.rg [.mv 21 (.s 8),
   .fa 22 (.s 2) 1,
   .lds 23 (.s 22),
   .mv 24 (.s 1),
   .cl 25 93 [(.s 21), (.s 23), (.s 24)],
   .mv 20 (.s 25),
   .exq 26 (.s 20) 0,
   .exq 27 (.s 20) 1,
   .mv 9 (.s 26),
   .mv 8 (.s 27)])
  (.sq (.rg [.mv 28 (.s 7),
   .mv 29 (.s 9),
   .bd 30 [(.int .u64 0), (.int .u64 0)] [(0, 1, (.s 28)), (1, 1, (.s 29))],
   .mv 31 (.s 8),
   .st 2 (.s 4) (.s 30),
   .mv 5 (.s 31),
   .mv 6 (.c (.int .i64 0))])
  .rt)))))
def a57 : AF := ⟨c57, [.ca 4 2, .t 5, .t 6], 2, 32⟩
theorem m57 : mF Try.prog gl drD Try.f57 a57 = true := by kernel_rfl
theorem s57 {l : List AV} {r : AV} (hl : l.length = 2) (hi : idsL l = []) (h : wpA (SpH Try.prog gl) c57 (postA [.ca 4 2, .t 5, .t 6] r) ⟨initE 0 l, [], []⟩) : Sp Try.prog gl 57 l r :=
  @fun_sp Try.prog gl drD 57 Try.f57 a57 Try.func57 m57 (dok _) l r hl hi h
theorem h57 {d : Nat} {I : In} {O : Out} (hl : I.vs.length = 2) (h : wpA (SpH Try.prog gl) c57 (postH d [.ca 4 2, .t 5, .t 6] O) (inSt I)) : SpH Try.prog gl 57 d I O :=
  @fun_spH Try.prog gl drD 57 Try.f57 a57 Try.func57 m57 (dok _) d I O hl h
/-- firebell/ledger.may -/
def c58 : AC :=
 (.sq (.rg [.bx 3 (.s 1),
   .mv 4 (.c (.int .i64 0))])
  (.sq (.bl 0 (.sq (.rg [.mv 6 (.s 0),
   .cl 7 88 [(.s 6)],
   .un 8 .not (.s 7),
   .mv 5 (.s 8)])
  (.cd (.s 5) (.sq (.rg [.mv 4 (.c (.int .i64 8))])
  .rt) (.sq (.rg [.fa 10 (.s 3) 0,
   .lds 11 (.s 10),
   .fa 12 (.s 3) 1,
   .lds 13 (.s 12),
   .bi 14 .gtr (.s 11) (.s 13),
   .mv 9 (.s 14)])
  (.cd (.s 9) (.sq (.rg [.mv 4 (.c (.int .i64 16))])
  .rt) .sk)))))
  (.sq (.rg [.mv 4 (.c (.int .i64 0))])
  .rt)))
def a58 : AF := ⟨c58, [.t 4], 2, 15⟩
theorem m58 : mF Try.prog gl drD Try.f58 a58 = true := by kernel_rfl
theorem s58 {l : List AV} {r : AV} (hl : l.length = 2) (hi : idsL l = []) (h : wpA (SpH Try.prog gl) c58 (postA [.t 4] r) ⟨initE 0 l, [], []⟩) : Sp Try.prog gl 58 l r :=
  @fun_sp Try.prog gl drD 58 Try.f58 a58 Try.func58 m58 (dok _) l r hl hi h
theorem h58 {d : Nat} {I : In} {O : Out} (hl : I.vs.length = 2) (h : wpA (SpH Try.prog gl) c58 (postH d [.t 4] O) (inSt I)) : SpH Try.prog gl 58 d I O :=
  @fun_spH Try.prog gl drD 58 Try.f58 a58 Try.func58 m58 (dok _) d I O hl h
/-- firebell/signed.Between -/
def c59 : AC :=
 (.sq (.rg [.bx 2 (.s 0),
   .bx 3 (.s 1),
   .al 4 [(.bool false), (.int .u64 0), (.int .u64 0)]])
  (.sq (.sq (.rg [.lda 10 2 (.s 2),
   .lda 11 2 (.s 3),
   .cl 12 94 [(.s 10), (.s 11)],
   .mv 9 (.s 12),
   .exq 13 (.s 9) 0,
   .exq 14 (.s 9) 1,
   .al 5 [(.int .u64 0), (.int .u64 0)],
   .st 2 (.s 5) (.s 13),
   .mv 6 (.s 14)])
  (.sq (.rg [.mv 15 (.s 6),
   .bi 16 .eql (.s 15) (.c (.int .i64 0))])
  (.cd (.s 16) (.sq (.rg [.lda 17 2 (.s 5),
   .cl 18 71 [(.c (.bool false)), (.s 17)],
   .st 3 (.s 4) (.s 18)])
  .rt) .sk)))
  (.sq (.rg [.lda 20 2 (.s 3),
   .lda 21 2 (.s 2),
   .cl 22 94 [(.s 20), (.s 21)],
   .mv 19 (.s 22),
   .exq 23 (.s 19) 0,
   .exq 24 (.s 19) 1,
   .al 7 [(.int .u64 0), (.int .u64 0)],
   .st 2 (.s 7) (.s 23),
   .mv 8 (.s 24)])
  (.sq (.rg [.lda 25 2 (.s 7),
   .cl 26 71 [(.c (.bool true)), (.s 25)],
   .st 3 (.s 4) (.s 26)])
  .rt))))
def a59 : AF := ⟨c59, [.ca 4 3], 2, 27⟩
theorem m59 : mF Try.prog gl drD Try.f59 a59 = true := by kernel_rfl
theorem s59 {l : List AV} {r : AV} (hl : l.length = 2) (hi : idsL l = []) (h : wpA (SpH Try.prog gl) c59 (postA [.ca 4 3] r) ⟨initE 0 l, [], []⟩) : Sp Try.prog gl 59 l r :=
  @fun_sp Try.prog gl drD 59 Try.f59 a59 Try.func59 m59 (dok _) l r hl hi h
theorem h59 {d : Nat} {I : In} {O : Out} (hl : I.vs.length = 2) (h : wpA (SpH Try.prog gl) c59 (postH d [.ca 4 3] O) (inSt I)) : SpH Try.prog gl 59 d I O :=
  @fun_spH Try.prog gl drD 59 Try.f59 a59 Try.func59 m59 (dok _) d I O hl h
/-- firebell/ledger.budget -/
def c60 : AC :=
 (.sq (.rg [.bx 3 (.s 1),
   .al 4 [(.int .u64 0), (.int .u64 0)],
   .al 5 [(.int .u64 0), (.int .u64 0)]])
  (.sq (.rd [[], [], [], [], [], [], [], [], [], [], [], [], [], []] [.fa 6 (.s 3) 1,
   .lds 7 (.s 6),
   .mv 8 (.s 0),
   .cl 9 52 [(.s 8)],
   .cv 10 .u64 (.s 9),
   .cl 11 51 [(.s 7), (.s 10)],
   .fa 12 (.s 3) 1,
   .lds 13 (.s 12),
   .fa 14 (.s 3) 0,
   .lds 15 (.s 14),
   .bi 16 .sub (.s 13) (.s 15),
   .cl 17 51 [(.s 16), (.c (.int .u64 1000000))],
   .st 2 (.s 4) (.s 11),
   .st 2 (.s 5) (.s 17)])
  .rt))
def a60 : AF := ⟨c60, [.ca 4 2, .ca 5 2], 2, 18⟩
theorem m60 : mF Try.prog gl drD Try.f60 a60 = true := by kernel_rfl
theorem s60 {l : List AV} {r : AV} (hl : l.length = 2) (hi : idsL l = []) (h : wpA (SpH Try.prog gl) c60 (postA [.ca 4 2, .ca 5 2] r) ⟨initE 0 l, [], []⟩) : Sp Try.prog gl 60 l r :=
  @fun_sp Try.prog gl drD 60 Try.f60 a60 Try.func60 m60 (dok _) l r hl hi h
theorem h60 {d : Nat} {I : In} {O : Out} (hl : I.vs.length = 2) (h : wpA (SpH Try.prog gl) c60 (postH d [.ca 4 2, .ca 5 2] O) (inSt I)) : SpH Try.prog gl 60 d I O :=
  @fun_spH Try.prog gl drD 60 Try.f60 a60 Try.func60 m60 (dok _) d I O hl h
/-- firebell/firebellref23.may -/
def c61 : AC :=
 (.sq (.rg [.bx 3 (.s 1),
   .mv 4 (.c (.int .i64 0))])
  (.sq (.sq (.rg [.mv 5 (.s 0),
   .bi 6 .gtr (.s 5) (.c (.int .u32 1000000))])
  (.cd (.s 6) (.sq (.rg [.mv 4 (.c (.int .i64 8))])
  .rt) .sk))
  (.sq (.sq (.rg [.fa 7 (.s 3) 0,
   .lds 8 (.s 7),
   .fa 9 (.s 3) 1,
   .lds 10 (.s 9),
   .bi 11 .gtr (.s 8) (.s 10)])
  (.cd (.s 11) (.sq (.rg [.mv 4 (.c (.int .i64 16))])
  .rt) .sk))
  (.sq (.rg [.mv 4 (.c (.int .i64 0))])
  .rt))))
def a61 : AF := ⟨c61, [.t 4], 2, 12⟩
theorem m61 : mF Try.prog gl drD Try.f61 a61 = true := by kernel_rfl
theorem s61 {l : List AV} {r : AV} (hl : l.length = 2) (hi : idsL l = []) (h : wpA (SpH Try.prog gl) c61 (postA [.t 4] r) ⟨initE 0 l, [], []⟩) : Sp Try.prog gl 61 l r :=
  @fun_sp Try.prog gl drD 61 Try.f61 a61 Try.func61 m61 (dok _) l r hl hi h
theorem h61 {d : Nat} {I : In} {O : Out} (hl : I.vs.length = 2) (h : wpA (SpH Try.prog gl) c61 (postH d [.t 4] O) (inSt I)) : SpH Try.prog gl 61 d I O :=
  @fun_spH Try.prog gl drD 61 Try.f61 a61 Try.func61 m61 (dok _) d I O hl h
/-- firebell/firebellref02.To -/
def c62 : AC :=
 (.sq (.rg [.bx 1 (.s 0),
   .al 2 [(.bool false), (.int .u64 0), (.int .u64 0)],
   .mv 3 (.c (.bool false))])
  (.sq (.rg [.fa 9 (.s 1) 0,
   .lds 10 (.s 9),
   .fa 11 (.s 1) 1,
   .lds 12 (.s 11),
   .cl 13 36 [(.s 10), (.s 12)],
   .mv 4 (.s 13)])
  (.sq (.rd [[], [], [], [], [], []] [.fa 14 (.s 1) 0,
   .lds 15 (.s 14),
   .fa 16 (.s 1) 1,
   .lds 17 (.s 16),
   .mv 5 (.s 15),
   .mv 6 (.s 17)])
  (.sq (.sq (.rg [.mv 18 (.s 4),
   .bi 19 .lss (.s 18) (.c (.int .i64 0))])
  (.cd (.s 19) (.rd [[], [], [], [], [], []] [.fa 20 (.s 1) 1,
   .lds 21 (.s 20),
   .fa 22 (.s 1) 0,
   .lds 23 (.s 22),
   .mv 5 (.s 21),
   .mv 6 (.s 23)]) .sk))
  (.sq (.rg [.mv 25 (.s 5),
   .mv 26 (.s 6),
   .ln 27 (.s 26),
   .cl 28 96 [(.s 25), (.s 27)],
   .mv 29 (.s 6),
   .cl 30 95 [(.s 28), (.s 29)],
   .cl 31 68 [(.s 30)],
   .mv 24 (.s 31),
   .exq 32 (.s 24) 0,
   .exq 33 (.s 24) 1,
   .al 7 [(.int .u64 0), (.int .u64 0)],
   .st 2 (.s 7) (.s 32),
   .mv 8 (.s 33)])
  (.sq (.rg [.mv 34 (.s 4),
   .bi 35 .lss (.s 34) (.c (.int .i64 0)),
   .lda 36 2 (.s 7),
   .bd 37 [(.bool false), (.int .u64 0), (.int .u64 0)] [(0, 1, (.s 35)), (1, 2, (.s 36))],
   .mv 38 (.s 8),
   .st 3 (.s 2) (.s 37),
   .mv 3 (.s 38)])
  .rt))))))
def a62 : AF := ⟨c62, [.ca 2 3, .t 3], 1, 39⟩
theorem m62 : mF Try.prog gl drD Try.f62 a62 = true := by kernel_rfl
theorem s62 {l : List AV} {r : AV} (hl : l.length = 1) (hi : idsL l = []) (h : wpA (SpH Try.prog gl) c62 (postA [.ca 2 3, .t 3] r) ⟨initE 0 l, [], []⟩) : Sp Try.prog gl 62 l r :=
  @fun_sp Try.prog gl drD 62 Try.f62 a62 Try.func62 m62 (dok _) l r hl hi h
theorem h62 {d : Nat} {I : In} {O : Out} (hl : I.vs.length = 1) (h : wpA (SpH Try.prog gl) c62 (postH d [.ca 2 3, .t 3] O) (inSt I)) : SpH Try.prog gl 62 d I O :=
  @fun_spH Try.prog gl drD 62 Try.f62 a62 Try.func62 m62 (dok _) d I O hl h
/-- firebell/firebellref23.Pair -/
def c63 : AC :=
 (.sq (.rg [.bx 3 (.s 1),
   .al 4 [.nils, .nils]])
  (.sq (.rd [[], [], [], [], [], [], [], [], [], [], [], [], [], [], [], [], [], []] [.fa 5 (.s 3) 1,
   .lds 6 (.s 5),
   .cl 7 67 [(.s 6)],
   .mv 8 (.s 0),
   .bi 9 .sub (.c (.int .u32 1000000)) (.s 8),
   .cv 10 .u64 (.s 9),
   .cl 11 67 [(.s 10)],
   .cl 12 66 [(.s 7), (.s 11)],
   .fa 13 (.s 3) 1,
   .lds 14 (.s 13),
   .fa 15 (.s 3) 0,
   .lds 16 (.s 15),
   .bi 17 .sub (.s 14) (.s 16),
   .cl 18 67 [(.s 17)],
   .cl 19 67 [(.c (.int .u64 1000000))],
   .cl 20 66 [(.s 18), (.s 19)],
   .bd 21 [.nils, .nils] [(0, 1, (.s 12)), (1, 1, (.s 20))],
   .st 2 (.s 4) (.s 21)])
  .rt))
def a63 : AF := ⟨c63, [.ca 4 2], 2, 22⟩
theorem m63 : mF Try.prog gl drD Try.f63 a63 = true := by kernel_rfl
theorem s63 {l : List AV} {r : AV} (hl : l.length = 2) (hi : idsL l = []) (h : wpA (SpH Try.prog gl) c63 (postA [.ca 4 2] r) ⟨initE 0 l, [], []⟩) : Sp Try.prog gl 63 l r :=
  @fun_sp Try.prog gl drD 63 Try.f63 a63 Try.func63 m63 (dok _) l r hl hi h
theorem h63 {d : Nat} {I : In} {O : Out} (hl : I.vs.length = 2) (h : wpA (SpH Try.prog gl) c63 (postH d [.ca 4 2] O) (inSt I)) : SpH Try.prog gl 63 d I O :=
  @fun_spH Try.prog gl drD 63 Try.f63 a63 Try.func63 m63 (dok _) d I O hl h
/-- firebell/exact.More -/
def c64 : AC :=
 (.sq (.rg [.bx 2 (.s 0),
   .al 4 [(.int .u64 0), (.int .u64 0)],
   .mv 5 (.c (.int .i64 0))])
  (.sq (.rg [.fa 8 (.s 2) 1,
   .lds 9 (.s 8),
   .mv 10 (.s 1),
   .cl 11 51 [(.s 9), (.s 10)],
   .al 6 [(.int .u64 0), (.int .u64 0)],
   .st 2 (.s 6) (.s 11)])
  (.sq (.rg [.fa 12 (.s 2) 0,
   .lds 13 (.s 12),
   .mv 14 (.s 1),
   .cl 15 51 [(.s 13), (.s 14)],
   .al 7 [(.int .u64 0), (.int .u64 0)],
   .st 2 (.s 7) (.s 15)])
  (.sq (.sq (.rg [.fa 16 (.s 7) 0,
   .lds 17 (.s 16),
   .bi 18 .neq (.s 17) (.c (.int .u64 0))])
  (.cd (.s 18) (.sq (.rg [.bd 19 [(.int .u64 0), (.int .u64 0)] [],
   .st 2 (.s 4) (.s 19),
   .mv 5 (.c (.int .i64 3))])
  .rt) .sk))
  (.sq (.rg [.lda 20 2 (.s 6),
   .fa 21 (.s 7) 1,
   .lds 22 (.s 21),
   .bd 23 [(.int .u64 0), (.int .u64 0)] [(0, 1, (.s 22))],
   .cl 24 70 [(.s 20), (.s 23)],
   .exq 25 (.s 24) 0,
   .exq 26 (.s 24) 1,
   .st 2 (.s 4) (.s 25),
   .mv 5 (.s 26)])
  .rt)))))
def a64 : AF := ⟨c64, [.ca 4 2, .t 5], 2, 27⟩
theorem m64 : mF Try.prog gl drD Try.f64 a64 = true := by kernel_rfl
theorem s64 {l : List AV} {r : AV} (hl : l.length = 2) (hi : idsL l = []) (h : wpA (SpH Try.prog gl) c64 (postA [.ca 4 2, .t 5] r) ⟨initE 0 l, [], []⟩) : Sp Try.prog gl 64 l r :=
  @fun_sp Try.prog gl drD 64 Try.f64 a64 Try.func64 m64 (dok _) l r hl hi h
theorem h64 {d : Nat} {I : In} {O : Out} (hl : I.vs.length = 2) (h : wpA (SpH Try.prog gl) c64 (postH d [.ca 4 2, .t 5] O) (inSt I)) : SpH Try.prog gl 64 d I O :=
  @fun_spH Try.prog gl drD 64 Try.f64 a64 Try.func64 m64 (dok _) d I O hl h
/-- firebell/firebellref01.Divide -/
def c65 : AC :=
 (.sq (.rg [.mv 4 (.c .nils),
   .mv 5 (.c .nils)])
  (.sq (.rg [.mv 9 (.s 0),
   .ln 10 (.s 9),
   .mkm 11 1 1 [(.bool false)] (.s 10) (.s 10),
   .mv 6 (.s 11)])
  (.sq (.rg [.bs 12 1 [],
   .mv 7 (.s 12)])
  (.sq (.sq (.rg [.mv 13 (.s 0),
   .ln 14 (.s 13),
   .bi 15 .sub (.s 14) (.c (.int .i64 1)),
   .mv 8 (.s 15)])
  (.bl 0 (.lp (.sq (.sq (.rg [.mv 16 (.s 8),
   .bi 17 .geq (.s 16) (.c (.int .i64 0))])
  (.cd (.s 17) .sk (.ex 0)))
  (.sq (.bl 1 (.sq (.rg [.mv 20 (.s 0),
   .mv 21 (.s 8),
   .ia 22 1 (.s 20) (.s 21),
   .lds 23 (.s 22),
   .bs 24 1 [(.s 23)],
   .mv 25 (.s 7),
   .ap 26 1 1 (.s 24) (.s 25),
   .mv 7 (.s 26)])
  (.sq (.rg [.mv 27 (.s 7),
   .mv 28 (.s 1),
   .cl 29 36 [(.s 27), (.s 28)],
   .bi 30 .geq (.s 29) (.c (.int .i64 0))])
  (.cd (.s 30) (.sq (.rg [.mv 31 (.s 7),
   .mv 32 (.s 1),
   .cl 33 95 [(.s 31), (.s 32)],
   .mv 7 (.s 33)])
  (.rg [.mv 34 (.s 6),
   .mv 35 (.s 8),
   .ia 36 1 (.s 34) (.s 35),
   .st 1 (.s 36) (.c (.bool true))])) .sk))))
  (.rg [.mv 18 (.s 8),
   .bi 19 .sub (.s 18) (.c (.int .i64 1)),
   .mv 8 (.s 19)]))))))
  (.sq (.rg [.mv 37 (.s 6),
   .mv 38 (.s 7),
   .mv 4 (.s 37),
   .mv 5 (.s 38)])
  .rt)))))
def a65 : AF := ⟨c65, [.t 4, .t 5], 2, 39⟩
theorem m65 : mF Try.prog gl drD Try.f65 a65 = true := by kernel_rfl
theorem s65 {l : List AV} {r : AV} (hl : l.length = 2) (hi : idsL l = []) (h : wpA (SpH Try.prog gl) c65 (postF [.t 4, .t 5] r) ⟨initE 0 l, [], []⟩) : Sp Try.prog gl 65 l r :=
  @fun_spF Try.prog gl drD 65 Try.f65 a65 Try.func65 m65 (dok _) l r hl hi h
theorem h65 {d : Nat} {I : In} {O : Out} (hl : I.vs.length = 2) (h : wpA (SpH Try.prog gl) c65 (postH d [.t 4, .t 5] O) (inSt I)) : SpH Try.prog gl 65 d I O :=
  @fun_spH Try.prog gl drD 65 Try.f65 a65 Try.func65 m65 (dok _) d I O hl h
/-- firebell/firebellref01.Times -/
def c66 : AC :=
 (.sq (.rg [.mv 4 (.c .nils)])
  (.sq (.rg [.bs 8 1 [],
   .mv 5 (.s 8)])
  (.sq (.rg [.bs 9 1 [],
   .mv 10 (.s 0),
   .ap 11 1 1 (.s 9) (.s 10),
   .mv 6 (.s 11)])
  (.sq (.sq (.rg [.mv 7 (.c (.int .i64 0))])
  (.bl 0 (.lp (.sq (.sq (.rg [.mv 12 (.s 7),
   .mv 13 (.s 1),
   .ln 14 (.s 13),
   .bi 15 .lss (.s 12) (.s 14)])
  (.cd (.s 15) .sk (.ex 0)))
  (.sq (.bl 1 (.sq (.sq (.rg [.mv 18 (.s 1),
   .mv 19 (.s 7),
   .ia 20 1 (.s 18) (.s 19),
   .lds 21 (.s 20)])
  (.cd (.s 21) (.rg [.mv 22 (.s 5),
   .mv 23 (.s 6),
   .cl 24 74 [(.s 22), (.s 23)],
   .mv 5 (.s 24)]) .sk))
  (.rg [.bs 25 1 [(.c (.bool false))],
   .mv 26 (.s 6),
   .ap 27 1 1 (.s 25) (.s 26),
   .mv 6 (.s 27)])))
  (.rg [.mv 16 (.s 7),
   .bi 17 .add (.s 16) (.c (.int .i64 1)),
   .mv 7 (.s 17)]))))))
  (.sq (.rg [.mv 28 (.s 5),
   .mv 4 (.s 28)])
  .rt)))))
def a66 : AF := ⟨c66, [.t 4], 2, 29⟩
theorem m66 : mF Try.prog gl drD Try.f66 a66 = true := by kernel_rfl
theorem s66 {l : List AV} {r : AV} (hl : l.length = 2) (hi : idsL l = []) (h : wpA (SpH Try.prog gl) c66 (postA [.t 4] r) ⟨initE 0 l, [], []⟩) : Sp Try.prog gl 66 l r :=
  @fun_sp Try.prog gl drD 66 Try.f66 a66 Try.func66 m66 (dok _) l r hl hi h
theorem h66 {d : Nat} {I : In} {O : Out} (hl : I.vs.length = 2) (h : wpA (SpH Try.prog gl) c66 (postH d [.t 4] O) (inSt I)) : SpH Try.prog gl 66 d I O :=
  @fun_spH Try.prog gl drD 66 Try.f66 a66 Try.func66 m66 (dok _) d I O hl h
/-- firebell/firebellref23.Bits -/
def c67 : AC :=
 (.sq (.rg [.mv 2 (.c .nils)])
  (.sq (.rg [.mv 3 (.s 0),
   .bd 4 [(.int .u64 0), (.int .u64 0)] [(1, 1, (.s 3))],
   .cl 5 75 [(.s 4)],
   .mv 2 (.s 5)])
  .rt))
def a67 : AF := ⟨c67, [.t 2], 1, 6⟩
theorem m67 : mF Try.prog gl drD Try.f67 a67 = true := by kernel_rfl
theorem s67 {l : List AV} {r : AV} (hl : l.length = 1) (hi : idsL l = []) (h : wpA (SpH Try.prog gl) c67 (postA [.t 2] r) ⟨initE 0 l, [], []⟩) : Sp Try.prog gl 67 l r :=
  @fun_sp Try.prog gl drD 67 Try.f67 a67 Try.func67 m67 (dok _) l r hl hi h
theorem h67 {d : Nat} {I : In} {O : Out} (hl : I.vs.length = 1) (h : wpA (SpH Try.prog gl) c67 (postH d [.t 2] O) (inSt I)) : SpH Try.prog gl 67 d I O :=
  @fun_spH Try.prog gl drD 67 Try.f67 a67 Try.func67 m67 (dok _) d I O hl h
/-- firebell/firebellref01.Of -/
def c68 : AC :=
 (.sq (.rg [.al 2 [(.int .u64 0), (.int .u64 0)],
   .mv 3 (.c (.bool false))])
  (.sq (.rg [.bd 6 [(.int .u64 0), (.int .u64 0)] [],
   .al 4 [(.int .u64 0), (.int .u64 0)],
   .st 2 (.s 4) (.s 6)])
  (.sq (.sq (.rg [.mv 5 (.c (.int .i64 0))])
  (.bl 0 (.lp (.sq (.sq (.rg [.mv 7 (.s 5),
   .mv 8 (.s 0),
   .ln 9 (.s 8),
   .bi 10 .lss (.s 7) (.s 9)])
  (.cd (.s 10) .sk (.ex 0)))
  (.sq (.bl 1 (.sq (.sq (.rg [.mv 13 (.s 0),
   .mv 14 (.s 5),
   .ia 15 1 (.s 13) (.s 14),
   .lds 16 (.s 15),
   .un 17 .not (.s 16)])
  (.cd (.s 17) (.ex 1) .sk))
  (.sq (.sq (.rg [.mv 18 (.s 5),
   .bi 19 .geq (.s 18) (.c (.int .i64 128))])
  (.cd (.s 19) (.sq (.rg [.bd 20 [(.int .u64 0), (.int .u64 0)] [],
   .st 2 (.s 2) (.s 20),
   .mv 3 (.c (.bool false))])
  .rt) .sk))
  (.sq (.rg [.mv 21 (.s 5),
   .bi 22 .geq (.s 21) (.c (.int .i64 64))])
  (.cd (.s 22) (.rg [.fa 23 (.s 4) 0,
   .lds 24 (.s 23),
   .mv 25 (.s 5),
   .bi 26 .sub (.s 25) (.c (.int .i64 64)),
   .cv 27 .u64 (.s 26),
   .bi 28 .shl (.c (.int .u64 1)) (.s 27),
   .bi 29 .add (.s 24) (.s 28),
   .fa 30 (.s 4) 0,
   .st 1 (.s 30) (.s 29)]) (.rg [.fa 31 (.s 4) 1,
   .lds 32 (.s 31),
   .mv 33 (.s 5),
   .cv 34 .u64 (.s 33),
   .bi 35 .shl (.c (.int .u64 1)) (.s 34),
   .bi 36 .add (.s 32) (.s 35),
   .fa 37 (.s 4) 1,
   .st 1 (.s 37) (.s 36)]))))))
  (.rg [.mv 11 (.s 5),
   .bi 12 .add (.s 11) (.c (.int .i64 1)),
   .mv 5 (.s 12)]))))))
  (.sq (.rg [.lda 38 2 (.s 4),
   .st 2 (.s 2) (.s 38),
   .mv 3 (.c (.bool true))])
  .rt))))
def a68 : AF := ⟨c68, [.ca 2 2, .t 3], 1, 39⟩
theorem m68 : mF Try.prog gl drD Try.f68 a68 = true := by kernel_rfl
theorem s68 {l : List AV} {r : AV} (hl : l.length = 1) (hi : idsL l = []) (h : wpA (SpH Try.prog gl) c68 (postA [.ca 2 2, .t 3] r) ⟨initE 0 l, [], []⟩) : Sp Try.prog gl 68 l r :=
  @fun_sp Try.prog gl drD 68 Try.f68 a68 Try.func68 m68 (dok _) l r hl hi h
theorem h68 {d : Nat} {I : In} {O : Out} (hl : I.vs.length = 1) (h : wpA (SpH Try.prog gl) c68 (postH d [.ca 2 2, .t 3] O) (inSt I)) : SpH Try.prog gl 68 d I O :=
  @fun_spH Try.prog gl drD 68 Try.f68 a68 Try.func68 m68 (dok _) d I O hl h
/-- firebell/signed.right -/
def c69 : AC :=
 (.sq (.rg [.bx 1 (.s 0),
   .al 2 [(.bool false), (.int .u64 0), (.int .u64 0)]])
  (.sq (.sq (.rg [.lda 3 3 (.s 1),
   .cl 4 97 [(.s 3)]])
  (.cd (.s 4) (.sq (.rg [.lda 5 3 (.s 1),
   .st 3 (.s 2) (.s 5)])
  .rt) .sk))
  (.sq (.rg [.bd 6 [(.bool false), (.int .u64 0), (.int .u64 0)] [],
   .st 3 (.s 2) (.s 6)])
  .rt)))
def a69 : AF := ⟨c69, [.ca 2 3], 1, 7⟩
theorem m69 : mF Try.prog gl drD Try.f69 a69 = true := by kernel_rfl
theorem s69 {l : List AV} {r : AV} (hl : l.length = 1) (hi : idsL l = []) (h : wpA (SpH Try.prog gl) c69 (postA [.ca 2 3] r) ⟨initE 0 l, [], []⟩) : Sp Try.prog gl 69 l r :=
  @fun_sp Try.prog gl drD 69 Try.f69 a69 Try.func69 m69 (dok _) l r hl hi h
theorem h69 {d : Nat} {I : In} {O : Out} (hl : I.vs.length = 1) (h : wpA (SpH Try.prog gl) c69 (postH d [.ca 2 3] O) (inSt I)) : SpH Try.prog gl 69 d I O :=
  @fun_spH Try.prog gl drD 69 Try.f69 a69 Try.func69 m69 (dok _) d I O hl h
/-- firebell/exact.Add -/
def c70 : AC :=
 (.sq (.rg [.bx 2 (.s 0),
   .bx 3 (.s 1),
   .al 4 [(.int .u64 0), (.int .u64 0)],
   .mv 5 (.c (.int .i64 0))])
  (.sq (.rg [.fa 11 (.s 2) 1,
   .lds 12 (.s 11),
   .fa 13 (.s 3) 1,
   .lds 14 (.s 13),
   .cl 15 98 [(.s 12), (.s 14), (.c (.int .u64 0))],
   .mv 10 (.s 15),
   .exq 16 (.s 10) 0,
   .exq 17 (.s 10) 1,
   .mv 6 (.s 16),
   .mv 7 (.s 17)])
  (.sq (.rg [.fa 19 (.s 2) 0,
   .lds 20 (.s 19),
   .fa 21 (.s 3) 0,
   .lds 22 (.s 21),
   .mv 23 (.s 7),
   .cl 24 98 [(.s 20), (.s 22), (.s 23)],
   .mv 18 (.s 24),
   .exq 25 (.s 18) 0,
   .exq 26 (.s 18) 1,
   .mv 8 (.s 25),
   .mv 9 (.s 26)])
  (.sq (.sq (.rg [.mv 27 (.s 9),
   .bi 28 .neq (.s 27) (.c (.int .u64 0))])
  (.cd (.s 28) (.sq (.rg [.bd 29 [(.int .u64 0), (.int .u64 0)] [],
   .st 2 (.s 4) (.s 29),
   .mv 5 (.c (.int .i64 3))])
  .rt) .sk))
  (.sq (.rg [.mv 30 (.s 8),
   .mv 31 (.s 6),
   .bd 32 [(.int .u64 0), (.int .u64 0)] [(0, 1, (.s 30)), (1, 1, (.s 31))],
   .st 2 (.s 4) (.s 32),
   .mv 5 (.c (.int .i64 0))])
  .rt)))))
def a70 : AF := ⟨c70, [.ca 4 2, .t 5], 2, 33⟩
theorem m70 : mF Try.prog gl drD Try.f70 a70 = true := by kernel_rfl
theorem s70 {l : List AV} {r : AV} (hl : l.length = 2) (hi : idsL l = []) (h : wpA (SpH Try.prog gl) c70 (postA [.ca 4 2, .t 5] r) ⟨initE 0 l, [], []⟩) : Sp Try.prog gl 70 l r :=
  @fun_sp Try.prog gl drD 70 Try.f70 a70 Try.func70 m70 (dok _) l r hl hi h
theorem h70 {d : Nat} {I : In} {O : Out} (hl : I.vs.length = 2) (h : wpA (SpH Try.prog gl) c70 (postH d [.ca 4 2, .t 5] O) (inSt I)) : SpH Try.prog gl 70 d I O :=
  @fun_spH Try.prog gl drD 70 Try.f70 a70 Try.func70 m70 (dok _) d I O hl h
/-- firebell/signed.sized -/
def c71 : AC :=
 (.sq (.rg [.bx 3 (.s 1),
   .al 4 [(.bool false), (.int .u64 0), (.int .u64 0)]])
  (.sq (.rg [.mv 5 (.s 0),
   .lda 6 2 (.s 3),
   .bd 7 [(.bool false), (.int .u64 0), (.int .u64 0)] [(0, 1, (.s 5)), (1, 2, (.s 6))],
   .cl 8 69 [(.s 7)],
   .st 3 (.s 4) (.s 8)])
  .rt))
def a71 : AF := ⟨c71, [.ca 4 3], 2, 9⟩
theorem m71 : mF Try.prog gl drD Try.f71 a71 = true := by kernel_rfl
theorem s71 {l : List AV} {r : AV} (hl : l.length = 2) (hi : idsL l = []) (h : wpA (SpH Try.prog gl) c71 (postA [.ca 4 3] r) ⟨initE 0 l, [], []⟩) : Sp Try.prog gl 71 l r :=
  @fun_sp Try.prog gl drD 71 Try.f71 a71 Try.func71 m71 (dok _) l r hl hi h
theorem h71 {d : Nat} {I : In} {O : Out} (hl : I.vs.length = 2) (h : wpA (SpH Try.prog gl) c71 (postH d [.ca 4 3] O) (inSt I)) : SpH Try.prog gl 71 d I O :=
  @fun_spH Try.prog gl drD 71 Try.f71 a71 Try.func71 m71 (dok _) d I O hl h
/-- firebell/signed.Compare -/
def c72 : AC :=
 (.sq (.rg [.bx 2 (.s 0),
   .bx 3 (.s 1),
   .mv 4 (.c (.int .i64 0))])
  (.sq (.rd [[], [], [], [], [], []] [.lda 5 3 (.s 2),
   .cl 6 69 [(.s 5)],
   .lda 7 3 (.s 3),
   .cl 8 69 [(.s 7)],
   .st 3 (.s 2) (.s 6),
   .st 3 (.s 3) (.s 8)])
  (.sq (.bl 0 (.sq (.rg [.fa 10 (.s 2) 0,
   .lds 11 (.s 10),
   .mv 12 (.s 11),
   .gd 12 true 13 (.fa 13 (.s 3) 0),
   .gd 12 true 14 (.lds 14 (.s 13)),
   .gd 12 true 15 (.un 15 .not (.s 14)),
   .pk 16 (.s 12) (.s 15) (.c (.bool false)),
   .mv 9 (.s 16)])
  (.cd (.s 9) (.sq (.rg [.mv 4 (.c (.int .i64 (-1)))])
  .rt) (.sq (.rg [.fa 18 (.s 3) 0,
   .lds 19 (.s 18),
   .mv 20 (.s 19),
   .gd 20 true 21 (.fa 21 (.s 2) 0),
   .gd 20 true 22 (.lds 22 (.s 21)),
   .gd 20 true 23 (.un 23 .not (.s 22)),
   .pk 24 (.s 20) (.s 23) (.c (.bool false)),
   .mv 17 (.s 24)])
  (.cd (.s 17) (.sq (.rg [.mv 4 (.c (.int .i64 1))])
  .rt) (.sq (.rg [.fa 26 (.s 2) 0,
   .lds 27 (.s 26),
   .mv 25 (.s 27)])
  (.cd (.s 25) (.sq (.rg [.fa 28 (.s 3) 1,
   .lda 29 2 (.s 28),
   .fa 30 (.s 2) 1,
   .lda 31 2 (.s 30),
   .cl 32 53 [(.s 29), (.s 31)],
   .mv 4 (.s 32)])
  .rt) .sk)))))))
  (.sq (.rg [.fa 33 (.s 2) 1,
   .lda 34 2 (.s 33),
   .fa 35 (.s 3) 1,
   .lda 36 2 (.s 35),
   .cl 37 53 [(.s 34), (.s 36)],
   .mv 4 (.s 37)])
  .rt))))
def a72 : AF := ⟨c72, [.t 4], 2, 38⟩
theorem m72 : mF Try.prog gl drD Try.f72 a72 = true := by kernel_rfl
theorem s72 {l : List AV} {r : AV} (hl : l.length = 2) (hi : idsL l = []) (h : wpA (SpH Try.prog gl) c72 (postA [.t 4] r) ⟨initE 0 l, [], []⟩) : Sp Try.prog gl 72 l r :=
  @fun_sp Try.prog gl drD 72 Try.f72 a72 Try.func72 m72 (dok _) l r hl hi h
theorem h72 {d : Nat} {I : In} {O : Out} (hl : I.vs.length = 2) (h : wpA (SpH Try.prog gl) c72 (postH d [.t 4] O) (inSt I)) : SpH Try.prog gl 72 d I O :=
  @fun_spH Try.prog gl drD 72 Try.f72 a72 Try.func72 m72 (dok _) d I O hl h
/-- firebell/exact.Ceil -/
def c73 : AC :=
 (.sq (.rg [.bx 2 (.s 0),
   .al 4 [(.int .u64 0), (.int .u64 0)],
   .mv 5 (.c (.int .i64 0))])
  (.sq (.rg [.lda 10 2 (.s 2),
   .mv 11 (.s 1),
   .cl 12 57 [(.s 10), (.s 11)],
   .mv 9 (.s 12),
   .exq 13 (.s 9) 0,
   .exq 14 (.s 9) 1,
   .exq 15 (.s 9) 2,
   .al 6 [(.int .u64 0), (.int .u64 0)],
   .st 2 (.s 6) (.s 13),
   .mv 7 (.s 14),
   .mv 8 (.s 15)])
  (.sq (.sq (.rg [.mv 16 (.s 8),
   .bi 17 .neq (.s 16) (.c (.int .i64 0)),
   .mv 18 (.s 17),
   .gd 18 false 19 (.mv 19 (.s 7)),
   .gd 18 false 20 (.bi 20 .eql (.s 19) (.c (.int .u64 0))),
   .pk 21 (.s 18) (.c (.bool true)) (.s 20)])
  (.cd (.s 21) (.sq (.rg [.lda 22 2 (.s 6),
   .mv 23 (.s 8),
   .st 2 (.s 4) (.s 22),
   .mv 5 (.s 23)])
  .rt) .sk))
  (.sq (.rg [.lda 24 2 (.s 6),
   .bd 25 [(.int .u64 0), (.int .u64 0)] [(1, 1, (.c (.int .u64 1)))],
   .cl 26 70 [(.s 24), (.s 25)],
   .exq 27 (.s 26) 0,
   .exq 28 (.s 26) 1,
   .st 2 (.s 4) (.s 27),
   .mv 5 (.s 28)])
  .rt))))
def a73 : AF := ⟨c73, [.ca 4 2, .t 5], 2, 29⟩
theorem m73 : mF Try.prog gl drD Try.f73 a73 = true := by kernel_rfl
theorem s73 {l : List AV} {r : AV} (hl : l.length = 2) (hi : idsL l = []) (h : wpA (SpH Try.prog gl) c73 (postA [.ca 4 2, .t 5] r) ⟨initE 0 l, [], []⟩) : Sp Try.prog gl 73 l r :=
  @fun_sp Try.prog gl drD 73 Try.f73 a73 Try.func73 m73 (dok _) l r hl hi h
theorem h73 {d : Nat} {I : In} {O : Out} (hl : I.vs.length = 2) (h : wpA (SpH Try.prog gl) c73 (postH d [.ca 4 2, .t 5] O) (inSt I)) : SpH Try.prog gl 73 d I O :=
  @fun_spH Try.prog gl drD 73 Try.f73 a73 Try.func73 m73 (dok _) d I O hl h
/-- firebell/firebellref01.Plus -/
def c74 : AC :=
 (.sq (.rg [.mv 4 (.c .nils)])
  (.sq (.rg [.bs 9 1 [],
   .mo 5 9])
  (.sq (.rg [.mv 6 (.c (.int .i64 0))])
  (.sq (.sq (.rg [.mv 7 (.c (.int .i64 0))])
  (.bl 0 (.lp (.sq (.sq (.rg [.mv 10 (.s 7),
   .mv 11 (.s 0),
   .ln 12 (.s 11),
   .bi 13 .lss (.s 10) (.s 12),
   .mv 14 (.s 13),
   .gd 14 false 15 (.mv 15 (.s 7)),
   .gd 14 false 16 (.mv 16 (.s 1)),
   .gd 14 false 17 (.ln 17 (.s 16)),
   .gd 14 false 18 (.bi 18 .lss (.s 15) (.s 17)),
   .pk 19 (.s 14) (.c (.bool true)) (.s 18),
   .mv 20 (.s 19),
   .gd 20 false 21 (.mv 21 (.s 6)),
   .gd 20 false 22 (.bi 22 .gtr (.s 21) (.c (.int .i64 0))),
   .pk 23 (.s 20) (.c (.bool true)) (.s 22)])
  (.cd (.s 23) .sk (.ex 0)))
  (.sq (.bl 1 (.sq (.rg [.mv 26 (.s 0),
   .mv 27 (.s 7),
   .cl 28 76 [(.s 26), (.s 27)],
   .mv 29 (.s 1),
   .mv 30 (.s 7),
   .cl 31 76 [(.s 29), (.s 30)],
   .bi 32 .add (.s 28) (.s 31),
   .mv 33 (.s 6),
   .bi 34 .add (.s 32) (.s 33),
   .mv 8 (.s 34)])
  (.sq (.rg [.mo 35 5,
   .mv 36 (.s 8),
   .bi 37 .rem (.s 36) (.c (.int .i64 2)),
   .bi 38 .eql (.s 37) (.c (.int .i64 1)),
   .bs 39 1 [(.s 38)],
   .ap 40 1 1 (.s 35) (.s 39),
   .mo 5 40])
  (.rg [.mv 41 (.s 8),
   .bi 42 .quo (.s 41) (.c (.int .i64 2)),
   .mv 6 (.s 42)]))))
  (.rg [.mv 24 (.s 7),
   .bi 25 .add (.s 24) (.c (.int .i64 1)),
   .mv 7 (.s 25)]))))))
  (.sq (.rg [.mv 43 (.s 5),
   .mv 4 (.s 43)])
  .rt)))))
def a74 : AF := ⟨c74, [.t 4], 2, 44⟩
theorem m74 : mF Try.prog gl drD Try.f74 a74 = true := by kernel_rfl
theorem s74 {l : List AV} {r : AV} (hl : l.length = 2) (hi : idsL l = []) (h : wpA (SpH Try.prog gl) c74 (postA [.t 4] r) ⟨initE 0 l, [], []⟩) : Sp Try.prog gl 74 l r :=
  @fun_sp Try.prog gl drD 74 Try.f74 a74 Try.func74 m74 (dok _) l r hl hi h
theorem h74 {d : Nat} {I : In} {O : Out} (hl : I.vs.length = 2) (h : wpA (SpH Try.prog gl) c74 (postH d [.t 4] O) (inSt I)) : SpH Try.prog gl 74 d I O :=
  @fun_spH Try.prog gl drD 74 Try.f74 a74 Try.func74 m74 (dok _) d I O hl h
/-- firebell/firebellref01.Bits -/
def c75 : AC :=
 (.sq (.rg [.bx 1 (.s 0),
   .mv 2 (.c .nils)])
  (.sq (.rg [.bs 6 1 [],
   .mo 3 6])
  (.sq (.sq (.rg [.mv 4 (.c (.int .i64 0))])
  (.bl 0 (.lp (.sq (.sq (.rg [.mv 7 (.s 4),
   .bi 8 .lss (.s 7) (.c (.int .i64 128))])
  (.cd (.s 8) .sk (.ex 0)))
  (.sq (.bl 1 (.sq (.rg [.fa 11 (.s 1) 1,
   .lds 12 (.s 11),
   .mv 5 (.s 12)])
  (.sq (.sq (.rg [.mv 13 (.s 4),
   .bi 14 .geq (.s 13) (.c (.int .i64 64))])
  (.cd (.s 14) (.rg [.fa 15 (.s 1) 0,
   .lds 16 (.s 15),
   .mv 5 (.s 16)]) .sk))
  (.rg [.mo 17 3,
   .mv 18 (.s 5),
   .mv 19 (.s 4),
   .bi 20 .rem (.s 19) (.c (.int .i64 64)),
   .cv 21 .u64 (.s 20),
   .bi 22 .shr (.s 18) (.s 21),
   .bi 23 .rem (.s 22) (.c (.int .u64 2)),
   .bi 24 .eql (.s 23) (.c (.int .u64 1)),
   .bs 25 1 [(.s 24)],
   .ap 26 1 1 (.s 17) (.s 25),
   .mo 3 26]))))
  (.rg [.mv 9 (.s 4),
   .bi 10 .add (.s 9) (.c (.int .i64 1)),
   .mv 4 (.s 10)]))))))
  (.sq (.rg [.mv 27 (.s 3),
   .mv 2 (.s 27)])
  .rt))))
def a75 : AF := ⟨c75, [.t 2], 1, 28⟩
theorem m75 : mF Try.prog gl drD Try.f75 a75 = true := by kernel_rfl
theorem s75 {l : List AV} {r : AV} (hl : l.length = 1) (hi : idsL l = []) (h : wpA (SpH Try.prog gl) c75 (postA [.t 2] r) ⟨initE 0 l, [], []⟩) : Sp Try.prog gl 75 l r :=
  @fun_sp Try.prog gl drD 75 Try.f75 a75 Try.func75 m75 (dok _) l r hl hi h
theorem h75 {d : Nat} {I : In} {O : Out} (hl : I.vs.length = 1) (h : wpA (SpH Try.prog gl) c75 (postH d [.t 2] O) (inSt I)) : SpH Try.prog gl 75 d I O :=
  @fun_spH Try.prog gl drD 75 Try.f75 a75 Try.func75 m75 (dok _) d I O hl h
/-- firebell/firebellref01.at -/
def c76 : AC :=
 (.sq (.rg [.mv 4 (.c (.int .i64 0))])
  (.sq (.sq (.rg [.mv 5 (.s 1),
   .mv 6 (.s 0),
   .ln 7 (.s 6),
   .bi 8 .lss (.s 5) (.s 7),
   .mv 9 (.s 8),
   .gd 9 true 10 (.mv 10 (.s 0)),
   .gd 9 true 11 (.mv 11 (.s 1)),
   .gd 9 true 12 (.ia 12 1 (.s 10) (.s 11)),
   .gd 9 true 13 (.lds 13 (.s 12)),
   .pk 14 (.s 9) (.s 13) (.c (.bool false))])
  (.cd (.s 14) (.sq (.rg [.mv 4 (.c (.int .i64 1))])
  .rt) .sk))
  (.sq (.rg [.mv 4 (.c (.int .i64 0))])
  .rt)))
def a76 : AF := ⟨c76, [.t 4], 2, 15⟩
theorem m76 : mF Try.prog gl drD Try.f76 a76 = true := by kernel_rfl
theorem s76 {l : List AV} {r : AV} (hl : l.length = 2) (hi : idsL l = []) (h : wpA (SpH Try.prog gl) c76 (postA [.t 4] r) ⟨initE 0 l, [], []⟩) : Sp Try.prog gl 76 l r :=
  @fun_sp Try.prog gl drD 76 Try.f76 a76 Try.func76 m76 (dok _) l r hl hi h
theorem h76 {d : Nat} {I : In} {O : Out} (hl : I.vs.length = 2) (h : wpA (SpH Try.prog gl) c76 (postH d [.t 4] O) (inSt I)) : SpH Try.prog gl 76 d I O :=
  @fun_spH Try.prog gl drD 76 Try.f76 a76 Try.func76 m76 (dok _) d I O hl h
/-- firebell/exact.Print -/
def c77 : AC :=
 (.sq (.rg [.bx 1 (.s 0),
   .mv 2 (.c (.str []))])
  (.sq (.rg [.al 3 [(.int .u8 0), (.int .u8 0), (.int .u8 0), (.int .u8 0), (.int .u8 0), (.int .u8 0), (.int .u8 0), (.int .u8 0), (.int .u8 0), (.int .u8 0), (.int .u8 0), (.int .u8 0), (.int .u8 0), (.int .u8 0), (.int .u8 0), (.int .u8 0), (.int .u8 0), (.int .u8 0), (.int .u8 0), (.int .u8 0), (.int .u8 0), (.int .u8 0), (.int .u8 0), (.int .u8 0), (.int .u8 0), (.int .u8 0), (.int .u8 0), (.int .u8 0), (.int .u8 0), (.int .u8 0), (.int .u8 0), (.int .u8 0), (.int .u8 0), (.int .u8 0), (.int .u8 0), (.int .u8 0), (.int .u8 0), (.int .u8 0), (.int .u8 0)]])
  (.sq (.rg [.mv 4 (.c (.int .i64 39))])
  (.bl 0 (.lp (.bl 1 (.sq (.rg [.lda 9 2 (.s 1),
   .cl 10 57 [(.s 9), (.c (.int .u64 10))],
   .mv 8 (.s 10),
   .exq 11 (.s 8) 0,
   .exq 12 (.s 8) 1,
   .exq 13 (.s 8) 2,
   .al 5 [(.int .u64 0), (.int .u64 0)],
   .st 2 (.s 5) (.s 11),
   .mv 6 (.s 12),
   .mv 7 (.s 13)])
  (.sq (.rg [.mv 14 (.s 4),
   .bi 15 .sub (.s 14) (.c (.int .i64 1)),
   .mv 4 (.s 15)])
  (.sq (.rg [.mv 16 (.s 4),
   .mv 17 (.s 6),
   .cv 18 .u8 (.s 17),
   .bi 19 .add (.c (.int .u8 48)) (.s 18),
   .iaa 20 1 39 (.s 3) (.s 16),
   .st 1 (.s 20) (.s 19)])
  (.sq (.rg [.lda 21 2 (.s 5),
   .st 2 (.s 1) (.s 21)])
  (.sq (.rg [.lda 22 2 (.s 1),
   .bd 23 [(.int .u64 0), (.int .u64 0)] [],
   .ea 24 false [.i, .i] (.s 22) (.s 23)])
  (.cd (.s 24) (.sq (.rg [.mv 25 (.s 4),
   .sla 26 39 (.s 3) (some (.s 25)) none,
   .b2s 27 (.s 26),
   .mv 2 (.s 27)])
  .rt) .sk))))))))))))
def a77 : AF := ⟨c77, [.t 2], 1, 28⟩
theorem m77 : mF Try.prog gl drD Try.f77 a77 = true := by kernel_rfl
theorem s77 {l : List AV} {r : AV} (hl : l.length = 1) (hi : idsL l = []) (h : wpA (SpH Try.prog gl) c77 (postA [.t 2] r) ⟨initE 0 l, [], []⟩) : Sp Try.prog gl 77 l r :=
  @fun_sp Try.prog gl drD 77 Try.f77 a77 Try.func77 m77 (dok _) l r hl hi h
theorem h77 {d : Nat} {I : In} {O : Out} (hl : I.vs.length = 1) (h : wpA (SpH Try.prog gl) c77 (postH d [.t 2] O) (inSt I)) : SpH Try.prog gl 77 d I O :=
  @fun_spH Try.prog gl drD 77 Try.f77 a77 Try.func77 m77 (dok _) d I O hl h
/-- firebell/exact.Read -/
def c78 : AC :=
 (.sq (.rg [.al 2 [(.int .u64 0), (.int .u64 0)],
   .mv 3 (.c (.int .i64 0))])
  (.sq (.sq (.rg [.mv 9 (.s 0),
   .cl 10 99 [(.s 9)],
   .un 11 .not (.s 10)])
  (.cd (.s 11) (.sq (.rg [.bd 12 [(.int .u64 0), (.int .u64 0)] [],
   .st 2 (.s 2) (.s 12),
   .mv 3 (.c (.int .i64 5))])
  .rt) .sk))
  (.sq (.rg [.al 4 [(.int .u64 0), (.int .u64 0)]])
  (.sq (.sq (.rg [.mv 13 (.s 0),
   .rs 14 (.s 13)])
  (.bl 0 (.lp (.sq (.rg [.nx 15 (.s 14),
   .exq 16 (.s 15) 0])
  (.sq (.cd (.s 16) .sk (.ex 0))
  (.bl 1 (.sq (.rg [.exq 17 (.s 15) 2,
   .mv 6 (.s 17)])
  (.sq (.rg [.lda 19 2 (.s 4),
   .cl 20 64 [(.s 19), (.c (.int .u64 10))],
   .mv 18 (.s 20),
   .exq 21 (.s 18) 0,
   .exq 22 (.s 18) 1,
   .al 7 [(.int .u64 0), (.int .u64 0)],
   .st 2 (.s 7) (.s 21),
   .mv 8 (.s 22)])
  (.sq (.sq (.rg [.mv 23 (.s 8),
   .bi 24 .eql (.s 23) (.c (.int .i64 0))])
  (.cd (.s 24) (.rg [.lda 26 2 (.s 7),
   .mv 27 (.s 6),
   .bi 28 .sub (.s 27) (.c (.int .i32 48)),
   .cv 29 .u64 (.s 28),
   .bd 30 [(.int .u64 0), (.int .u64 0)] [(1, 1, (.s 29))],
   .cl 31 70 [(.s 26), (.s 30)],
   .mv 25 (.s 31),
   .exq 32 (.s 25) 0,
   .exq 33 (.s 25) 1,
   .st 2 (.s 7) (.s 32),
   .mv 8 (.s 33)]) .sk))
  (.sq (.sq (.rg [.mv 34 (.s 8),
   .bi 35 .neq (.s 34) (.c (.int .i64 0))])
  (.cd (.s 35) (.sq (.rg [.bd 36 [(.int .u64 0), (.int .u64 0)] [],
   .mv 37 (.s 8),
   .st 2 (.s 2) (.s 36),
   .mv 3 (.s 37)])
  .rt) .sk))
  (.rg [.lda 38 2 (.s 7),
   .st 2 (.s 4) (.s 38)])))))))))))
  (.sq (.rg [.lda 39 2 (.s 4),
   .st 2 (.s 2) (.s 39),
   .mv 3 (.c (.int .i64 0))])
  .rt)))))
def a78 : AF := ⟨c78, [.ca 2 2, .t 3], 1, 40⟩
theorem m78 : mF Try.prog gl drD Try.f78 a78 = true := by kernel_rfl
theorem s78 {l : List AV} {r : AV} (hl : l.length = 1) (hi : idsL l = []) (h : wpA (SpH Try.prog gl) c78 (postA [.ca 2 2, .t 3] r) ⟨initE 0 l, [], []⟩) : Sp Try.prog gl 78 l r :=
  @fun_sp Try.prog gl drD 78 Try.f78 a78 Try.func78 m78 (dok _) l r hl hi h
theorem h78 {d : Nat} {I : In} {O : Out} (hl : I.vs.length = 1) (h : wpA (SpH Try.prog gl) c78 (postH d [.ca 2 2, .t 3] O) (inSt I)) : SpH Try.prog gl 78 d I O :=
  @fun_spH Try.prog gl drD 78 Try.f78 a78 Try.func78 m78 (dok _) d I O hl h
/-- firebell/firebellref01.Read -/
def c79 : AC :=
 (.sq (.rg [.al 2 [(.int .u64 0), (.int .u64 0)],
   .mv 3 (.c (.int .i64 0))])
  (.sq (.sq (.rg [.mv 10 (.s 0),
   .bi 11 .eql (.s 10) (.c (.str [])),
   .mv 12 (.s 11),
   .gd 12 false 13 (.mv 13 (.s 0)),
   .gd 12 false 14 (.ixs 14 (.s 13) (.c (.int .i64 0))),
   .gd 12 false 15 (.bi 15 .eql (.s 14) (.c (.int .u8 48))),
   .gd 12 false 16 (.mv 16 (.s 15)),
   .gd 16 true 17 (.mv 17 (.s 0)),
   .gd 16 true 18 (.lns 18 (.s 17)),
   .gd 16 true 19 (.bi 19 .gtr (.s 18) (.c (.int .i64 1))),
   .gd 12 false 20 (.pk 20 (.s 16) (.s 19) (.c (.bool false))),
   .pk 21 (.s 12) (.c (.bool true)) (.s 20)])
  (.cd (.s 21) (.sq (.rg [.bd 22 [(.int .u64 0), (.int .u64 0)] [],
   .st 2 (.s 2) (.s 22),
   .mv 3 (.c (.int .i64 5))])
  .rt) .sk))
  (.sq (.sq (.rg [.mv 4 (.c (.int .i64 0))])
  (.bl 0 (.lp (.sq (.sq (.rg [.mv 23 (.s 4),
   .mv 24 (.s 0),
   .lns 25 (.s 24),
   .bi 26 .lss (.s 23) (.s 25)])
  (.cd (.s 26) .sk (.ex 0)))
  (.sq (.bl 1 (.sq (.rg [.mv 29 (.s 0),
   .mv 30 (.s 4),
   .ixs 31 (.s 29) (.s 30),
   .bi 32 .lss (.s 31) (.c (.int .u8 48)),
   .mv 33 (.s 32),
   .gd 33 false 34 (.mv 34 (.s 0)),
   .gd 33 false 35 (.mv 35 (.s 4)),
   .gd 33 false 36 (.ixs 36 (.s 34) (.s 35)),
   .gd 33 false 37 (.bi 37 .gtr (.s 36) (.c (.int .u8 57))),
   .pk 38 (.s 33) (.c (.bool true)) (.s 37)])
  (.cd (.s 38) (.sq (.rg [.bd 39 [(.int .u64 0), (.int .u64 0)] [],
   .st 2 (.s 2) (.s 39),
   .mv 3 (.c (.int .i64 5))])
  .rt) .sk)))
  (.rg [.mv 27 (.s 4),
   .bi 28 .add (.s 27) (.c (.int .i64 1)),
   .mv 4 (.s 28)]))))))
  (.sq (.sq (.rg [.mv 40 (.s 0),
   .lns 41 (.s 40),
   .bi 42 .gtr (.s 41) (.c (.int .i64 39))])
  (.cd (.s 42) (.sq (.rg [.bd 43 [(.int .u64 0), (.int .u64 0)] [],
   .st 2 (.s 2) (.s 43),
   .mv 3 (.c (.int .i64 3))])
  .rt) .sk))
  (.sq (.rg [.bs 44 1 [],
   .mv 5 (.s 44)])
  (.sq (.rg [.bs 45 1 [(.c (.bool false)), (.c (.bool true)), (.c (.bool false)), (.c (.bool true))],
   .mv 6 (.s 45)])
  (.sq (.sq (.rg [.mv 7 (.c (.int .i64 0))])
  (.bl 2 (.lp (.sq (.sq (.rg [.mv 46 (.s 7),
   .mv 47 (.s 0),
   .lns 48 (.s 47),
   .bi 49 .lss (.s 46) (.s 48)])
  (.cd (.s 49) .sk (.ex 2)))
  (.sq (.bl 3 (.rd [[], [], [], [], [], [], [], [], [], [], [], []] [.mv 52 (.s 5),
   .mv 53 (.s 6),
   .cl 54 66 [(.s 52), (.s 53)],
   .mv 55 (.s 0),
   .mv 56 (.s 7),
   .ixs 57 (.s 55) (.s 56),
   .cv 58 .u64 (.s 57),
   .bi 59 .sub (.s 58) (.c (.int .u64 48)),
   .bd 60 [(.int .u64 0), (.int .u64 0)] [(1, 1, (.s 59))],
   .cl 61 75 [(.s 60)],
   .cl 62 74 [(.s 54), (.s 61)],
   .mv 5 (.s 62)]))
  (.rg [.mv 50 (.s 7),
   .bi 51 .add (.s 50) (.c (.int .i64 1)),
   .mv 7 (.s 51)]))))))
  (.sq (.rg [.mv 64 (.s 5),
   .cl 65 68 [(.s 64)],
   .mv 63 (.s 65),
   .exq 66 (.s 63) 0,
   .exq 67 (.s 63) 1,
   .al 8 [(.int .u64 0), (.int .u64 0)],
   .st 2 (.s 8) (.s 66),
   .mv 9 (.s 67)])
  (.sq (.sq (.rg [.mv 68 (.s 9),
   .un 69 .not (.s 68)])
  (.cd (.s 69) (.sq (.rg [.bd 70 [(.int .u64 0), (.int .u64 0)] [],
   .st 2 (.s 2) (.s 70),
   .mv 3 (.c (.int .i64 3))])
  .rt) .sk))
  (.sq (.rg [.lda 71 2 (.s 8),
   .st 2 (.s 2) (.s 71),
   .mv 3 (.c (.int .i64 0))])
  .rt))))))))))
def a79 : AF := ⟨c79, [.ca 2 2, .t 3], 1, 72⟩
theorem m79 : mF Try.prog gl drD Try.f79 a79 = true := by kernel_rfl
theorem s79 {l : List AV} {r : AV} (hl : l.length = 1) (hi : idsL l = []) (h : wpA (SpH Try.prog gl) c79 (postA [.ca 2 2, .t 3] r) ⟨initE 0 l, [], []⟩) : Sp Try.prog gl 79 l r :=
  @fun_sp Try.prog gl drD 79 Try.f79 a79 Try.func79 m79 (dok _) l r hl hi h
theorem h79 {d : Nat} {I : In} {O : Out} (hl : I.vs.length = 1) (h : wpA (SpH Try.prog gl) c79 (postH d [.ca 2 2, .t 3] O) (inSt I)) : SpH Try.prog gl 79 d I O :=
  @fun_spH Try.prog gl drD 79 Try.f79 a79 Try.func79 m79 (dok _) d I O hl h
/-- firebell/firebellref01.Digits -/
def c80 : AC :=
 (.sq (.rg [.mv 2 (.c (.str []))])
  (.sq (.rg [.bd 9 [(.int .u64 0), (.int .u64 0)] [(1, 1, (.c (.int .u64 10)))],
   .cl 10 75 [(.s 9)],
   .mv 3 (.s 10)])
  (.sq (.rg [.mv 4 (.c (.str []))])
  (.bl 0 (.lp (.bl 1 (.sq (.rg [.mv 12 (.s 0),
   .mv 13 (.s 3),
   .cl 14 65 [(.s 12), (.s 13)],
   .mv 11 (.s 14),
   .exq 15 (.s 11) 0,
   .exq 16 (.s 11) 1,
   .mv 5 (.s 15),
   .mv 6 (.s 16)])
  (.sq (.rg [.mv 18 (.s 6),
   .cl 19 68 [(.s 18)],
   .mv 17 (.s 19),
   .exq 20 (.s 17) 0,
   .exq 21 (.s 17) 1,
   .al 7 [(.int .u64 0), (.int .u64 0)],
   .st 2 (.s 7) (.s 20),
   .mv 8 (.s 21)])
  (.sq (.rg [.fa 22 (.s 7) 1,
   .lds 23 (.s 22),
   .cv 24 .u8 (.s 23),
   .bi 25 .add (.c (.int .u8 48)) (.s 24),
   .bs 26 1 [(.s 25)],
   .b2s 27 (.s 26),
   .mv 28 (.s 4),
   .bi 29 .add (.s 27) (.s 28),
   .mv 4 (.s 29)])
  (.sq (.sq (.rg [.mv 30 (.s 5),
   .cl 31 36 [(.s 30), (.c .nils)],
   .bi 32 .eql (.s 31) (.c (.int .i64 0))])
  (.cd (.s 32) (.sq (.rg [.mv 33 (.s 4),
   .mv 2 (.s 33)])
  .rt) .sk))
  (.rg [.mv 34 (.s 5),
   .mv 0 (.s 34)])))))))))))
def a80 : AF := ⟨c80, [.t 2], 1, 35⟩
theorem m80 : mF Try.prog gl drD Try.f80 a80 = true := by kernel_rfl
theorem s80 {l : List AV} {r : AV} (hl : l.length = 1) (hi : idsL l = []) (h : wpA (SpH Try.prog gl) c80 (postA [.t 2] r) ⟨initE 0 l, [], []⟩) : Sp Try.prog gl 80 l r :=
  @fun_sp Try.prog gl drD 80 Try.f80 a80 Try.func80 m80 (dok _) l r hl hi h
theorem h80 {d : Nat} {I : In} {O : Out} (hl : I.vs.length = 1) (h : wpA (SpH Try.prog gl) c80 (postH d [.t 2] O) (inSt I)) : SpH Try.prog gl 80 d I O :=
  @fun_spH Try.prog gl drD 80 Try.f80 a80 Try.func80 m80 (dok _) d I O hl h
/-- slices.IndexFunc[[]firebell/api.Message,firebell/api.Message] -/
def c81 : AC :=
 (.sq (.rg [.mv 4 (.c (.int .i64 0))])
  (.sq (.sq (.rg [.mv 6 (.s 0),
   .ln 7 (.s 6),
   .mv 8 (.c (.int .i64 0))])
  (.bl 0 (.lp (.sq (.rg [.bi 9 .lss (.s 8) (.s 7)])
  (.sq (.cd (.s 9) .sk (.ex 0))
  (.sq (.bl 1 (.sq (.rg [.mv 10 (.s 8),
   .mv 5 (.s 10)])
  (.sq (.rg [.mv 11 (.s 1),
   .mv 12 (.s 0),
   .mv 13 (.s 5),
   .ia 14 3 (.s 12) (.s 13),
   .lda 15 3 (.s 14),
   .cd 16 (.s 11) [(.s 15)]])
  (.cd (.s 16) (.sq (.rg [.mv 17 (.s 5),
   .mv 4 (.s 17)])
  .rt) .sk))))
  (.rg [.bi 18 .add (.s 8) (.c (.int .i64 1)),
   .mv 8 (.s 18)])))))))
  (.sq (.rg [.mv 4 (.c (.int .i64 (-1)))])
  .rt)))
def a81 : AF := ⟨c81, [.t 4], 2, 19⟩
theorem m81 : mF Try.prog gl drD Try.f81 a81 = true := by kernel_rfl
theorem s81 {l : List AV} {r : AV} (hl : l.length = 2) (hi : idsL l = []) (h : wpA (SpH Try.prog gl) c81 (postA [.t 4] r) ⟨initE 0 l, [], []⟩) : Sp Try.prog gl 81 l r :=
  @fun_sp Try.prog gl drD 81 Try.f81 a81 Try.func81 m81 (dok _) l r hl hi h
theorem h81 {d : Nat} {I : In} {O : Out} (hl : I.vs.length = 2) (h : wpA (SpH Try.prog gl) c81 (postH d [.t 4] O) (inSt I)) : SpH Try.prog gl 81 d I O :=
  @fun_spH Try.prog gl drD 81 Try.f81 a81 Try.func81 m81 (dok _) d I O hl h
/-- firebell/bundle.group$1 -/
def c82 : AC :=
 (.sq (.rg [.bx 2 (.s 0),
   .mv 3 (.c (.bool false))])
  (.sq (.rg [.lda 4 3 (.s 2),
   .lda 5 5 (.s 1),
   .cl 6 83 [(.s 4), (.s 5)],
   .mv 3 (.s 6)])
  .rt))
def a82 : AF := ⟨c82, [.t 3], 2, 7⟩
theorem m82 : mF Try.prog gl drD Try.f82 a82 = true := by kernel_rfl
theorem s82 {l : List AV} {r : AV} (hl : l.length = 2) (hi : idsL l = []) (h : wpA (SpH Try.prog gl) c82 (postA [.t 3] r) ⟨initE 0 l, [], []⟩) : Sp Try.prog gl 82 l r :=
  @fun_sp Try.prog gl drD 82 Try.f82 a82 Try.func82 m82 (dok _) l r hl hi h
theorem h82 {d : Nat} {I : In} {O : Out} (hl : I.vs.length = 2) (h : wpA (SpH Try.prog gl) c82 (postH d [.t 3] O) (inSt I)) : SpH Try.prog gl 82 d I O :=
  @fun_spH Try.prog gl drD 82 Try.f82 a82 Try.func82 m82 (dok _) d I O hl h
/-- firebell/bundle.goes -/
def c83 : AC :=
 (.sq (.rg [.bx 2 (.s 0),
   .bx 3 (.s 1),
   .mv 4 (.c (.bool false))])
  (.sq (.rg [.fa 5 (.s 2) 0,
   .lds 6 (.s 5),
   .fa 7 (.s 3) 0,
   .lds 8 (.s 7),
   .bi 9 .eql (.s 6) (.s 8),
   .mv 10 (.s 9),
   .gd 10 true 11 (.fa 11 (.s 2) 1),
   .gd 10 true 12 (.lds 12 (.s 11)),
   .gd 10 true 13 (.fa 13 (.s 3) 2),
   .gd 10 true 14 (.lds 14 (.s 13)),
   .gd 10 true 15 (.bb 15 false (.s 12) (.s 14)),
   .pk 16 (.s 10) (.s 15) (.c (.bool false)),
   .mv 17 (.s 16),
   .gd 17 true 18 (.fa 18 (.s 2) 2),
   .gd 17 true 19 (.lds 19 (.s 18)),
   .gd 17 true 20 (.ln 20 (.s 19)),
   .gd 17 true 21 (.bi 21 .lss (.s 20) (.c (.int .i64 8))),
   .pk 22 (.s 17) (.s 21) (.c (.bool false)),
   .mv 4 (.s 22)])
  .rt))
def a83 : AF := ⟨c83, [.t 4], 2, 23⟩
theorem m83 : mF Try.prog gl drD Try.f83 a83 = true := by kernel_rfl
theorem s83 {l : List AV} {r : AV} (hl : l.length = 2) (hi : idsL l = []) (h : wpA (SpH Try.prog gl) c83 (postA [.t 4] r) ⟨initE 0 l, [], []⟩) : Sp Try.prog gl 83 l r :=
  @fun_sp Try.prog gl drD 83 Try.f83 a83 Try.func83 m83 (dok _) l r hl hi h
theorem h83 {d : Nat} {I : In} {O : Out} (hl : I.vs.length = 2) (h : wpA (SpH Try.prog gl) c83 (postH d [.t 4] O) (inSt I)) : SpH Try.prog gl 83 d I O :=
  @fun_spH Try.prog gl drD 83 Try.f83 a83 Try.func83 m83 (dok _) d I O hl h
/-- firebell/firebellref25.Same -/
def c84 : AC :=
 (.sq (.rg [.mv 4 (.c (.bool false))])
  (.sq (.sq (.rg [.mv 6 (.s 0),
   .ln 7 (.s 6),
   .mv 8 (.s 1),
   .ln 9 (.s 8),
   .bi 10 .neq (.s 7) (.s 9)])
  (.cd (.s 10) (.sq (.rg [.mv 4 (.c (.bool false))])
  .rt) .sk))
  (.sq (.sq (.rg [.mv 5 (.c (.int .i64 0))])
  (.bl 0 (.lp (.sq (.sq (.rg [.mv 11 (.s 5),
   .mv 12 (.s 0),
   .ln 13 (.s 12),
   .bi 14 .lss (.s 11) (.s 13)])
  (.cd (.s 14) .sk (.ex 0)))
  (.sq (.bl 1 (.sq (.rd [[], [], [], [], [], [], [], [], []] [.mv 17 (.s 0),
   .mv 18 (.s 5),
   .ia 19 5 (.s 17) (.s 18),
   .lda 20 5 (.s 19),
   .mv 21 (.s 1),
   .mv 22 (.s 5),
   .ia 23 5 (.s 21) (.s 22),
   .lda 24 5 (.s 23),
   .ea 25 true [.s, .s, .b, .i, .b] (.s 20) (.s 24)])
  (.cd (.s 25) (.sq (.rg [.mv 4 (.c (.bool false))])
  .rt) .sk)))
  (.rg [.mv 15 (.s 5),
   .bi 16 .add (.s 15) (.c (.int .i64 1)),
   .mv 5 (.s 16)]))))))
  (.sq (.rg [.mv 4 (.c (.bool true))])
  .rt))))
def a84 : AF := ⟨c84, [.t 4], 2, 26⟩
theorem m84 : mF Try.prog gl drD Try.f84 a84 = true := by kernel_rfl
theorem s84 {l : List AV} {r : AV} (hl : l.length = 2) (hi : idsL l = []) (h : wpA (SpH Try.prog gl) c84 (postA [.t 4] r) ⟨initE 0 l, [], []⟩) : Sp Try.prog gl 84 l r :=
  @fun_sp Try.prog gl drD 84 Try.f84 a84 Try.func84 m84 (dok _) l r hl hi h
theorem h84 {d : Nat} {I : In} {O : Out} (hl : I.vs.length = 2) (h : wpA (SpH Try.prog gl) c84 (postH d [.t 4] O) (inSt I)) : SpH Try.prog gl 84 d I O :=
  @fun_spH Try.prog gl drD 84 Try.f84 a84 Try.func84 m84 (dok _) d I O hl h
/-- firebell/firebellref06.Runes -/
def c85 : AC :=
 (.sq (.rg [.mv 2 (.c .nils)])
  (.sq (.rg [.bs 10 1 [],
   .mo 3 10])
  (.sq (.rg [.mv 4 (.c (.int .i64 0))])
  (.sq (.bl 0 (.lp (.sq (.sq (.rg [.mv 11 (.s 4),
   .mv 12 (.s 0),
   .lns 13 (.s 12),
   .bi 14 .lss (.s 11) (.s 13)])
  (.cd (.s 14) .sk (.ex 0)))
  (.bl 1 (.sq (.rg [.mv 15 (.s 0),
   .mv 16 (.s 4),
   .ixs 17 (.s 15) (.s 16),
   .cv 18 .i32 (.s 17),
   .mv 5 (.s 18)])
  (.sq (.rg [.mv 6 (.c (.int .i64 0))])
  (.sq (.rg [.mv 7 (.c (.int .i32 0))])
  (.sq (.bl 2 (.sq (.rg [.mv 20 (.s 5),
   .bi 21 .lss (.s 20) (.c (.int .i32 128)),
   .mv 19 (.s 21)])
  (.cd (.s 19) (.sq (.rg [.mo 22 3,
   .mv 23 (.s 5),
   .bs 24 1 [(.s 23)],
   .ap 25 1 4 (.s 22) (.s 24),
   .mo 3 25])
  (.sq (.rg [.mv 26 (.s 4),
   .bi 27 .add (.s 26) (.c (.int .i64 1)),
   .mv 4 (.s 27)])
  (.ex 1))) (.sq (.rg [.mv 29 (.s 5),
   .bi 30 .geq (.s 29) (.c (.int .i32 192)),
   .mv 31 (.s 30),
   .gd 31 true 32 (.mv 32 (.s 5)),
   .gd 31 true 33 (.bi 33 .lss (.s 32) (.c (.int .i32 224))),
   .pk 34 (.s 31) (.s 33) (.c (.bool false)),
   .mv 28 (.s 34)])
  (.cd (.s 28) (.sq (.rg [.mv 6 (.c (.int .i64 1))])
  (.sq (.rg [.mv 35 (.s 5),
   .bi 36 .sub (.s 35) (.c (.int .i32 192)),
   .mv 5 (.s 36)])
  (.rg [.mv 7 (.c (.int .i32 128))]))) (.sq (.rg [.mv 38 (.s 5),
   .bi 39 .geq (.s 38) (.c (.int .i32 224)),
   .mv 40 (.s 39),
   .gd 40 true 41 (.mv 41 (.s 5)),
   .gd 40 true 42 (.bi 42 .lss (.s 41) (.c (.int .i32 240))),
   .pk 43 (.s 40) (.s 42) (.c (.bool false)),
   .mv 37 (.s 43)])
  (.cd (.s 37) (.sq (.rg [.mv 6 (.c (.int .i64 2))])
  (.sq (.rg [.mv 44 (.s 5),
   .bi 45 .sub (.s 44) (.c (.int .i32 224)),
   .mv 5 (.s 45)])
  (.rg [.mv 7 (.c (.int .i32 2048))]))) (.sq (.rg [.mv 47 (.s 5),
   .bi 48 .geq (.s 47) (.c (.int .i32 240)),
   .mv 49 (.s 48),
   .gd 49 true 50 (.mv 50 (.s 5)),
   .gd 49 true 51 (.bi 51 .lss (.s 50) (.c (.int .i32 248))),
   .pk 52 (.s 49) (.s 51) (.c (.bool false)),
   .mv 46 (.s 52)])
  (.cd (.s 46) (.sq (.rg [.mv 6 (.c (.int .i64 3))])
  (.sq (.rg [.mv 53 (.s 5),
   .bi 54 .sub (.s 53) (.c (.int .i32 240)),
   .mv 5 (.s 54)])
  (.rg [.mv 7 (.c (.int .i32 65536))]))) .sk)))))))))
  (.sq (.rg [.mv 55 (.s 6),
   .bi 56 .gtr (.s 55) (.c (.int .i64 0)),
   .mv 8 (.s 56)])
  (.sq (.sq (.rg [.mv 9 (.c (.int .i64 1))])
  (.bl 3 (.lp (.sq (.sq (.rg [.mv 57 (.s 9),
   .mv 58 (.s 6),
   .bi 59 .leq (.s 57) (.s 58)])
  (.cd (.s 59) .sk (.ex 3)))
  (.sq (.bl 4 (.sq (.sq (.rg [.mv 62 (.s 4),
   .mv 63 (.s 9),
   .bi 64 .add (.s 62) (.s 63),
   .mv 65 (.s 0),
   .lns 66 (.s 65),
   .bi 67 .geq (.s 64) (.s 66),
   .mv 68 (.s 67),
   .gd 68 false 69 (.mv 69 (.s 0)),
   .gd 68 false 70 (.mv 70 (.s 4)),
   .gd 68 false 71 (.mv 71 (.s 9)),
   .gd 68 false 72 (.bi 72 .add (.s 70) (.s 71)),
   .gd 68 false 73 (.ixs 73 (.s 69) (.s 72)),
   .gd 68 false 74 (.bi 74 .lss (.s 73) (.c (.int .u8 128))),
   .pk 75 (.s 68) (.c (.bool true)) (.s 74),
   .mv 76 (.s 75),
   .gd 76 false 77 (.mv 77 (.s 0)),
   .gd 76 false 78 (.mv 78 (.s 4)),
   .gd 76 false 79 (.mv 79 (.s 9)),
   .gd 76 false 80 (.bi 80 .add (.s 78) (.s 79)),
   .gd 76 false 81 (.ixs 81 (.s 77) (.s 80)),
   .gd 76 false 82 (.bi 82 .gtr (.s 81) (.c (.int .u8 191))),
   .pk 83 (.s 76) (.c (.bool true)) (.s 82)])
  (.cd (.s 83) (.sq (.rg [.mv 8 (.c (.bool false))])
  (.ex 3)) .sk))
  (.rg [.mv 84 (.s 5),
   .bi 85 .mul (.c (.int .i32 64)) (.s 84),
   .mv 86 (.s 0),
   .mv 87 (.s 4),
   .mv 88 (.s 9),
   .bi 89 .add (.s 87) (.s 88),
   .ixs 90 (.s 86) (.s 89),
   .cv 91 .i32 (.s 90),
   .bi 92 .add (.s 85) (.s 91),
   .bi 93 .sub (.s 92) (.c (.int .i32 128)),
   .mv 5 (.s 93)])))
  (.rg [.mv 60 (.s 9),
   .bi 61 .add (.s 60) (.c (.int .i64 1)),
   .mv 9 (.s 61)]))))))
  (.sq (.sq (.rg [.mv 94 (.s 8),
   .un 95 .not (.s 94),
   .mv 96 (.s 95),
   .gd 96 false 97 (.mv 97 (.s 5)),
   .gd 96 false 98 (.mv 98 (.s 7)),
   .gd 96 false 99 (.bi 99 .lss (.s 97) (.s 98)),
   .pk 100 (.s 96) (.c (.bool true)) (.s 99),
   .mv 101 (.s 100),
   .gd 101 false 102 (.mv 102 (.s 5)),
   .gd 101 false 103 (.bi 103 .gtr (.s 102) (.c (.int .i32 1114111))),
   .pk 104 (.s 101) (.c (.bool true)) (.s 103),
   .mv 105 (.s 104),
   .gd 105 false 106 (.mv 106 (.s 5)),
   .gd 105 false 107 (.bi 107 .geq (.s 106) (.c (.int .i32 55296))),
   .gd 105 false 108 (.mv 108 (.s 107)),
   .gd 108 true 109 (.mv 109 (.s 5)),
   .gd 108 true 110 (.bi 110 .lss (.s 109) (.c (.int .i32 57344))),
   .gd 105 false 111 (.pk 111 (.s 108) (.s 110) (.c (.bool false))),
   .pk 112 (.s 105) (.c (.bool true)) (.s 111)])
  (.cd (.s 112) (.sq (.rg [.mo 113 3,
   .bs 114 1 [(.c (.int .i32 (-1)))],
   .ap 115 1 4 (.s 113) (.s 114),
   .mo 3 115])
  (.sq (.rg [.mv 116 (.s 4),
   .bi 117 .add (.s 116) (.c (.int .i64 1)),
   .mv 4 (.s 117)])
  (.ex 1))) .sk))
  (.sq (.rg [.mo 118 3,
   .mv 119 (.s 5),
   .bs 120 1 [(.s 119)],
   .ap 121 1 4 (.s 118) (.s 120),
   .mo 3 121])
  (.rg [.mv 122 (.s 4),
   .bi 123 .add (.s 122) (.c (.int .i64 1)),
   .mv 124 (.s 6),
   .bi 125 .add (.s 123) (.s 124),
   .mv 4 (.s 125)])))))))))))))
  (.sq (.rg [.mv 126 (.s 3),
   .mv 2 (.s 126)])
  .rt)))))
def a85 : AF := ⟨c85, [.t 2], 1, 127⟩
theorem m85 : mF Try.prog gl drD Try.f85 a85 = true := by kernel_rfl
theorem s85 {l : List AV} {r : AV} (hl : l.length = 1) (hi : idsL l = []) (h : wpA (SpH Try.prog gl) c85 (postA [.t 2] r) ⟨initE 0 l, [], []⟩) : Sp Try.prog gl 85 l r :=
  @fun_sp Try.prog gl drD 85 Try.f85 a85 Try.func85 m85 (dok _) l r hl hi h
theorem h85 {d : Nat} {I : In} {O : Out} (hl : I.vs.length = 1) (h : wpA (SpH Try.prog gl) c85 (postH d [.t 2] O) (inSt I)) : SpH Try.prog gl 85 d I O :=
  @fun_spH Try.prog gl drD 85 Try.f85 a85 Try.func85 m85 (dok _) d I O hl h
/-- firebell/firebellref06.Letter -/
def c86 : AC :=
 (.sq (.rg [.mv 2 (.c (.bool false))])
  (.sq (.sq (.rg [.mv 3 (.s 0),
   .bi 4 .geq (.s 3) (.c (.int .i32 97)),
   .mv 5 (.s 4),
   .gd 5 true 6 (.mv 6 (.s 0)),
   .gd 5 true 7 (.bi 7 .leq (.s 6) (.c (.int .i32 122))),
   .pk 8 (.s 5) (.s 7) (.c (.bool false)),
   .mv 9 (.s 8),
   .gd 9 false 10 (.mv 10 (.s 0)),
   .gd 9 false 11 (.bi 11 .geq (.s 10) (.c (.int .i32 65))),
   .gd 9 false 12 (.mv 12 (.s 11)),
   .gd 12 true 13 (.mv 13 (.s 0)),
   .gd 12 true 14 (.bi 14 .leq (.s 13) (.c (.int .i32 90))),
   .gd 9 false 15 (.pk 15 (.s 12) (.s 14) (.c (.bool false))),
   .pk 16 (.s 9) (.c (.bool true)) (.s 15)])
  (.cd (.s 16) (.sq (.rg [.mv 2 (.c (.bool true))])
  .rt) .sk))
  (.sq (.sq (.rg [.mv 17 (.s 0),
   .bi 18 .geq (.s 17) (.c (.int .i32 192)),
   .mv 19 (.s 18),
   .gd 19 true 20 (.mv 20 (.s 0)),
   .gd 19 true 21 (.bi 21 .leq (.s 20) (.c (.int .i32 591))),
   .pk 22 (.s 19) (.s 21) (.c (.bool false))])
  (.cd (.s 22) (.sq (.rg [.mv 23 (.s 0),
   .bi 24 .neq (.s 23) (.c (.int .i32 215)),
   .mv 25 (.s 24),
   .gd 25 true 26 (.mv 26 (.s 0)),
   .gd 25 true 27 (.bi 27 .neq (.s 26) (.c (.int .i32 247))),
   .pk 28 (.s 25) (.s 27) (.c (.bool false)),
   .mv 2 (.s 28)])
  .rt) .sk))
  (.sq (.rg [.mv 29 (.s 0),
   .bi 30 .geq (.s 29) (.c (.int .i32 880)),
   .mv 31 (.s 30),
   .gd 31 true 32 (.mv 32 (.s 0)),
   .gd 31 true 33 (.bi 33 .leq (.s 32) (.c (.int .i32 1279))),
   .pk 34 (.s 31) (.s 33) (.c (.bool false)),
   .mv 2 (.s 34)])
  .rt))))
def a86 : AF := ⟨c86, [.t 2], 1, 35⟩
theorem m86 : mF Try.prog gl drD Try.f86 a86 = true := by kernel_rfl
theorem s86 {l : List AV} {r : AV} (hl : l.length = 1) (hi : idsL l = []) (h : wpA (SpH Try.prog gl) c86 (postA [.t 2] r) ⟨initE 0 l, [], []⟩) : Sp Try.prog gl 86 l r :=
  @fun_sp Try.prog gl drD 86 Try.f86 a86 Try.func86 m86 (dok _) l r hl hi h
theorem h86 {d : Nat} {I : In} {O : Out} (hl : I.vs.length = 1) (h : wpA (SpH Try.prog gl) c86 (postH d [.t 2] O) (inSt I)) : SpH Try.prog gl 86 d I O :=
  @fun_spH Try.prog gl drD 86 Try.f86 a86 Try.func86 m86 (dok _) d I O hl h
/-- firebell/text.Name -/
def c87 : AC :=
 (.sq (.rg [.mv 2 (.c (.bool false))])
  (.sq (.rg [.mv 3 (.c (.int .i64 0))])
  (.sq (.rg [.mv 4 (.c (.int .i32 32))])
  (.sq (.sq (.rg [.mv 8 (.s 0),
   .rs 9 (.s 8)])
  (.bl 0 (.lp (.sq (.rg [.nx 10 (.s 9),
   .exq 11 (.s 10) 0])
  (.sq (.cd (.s 11) .sk (.ex 0))
  (.bl 1 (.sq (.rg [.exq 12 (.s 10) 1,
   .exq 13 (.s 10) 2,
   .mv 5 (.s 12),
   .mv 6 (.s 13)])
  (.sq (.rg [.mv 14 (.s 6),
   .cl 15 100 [(.s 14)],
   .mv 16 (.s 15),
   .gd 16 false 17 (.mv 17 (.s 5)),
   .gd 16 false 18 (.bi 18 .gtr (.s 17) (.c (.int .i64 0))),
   .gd 16 false 19 (.mv 19 (.s 18)),
   .gd 19 true 20 (.mv 20 (.s 6)),
   .gd 19 true 21 (.cl 21 101 [(.s 20)]),
   .gd 19 true 22 (.mv 22 (.s 21)),
   .gd 22 false 23 (.mv 23 (.s 6)),
   .gd 22 false 24 (.bi 24 .eql (.s 23) (.c (.int .i32 95))),
   .gd 19 true 25 (.pk 25 (.s 22) (.c (.bool true)) (.s 24)),
   .gd 19 true 26 (.mv 26 (.s 25)),
   .gd 26 false 27 (.mv 27 (.s 6)),
   .gd 26 false 28 (.bi 28 .eql (.s 27) (.c (.int .i32 45))),
   .gd 19 true 29 (.pk 29 (.s 26) (.c (.bool true)) (.s 28)),
   .gd 16 false 30 (.pk 30 (.s 19) (.s 29) (.c (.bool false))),
   .pk 31 (.s 16) (.c (.bool true)) (.s 30),
   .mv 7 (.s 31)])
  (.sq (.sq (.rg [.mv 32 (.s 7),
   .un 33 .not (.s 32)])
  (.cd (.s 33) (.sq (.rg [.mv 2 (.c (.bool false))])
  .rt) .sk))
  (.rg [.mv 34 (.s 3),
   .bi 35 .add (.s 34) (.c (.int .i64 1)),
   .mv 36 (.s 6),
   .mv 3 (.s 35),
   .mv 4 (.s 36)]))))))))))
  (.sq (.rg [.mv 37 (.s 3),
   .bi 38 .gtr (.s 37) (.c (.int .i64 0)),
   .mv 39 (.s 38),
   .gd 39 true 40 (.mv 40 (.s 3)),
   .gd 39 true 41 (.bi 41 .leq (.s 40) (.c (.int .i64 24))),
   .pk 42 (.s 39) (.s 41) (.c (.bool false)),
   .mv 43 (.s 42),
   .gd 43 true 44 (.mv 44 (.s 4)),
   .gd 43 true 45 (.cl 45 100 [(.s 44)]),
   .gd 43 true 46 (.mv 46 (.s 45)),
   .gd 46 false 47 (.mv 47 (.s 4)),
   .gd 46 false 48 (.cl 48 101 [(.s 47)]),
   .gd 43 true 49 (.pk 49 (.s 46) (.c (.bool true)) (.s 48)),
   .pk 50 (.s 43) (.s 49) (.c (.bool false)),
   .mv 2 (.s 50)])
  .rt)))))
def a87 : AF := ⟨c87, [.t 2], 1, 51⟩
theorem m87 : mF Try.prog gl drD Try.f87 a87 = true := by kernel_rfl
theorem s87 {l : List AV} {r : AV} (hl : l.length = 1) (hi : idsL l = []) (h : wpA (SpH Try.prog gl) c87 (postA [.t 2] r) ⟨initE 0 l, [], []⟩) : Sp Try.prog gl 87 l r :=
  @fun_sp Try.prog gl drD 87 Try.f87 a87 Try.func87 m87 (dok _) l r hl hi h
theorem h87 {d : Nat} {I : In} {O : Out} (hl : I.vs.length = 1) (h : wpA (SpH Try.prog gl) c87 (postH d [.t 2] O) (inSt I)) : SpH Try.prog gl 87 d I O :=
  @fun_spH Try.prog gl drD 87 Try.f87 a87 Try.func87 m87 (dok _) d I O hl h
/-- firebell/ppm.Right -/
def c88 : AC :=
 (.sq (.rg [.mv 2 (.c (.bool false))])
  (.sq (.rg [.mv 3 (.s 0),
   .bi 4 .leq (.s 3) (.c (.int .u32 1000000)),
   .mv 2 (.s 4)])
  .rt))
def a88 : AF := ⟨c88, [.t 2], 1, 5⟩
theorem m88 : mF Try.prog gl drD Try.f88 a88 = true := by kernel_rfl
theorem s88 {l : List AV} {r : AV} (hl : l.length = 1) (hi : idsL l = []) (h : wpA (SpH Try.prog gl) c88 (postA [.t 2] r) ⟨initE 0 l, [], []⟩) : Sp Try.prog gl 88 l r :=
  @fun_sp Try.prog gl drD 88 Try.f88 a88 Try.func88 m88 (dok _) l r hl hi h
theorem h88 {d : Nat} {I : In} {O : Out} (hl : I.vs.length = 1) (h : wpA (SpH Try.prog gl) c88 (postH d [.t 2] O) (inSt I)) : SpH Try.prog gl 88 d I O :=
  @fun_spH Try.prog gl drD 88 Try.f88 a88 Try.func88 m88 (dok _) d I O hl h
/-- math/bits.Mul64 -/
def c89 : AC :=
 (.sq (.rg [.mv 4 (.c (.int .u64 0)),
   .mv 5 (.c (.int .u64 0))])
  (.sq (.rg [.mv 14 (.s 0),
   .bi 15 .and (.s 14) (.c (.int .u64 4294967295)),
   .mv 6 (.s 15)])
  (.sq (.rg [.mv 16 (.s 0),
   .bi 17 .shr (.s 16) (.c (.int .u64 32)),
   .mv 7 (.s 17)])
  (.sq (.rg [.mv 18 (.s 1),
   .bi 19 .and (.s 18) (.c (.int .u64 4294967295)),
   .mv 8 (.s 19)])
  (.sq (.rg [.mv 20 (.s 1),
   .bi 21 .shr (.s 20) (.c (.int .u64 32)),
   .mv 9 (.s 21)])
  (.sq (.rg [.mv 22 (.s 6),
   .mv 23 (.s 8),
   .bi 24 .mul (.s 22) (.s 23),
   .mv 10 (.s 24)])
  (.sq (.rg [.mv 25 (.s 7),
   .mv 26 (.s 8),
   .bi 27 .mul (.s 25) (.s 26),
   .mv 28 (.s 10),
   .bi 29 .shr (.s 28) (.c (.int .u64 32)),
   .bi 30 .add (.s 27) (.s 29),
   .mv 11 (.s 30)])
  (.sq (.rg [.mv 31 (.s 11),
   .bi 32 .and (.s 31) (.c (.int .u64 4294967295)),
   .mv 12 (.s 32)])
  (.sq (.rg [.mv 33 (.s 11),
   .bi 34 .shr (.s 33) (.c (.int .u64 32)),
   .mv 13 (.s 34)])
  (.sq (.rg [.mv 35 (.s 12),
   .mv 36 (.s 6),
   .mv 37 (.s 9),
   .bi 38 .mul (.s 36) (.s 37),
   .bi 39 .add (.s 35) (.s 38),
   .mv 12 (.s 39)])
  (.sq (.rg [.mv 40 (.s 7),
   .mv 41 (.s 9),
   .bi 42 .mul (.s 40) (.s 41),
   .mv 43 (.s 13),
   .bi 44 .add (.s 42) (.s 43),
   .mv 45 (.s 12),
   .bi 46 .shr (.s 45) (.c (.int .u64 32)),
   .bi 47 .add (.s 44) (.s 46),
   .mv 4 (.s 47)])
  (.sq (.rg [.mv 48 (.s 0),
   .mv 49 (.s 1),
   .bi 50 .mul (.s 48) (.s 49),
   .mv 5 (.s 50)])
  .rt))))))))))))
def a89 : AF := ⟨c89, [.t 4, .t 5], 2, 51⟩
theorem m89 : mF Try.prog gl drD Try.f89 a89 = true := by kernel_rfl
theorem s89 {l : List AV} {r : AV} (hl : l.length = 2) (hi : idsL l = []) (h : wpA (SpH Try.prog gl) c89 (postA [.t 4, .t 5] r) ⟨initE 0 l, [], []⟩) : Sp Try.prog gl 89 l r :=
  @fun_sp Try.prog gl drD 89 Try.f89 a89 Try.func89 m89 (dok _) l r hl hi h
theorem h89 {d : Nat} {I : In} {O : Out} (hl : I.vs.length = 2) (h : wpA (SpH Try.prog gl) c89 (postH d [.t 4, .t 5] O) (inSt I)) : SpH Try.prog gl 89 d I O :=
  @fun_spH Try.prog gl drD 89 Try.f89 a89 Try.func89 m89 (dok _) d I O hl h
/-- cmp.Or[int] -/
def c90 : AC :=
 (.sq (.rg [.mv 2 (.c (.int .i64 0))])
  (.sq (.rg [.mv 3 (.c (.int .i64 0))])
  (.sq (.sq (.rg [.mv 6 (.s 0),
   .ln 7 (.s 6),
   .mv 8 (.c (.int .i64 0))])
  (.bl 0 (.lp (.sq (.rg [.bi 9 .lss (.s 8) (.s 7)])
  (.sq (.cd (.s 9) .sk (.ex 0))
  (.sq (.bl 1 (.sq (.rg [.ia 10 1 (.s 6) (.s 8),
   .lds 11 (.s 10),
   .mv 5 (.s 11)])
  (.sq (.rg [.mv 12 (.s 5),
   .mv 13 (.s 3),
   .bi 14 .neq (.s 12) (.s 13)])
  (.cd (.s 14) (.sq (.rg [.mv 15 (.s 5),
   .mv 2 (.s 15)])
  .rt) .sk))))
  (.rg [.bi 16 .add (.s 8) (.c (.int .i64 1)),
   .mv 8 (.s 16)])))))))
  (.sq (.rg [.mv 17 (.s 3),
   .mv 2 (.s 17)])
  .rt))))
def a90 : AF := ⟨c90, [.t 2], 1, 18⟩
theorem m90 : mF Try.prog gl drD Try.f90 a90 = true := by kernel_rfl
theorem s90 {l : List AV} {r : AV} (hl : l.length = 1) (hi : idsL l = []) (h : wpA (SpH Try.prog gl) c90 (postA [.t 2] r) ⟨initE 0 l, [], []⟩) : Sp Try.prog gl 90 l r :=
  @fun_sp Try.prog gl drD 90 Try.f90 a90 Try.func90 m90 (dok _) l r hl hi h
theorem h90 {d : Nat} {I : In} {O : Out} (hl : I.vs.length = 1) (h : wpA (SpH Try.prog gl) c90 (postH d [.t 2] O) (inSt I)) : SpH Try.prog gl 90 d I O :=
  @fun_spH Try.prog gl drD 90 Try.f90 a90 Try.func90 m90 (dok _) d I O hl h
/-- cmp.Compare[uint64] -/
def c91 : AC :=
 (.sq (.rg [.mv 4 (.c (.int .i64 0))])
  (.sq (.rg [.mv 7 (.s 0),
   .cl 8 102 [(.s 7)],
   .mv 5 (.s 8)])
  (.sq (.rg [.mv 9 (.s 1),
   .cl 10 102 [(.s 9)],
   .mv 6 (.s 10)])
  (.sq (.sq (.rg [.mv 11 (.s 5)])
  (.cd (.s 11) (.sq (.sq (.rg [.mv 12 (.s 6)])
  (.cd (.s 12) (.sq (.rg [.mv 4 (.c (.int .i64 0))])
  .rt) .sk))
  (.sq (.rg [.mv 4 (.c (.int .i64 (-1)))])
  .rt)) .sk))
  (.sq (.sq (.rg [.mv 13 (.s 6)])
  (.cd (.s 13) (.sq (.rg [.mv 4 (.c (.int .i64 1))])
  .rt) .sk))
  (.sq (.sq (.rg [.mv 14 (.s 0),
   .mv 15 (.s 1),
   .bi 16 .lss (.s 14) (.s 15)])
  (.cd (.s 16) (.sq (.rg [.mv 4 (.c (.int .i64 (-1)))])
  .rt) .sk))
  (.sq (.sq (.rg [.mv 17 (.s 0),
   .mv 18 (.s 1),
   .bi 19 .gtr (.s 17) (.s 18)])
  (.cd (.s 19) (.sq (.rg [.mv 4 (.c (.int .i64 1))])
  .rt) .sk))
  (.sq (.rg [.mv 4 (.c (.int .i64 0))])
  .rt))))))))
def a91 : AF := ⟨c91, [.t 4], 2, 20⟩
theorem m91 : mF Try.prog gl drD Try.f91 a91 = true := by kernel_rfl
theorem s91 {l : List AV} {r : AV} (hl : l.length = 2) (hi : idsL l = []) (h : wpA (SpH Try.prog gl) c91 (postA [.t 4] r) ⟨initE 0 l, [], []⟩) : Sp Try.prog gl 91 l r :=
  @fun_sp Try.prog gl drD 91 Try.f91 a91 Try.func91 m91 (dok _) l r hl hi h
theorem h91 {d : Nat} {I : In} {O : Out} (hl : I.vs.length = 2) (h : wpA (SpH Try.prog gl) c91 (postH d [.t 4] O) (inSt I)) : SpH Try.prog gl 91 d I O :=
  @fun_spH Try.prog gl drD 91 Try.f91 a91 Try.func91 m91 (dok _) d I O hl h
/-- firebell/firebellref21.bits -/
def c92 : AC :=
 (.sq (.rg [.mv 2 (.c .nils)])
  (.sq (.rg [.mv 3 (.s 0),
   .bd 4 [(.int .u64 0), (.int .u64 0)] [(1, 1, (.s 3))],
   .cl 5 75 [(.s 4)],
   .mv 2 (.s 5)])
  .rt))
def a92 : AF := ⟨c92, [.t 2], 1, 6⟩
theorem m92 : mF Try.prog gl drD Try.f92 a92 = true := by kernel_rfl
theorem s92 {l : List AV} {r : AV} (hl : l.length = 1) (hi : idsL l = []) (h : wpA (SpH Try.prog gl) c92 (postA [.t 2] r) ⟨initE 0 l, [], []⟩) : Sp Try.prog gl 92 l r :=
  @fun_sp Try.prog gl drD 92 Try.f92 a92 Try.func92 m92 (dok _) l r hl hi h
theorem h92 {d : Nat} {I : In} {O : Out} (hl : I.vs.length = 1) (h : wpA (SpH Try.prog gl) c92 (postH d [.t 2] O) (inSt I)) : SpH Try.prog gl 92 d I O :=
  @fun_spH Try.prog gl drD 92 Try.f92 a92 Try.func92 m92 (dok _) d I O hl h
/-- math/bits.Div64 -/
def c93 : AC :=
 (.sq (.rg [.mv 6 (.c (.int .u64 0)),
   .mv 7 (.c (.int .u64 0))])
  (.sq (.sq (.rg [.mv 19 (.s 2),
   .bi 20 .eql (.s 19) (.c (.int .u64 0))])
  (.cd (.s 20) (.rg [.no,
   .no]) .sk))
  (.sq (.sq (.rg [.mv 22 (.s 2),
   .mv 23 (.s 0),
   .bi 24 .leq (.s 22) (.s 23)])
  (.cd (.s 24) (.rg [.no,
   .no]) .sk))
  (.sq (.sq (.rg [.mv 26 (.s 0),
   .bi 27 .eql (.s 26) (.c (.int .u64 0))])
  (.cd (.s 27) (.sq (.rd [[], [], [], [], [], [], [], []] [.mv 28 (.s 1),
   .mv 29 (.s 2),
   .bi 30 .quo (.s 28) (.s 29),
   .mv 31 (.s 1),
   .mv 32 (.s 2),
   .bi 33 .rem (.s 31) (.s 32),
   .mv 6 (.s 30),
   .mv 7 (.s 33)])
  .rt) .sk))
  (.sq (.rg [.mv 34 (.s 2),
   .cl 35 103 [(.s 34)],
   .cv 36 .u64 (.s 35),
   .mv 8 (.s 36)])
  (.sq (.rg [.mv 37 (.s 2),
   .mv 38 (.s 8),
   .bi 39 .shl (.s 37) (.s 38),
   .mv 2 (.s 39)])
  (.sq (.rg [.mv 40 (.s 2),
   .bi 41 .shr (.s 40) (.c (.int .u64 32)),
   .mv 9 (.s 41)])
  (.sq (.rg [.mv 42 (.s 2),
   .bi 43 .and (.s 42) (.c (.int .u64 4294967295)),
   .mv 10 (.s 43)])
  (.sq (.rg [.mv 44 (.s 0),
   .mv 45 (.s 8),
   .bi 46 .shl (.s 44) (.s 45),
   .mv 47 (.s 1),
   .mv 48 (.s 8),
   .bi 49 .sub (.c (.int .u64 64)) (.s 48),
   .bi 50 .shr (.s 47) (.s 49),
   .bi 51 .or (.s 46) (.s 50),
   .mv 11 (.s 51)])
  (.sq (.rg [.mv 52 (.s 1),
   .mv 53 (.s 8),
   .bi 54 .shl (.s 52) (.s 53),
   .mv 12 (.s 54)])
  (.sq (.rg [.mv 55 (.s 12),
   .bi 56 .shr (.s 55) (.c (.int .u64 32)),
   .mv 13 (.s 56)])
  (.sq (.rg [.mv 57 (.s 12),
   .bi 58 .and (.s 57) (.c (.int .u64 4294967295)),
   .mv 14 (.s 58)])
  (.sq (.rg [.mv 59 (.s 11),
   .mv 60 (.s 9),
   .bi 61 .quo (.s 59) (.s 60),
   .mv 15 (.s 61)])
  (.sq (.rg [.mv 62 (.s 11),
   .mv 63 (.s 15),
   .mv 64 (.s 9),
   .bi 65 .mul (.s 63) (.s 64),
   .bi 66 .sub (.s 62) (.s 65),
   .mv 16 (.s 66)])
  (.sq (.bl 0 (.lp (.sq (.sq (.rg [.mv 67 (.s 15),
   .bi 68 .geq (.s 67) (.c (.int .u64 4294967296)),
   .mv 69 (.s 68),
   .gd 69 false 70 (.mv 70 (.s 15)),
   .gd 69 false 71 (.mv 71 (.s 10)),
   .gd 69 false 72 (.bi 72 .mul (.s 70) (.s 71)),
   .gd 69 false 73 (.mv 73 (.s 16)),
   .gd 69 false 74 (.bi 74 .mul (.c (.int .u64 4294967296)) (.s 73)),
   .gd 69 false 75 (.mv 75 (.s 13)),
   .gd 69 false 76 (.bi 76 .add (.s 74) (.s 75)),
   .gd 69 false 77 (.bi 77 .gtr (.s 72) (.s 76)),
   .pk 78 (.s 69) (.c (.bool true)) (.s 77)])
  (.cd (.s 78) .sk (.ex 0)))
  (.bl 1 (.sq (.rg [.mv 79 (.s 15),
   .bi 80 .sub (.s 79) (.c (.int .u64 1)),
   .mv 15 (.s 80)])
  (.sq (.rg [.mv 81 (.s 16),
   .mv 82 (.s 9),
   .bi 83 .add (.s 81) (.s 82),
   .mv 16 (.s 83)])
  (.sq (.rg [.mv 84 (.s 16),
   .bi 85 .geq (.s 84) (.c (.int .u64 4294967296))])
  (.cd (.s 85) (.ex 0) .sk))))))))
  (.sq (.rg [.mv 86 (.s 11),
   .bi 87 .mul (.s 86) (.c (.int .u64 4294967296)),
   .mv 88 (.s 13),
   .bi 89 .add (.s 87) (.s 88),
   .mv 90 (.s 15),
   .mv 91 (.s 2),
   .bi 92 .mul (.s 90) (.s 91),
   .bi 93 .sub (.s 89) (.s 92),
   .mv 17 (.s 93)])
  (.sq (.rg [.mv 94 (.s 17),
   .mv 95 (.s 9),
   .bi 96 .quo (.s 94) (.s 95),
   .mv 18 (.s 96)])
  (.sq (.rg [.mv 97 (.s 17),
   .mv 98 (.s 18),
   .mv 99 (.s 9),
   .bi 100 .mul (.s 98) (.s 99),
   .bi 101 .sub (.s 97) (.s 100),
   .mv 16 (.s 101)])
  (.sq (.bl 2 (.lp (.sq (.sq (.rg [.mv 102 (.s 18),
   .bi 103 .geq (.s 102) (.c (.int .u64 4294967296)),
   .mv 104 (.s 103),
   .gd 104 false 105 (.mv 105 (.s 18)),
   .gd 104 false 106 (.mv 106 (.s 10)),
   .gd 104 false 107 (.bi 107 .mul (.s 105) (.s 106)),
   .gd 104 false 108 (.mv 108 (.s 16)),
   .gd 104 false 109 (.bi 109 .mul (.c (.int .u64 4294967296)) (.s 108)),
   .gd 104 false 110 (.mv 110 (.s 14)),
   .gd 104 false 111 (.bi 111 .add (.s 109) (.s 110)),
   .gd 104 false 112 (.bi 112 .gtr (.s 107) (.s 111)),
   .pk 113 (.s 104) (.c (.bool true)) (.s 112)])
  (.cd (.s 113) .sk (.ex 2)))
  (.bl 3 (.sq (.rg [.mv 114 (.s 18),
   .bi 115 .sub (.s 114) (.c (.int .u64 1)),
   .mv 18 (.s 115)])
  (.sq (.rg [.mv 116 (.s 16),
   .mv 117 (.s 9),
   .bi 118 .add (.s 116) (.s 117),
   .mv 16 (.s 118)])
  (.sq (.rg [.mv 119 (.s 16),
   .bi 120 .geq (.s 119) (.c (.int .u64 4294967296))])
  (.cd (.s 120) (.ex 2) .sk))))))))
  (.sq (.rg [.mv 121 (.s 15),
   .bi 122 .mul (.s 121) (.c (.int .u64 4294967296)),
   .mv 123 (.s 18),
   .bi 124 .add (.s 122) (.s 123),
   .mv 125 (.s 17),
   .bi 126 .mul (.s 125) (.c (.int .u64 4294967296)),
   .mv 127 (.s 14),
   .bi 128 .add (.s 126) (.s 127),
   .mv 129 (.s 18),
   .mv 130 (.s 2),
   .bi 131 .mul (.s 129) (.s 130),
   .bi 132 .sub (.s 128) (.s 131),
   .mv 133 (.s 8),
   .bi 134 .shr (.s 132) (.s 133),
   .mv 6 (.s 124),
   .mv 7 (.s 134)])
  .rt))))))))))))))))))))
def a93 : AF := ⟨c93, [.t 6, .t 7], 3, 135⟩
theorem m93 : mF Try.prog gl drD Try.f93 a93 = true := by kernel_rfl
theorem s93 {l : List AV} {r : AV} (hl : l.length = 3) (hi : idsL l = []) (h : wpA (SpH Try.prog gl) c93 (postA [.t 6, .t 7] r) ⟨initE 0 l, [], []⟩) : Sp Try.prog gl 93 l r :=
  @fun_sp Try.prog gl drD 93 Try.f93 a93 Try.func93 m93 (dok _) l r hl hi h
theorem h93 {d : Nat} {I : In} {O : Out} (hl : I.vs.length = 3) (h : wpA (SpH Try.prog gl) c93 (postH d [.t 6, .t 7] O) (inSt I)) : SpH Try.prog gl 93 d I O :=
  @fun_spH Try.prog gl drD 93 Try.f93 a93 Try.func93 m93 (dok _) d I O hl h
/-- firebell/exact.Less -/
def c94 : AC :=
 (.sq (.rg [.bx 2 (.s 0),
   .bx 3 (.s 1),
   .al 4 [(.int .u64 0), (.int .u64 0)],
   .mv 5 (.c (.int .i64 0))])
  (.sq (.rg [.fa 11 (.s 2) 1,
   .lds 12 (.s 11),
   .fa 13 (.s 3) 1,
   .lds 14 (.s 13),
   .cl 15 104 [(.s 12), (.s 14), (.c (.int .u64 0))],
   .mv 10 (.s 15),
   .exq 16 (.s 10) 0,
   .exq 17 (.s 10) 1,
   .mv 6 (.s 16),
   .mv 7 (.s 17)])
  (.sq (.rg [.fa 19 (.s 2) 0,
   .lds 20 (.s 19),
   .fa 21 (.s 3) 0,
   .lds 22 (.s 21),
   .mv 23 (.s 7),
   .cl 24 104 [(.s 20), (.s 22), (.s 23)],
   .mv 18 (.s 24),
   .exq 25 (.s 18) 0,
   .exq 26 (.s 18) 1,
   .mv 8 (.s 25),
   .mv 9 (.s 26)])
  (.sq (.sq (.rg [.mv 27 (.s 9),
   .bi 28 .neq (.s 27) (.c (.int .u64 0))])
  (.cd (.s 28) (.sq (.rg [.bd 29 [(.int .u64 0), (.int .u64 0)] [],
   .st 2 (.s 4) (.s 29),
   .mv 5 (.c (.int .i64 3))])
  .rt) .sk))
  (.sq (.rg [.mv 30 (.s 8),
   .mv 31 (.s 6),
   .bd 32 [(.int .u64 0), (.int .u64 0)] [(0, 1, (.s 30)), (1, 1, (.s 31))],
   .st 2 (.s 4) (.s 32),
   .mv 5 (.c (.int .i64 0))])
  .rt)))))
def a94 : AF := ⟨c94, [.ca 4 2, .t 5], 2, 33⟩
theorem m94 : mF Try.prog gl drD Try.f94 a94 = true := by kernel_rfl
theorem s94 {l : List AV} {r : AV} (hl : l.length = 2) (hi : idsL l = []) (h : wpA (SpH Try.prog gl) c94 (postA [.ca 4 2, .t 5] r) ⟨initE 0 l, [], []⟩) : Sp Try.prog gl 94 l r :=
  @fun_sp Try.prog gl drD 94 Try.f94 a94 Try.func94 m94 (dok _) l r hl hi h
theorem h94 {d : Nat} {I : In} {O : Out} (hl : I.vs.length = 2) (h : wpA (SpH Try.prog gl) c94 (postH d [.ca 4 2, .t 5] O) (inSt I)) : SpH Try.prog gl 94 d I O :=
  @fun_spH Try.prog gl drD 94 Try.f94 a94 Try.func94 m94 (dok _) d I O hl h
/-- firebell/firebellref01.Minus -/
def c95 : AC :=
 (.sq (.rg [.mv 4 (.c .nils)])
  (.sq (.rg [.bs 9 1 [],
   .mo 5 9])
  (.sq (.rg [.mv 6 (.c (.int .i64 0))])
  (.sq (.sq (.rg [.mv 7 (.c (.int .i64 0))])
  (.bl 0 (.lp (.sq (.sq (.rg [.mv 10 (.s 7),
   .mv 11 (.s 0),
   .ln 12 (.s 11),
   .bi 13 .lss (.s 10) (.s 12)])
  (.cd (.s 13) .sk (.ex 0)))
  (.sq (.bl 1 (.sq (.rg [.mv 16 (.s 0),
   .mv 17 (.s 7),
   .cl 18 76 [(.s 16), (.s 17)],
   .mv 19 (.s 1),
   .mv 20 (.s 7),
   .cl 21 76 [(.s 19), (.s 20)],
   .bi 22 .sub (.s 18) (.s 21),
   .mv 23 (.s 6),
   .bi 24 .sub (.s 22) (.s 23),
   .mv 8 (.s 24)])
  (.sq (.rg [.mv 6 (.c (.int .i64 0))])
  (.sq (.sq (.rg [.mv 25 (.s 8),
   .bi 26 .lss (.s 25) (.c (.int .i64 0))])
  (.cd (.s 26) (.sq (.rg [.mv 27 (.s 8),
   .bi 28 .add (.s 27) (.c (.int .i64 2)),
   .mv 8 (.s 28)])
  (.rg [.mv 6 (.c (.int .i64 1))])) .sk))
  (.rg [.mo 29 5,
   .mv 30 (.s 8),
   .bi 31 .eql (.s 30) (.c (.int .i64 1)),
   .bs 32 1 [(.s 31)],
   .ap 33 1 1 (.s 29) (.s 32),
   .mo 5 33])))))
  (.rg [.mv 14 (.s 7),
   .bi 15 .add (.s 14) (.c (.int .i64 1)),
   .mv 7 (.s 15)]))))))
  (.sq (.rg [.mv 34 (.s 5),
   .mv 4 (.s 34)])
  .rt)))))
def a95 : AF := ⟨c95, [.t 4], 2, 35⟩
theorem m95 : mF Try.prog gl drD Try.f95 a95 = true := by kernel_rfl
theorem s95 {l : List AV} {r : AV} (hl : l.length = 2) (hi : idsL l = []) (h : wpA (SpH Try.prog gl) c95 (postA [.t 4] r) ⟨initE 0 l, [], []⟩) : Sp Try.prog gl 95 l r :=
  @fun_sp Try.prog gl drD 95 Try.f95 a95 Try.func95 m95 (dok _) l r hl hi h
theorem h95 {d : Nat} {I : In} {O : Out} (hl : I.vs.length = 2) (h : wpA (SpH Try.prog gl) c95 (postH d [.t 4] O) (inSt I)) : SpH Try.prog gl 95 d I O :=
  @fun_spH Try.prog gl drD 95 Try.f95 a95 Try.func95 m95 (dok _) d I O hl h
/-- firebell/firebellref02.pad -/
def c96 : AC :=
 (.sq (.rg [.mv 4 (.c .nils)])
  (.sq (.rg [.bs 6 1 [],
   .mv 7 (.s 0),
   .ap 8 1 1 (.s 6) (.s 7),
   .mo 5 8])
  (.sq (.bl 0 (.lp (.sq (.sq (.rg [.mv 9 (.s 5),
   .ln 10 (.s 9),
   .mv 11 (.s 1),
   .bi 12 .lss (.s 10) (.s 11)])
  (.cd (.s 12) .sk (.ex 0)))
  (.bl 1 (.rg [.mo 13 5,
   .bs 14 1 [(.c (.bool false))],
   .ap 15 1 1 (.s 13) (.s 14),
   .mo 5 15])))))
  (.sq (.rg [.mv 16 (.s 5),
   .mv 4 (.s 16)])
  .rt))))
def a96 : AF := ⟨c96, [.t 4], 2, 17⟩
theorem m96 : mF Try.prog gl drD Try.f96 a96 = true := by kernel_rfl
theorem s96 {l : List AV} {r : AV} (hl : l.length = 2) (hi : idsL l = []) (h : wpA (SpH Try.prog gl) c96 (postA [.t 4] r) ⟨initE 0 l, [], []⟩) : Sp Try.prog gl 96 l r :=
  @fun_sp Try.prog gl drD 96 Try.f96 a96 Try.func96 m96 (dok _) l r hl hi h
theorem h96 {d : Nat} {I : In} {O : Out} (hl : I.vs.length = 2) (h : wpA (SpH Try.prog gl) c96 (postH d [.t 4] O) (inSt I)) : SpH Try.prog gl 96 d I O :=
  @fun_spH Try.prog gl drD 96 Try.f96 a96 Try.func96 m96 (dok _) d I O hl h
/-- firebell/signed.Right -/
def c97 : AC :=
 (.sq (.rg [.bx 1 (.s 0),
   .mv 2 (.c (.bool false))])
  (.sq (.rg [.fa 3 (.s 1) 0,
   .lds 4 (.s 3),
   .un 5 .not (.s 4),
   .mv 6 (.s 5),
   .gd 6 false 7 (.fa 7 (.s 1) 1),
   .gd 6 false 8 (.lda 8 2 (.s 7)),
   .gd 6 false 9 (.bd 9 [(.int .u64 0), (.int .u64 0)] []),
   .gd 6 false 10 (.ea 10 true [.i, .i] (.s 8) (.s 9)),
   .pk 11 (.s 6) (.c (.bool true)) (.s 10),
   .mv 2 (.s 11)])
  .rt))
def a97 : AF := ⟨c97, [.t 2], 1, 12⟩
theorem m97 : mF Try.prog gl drD Try.f97 a97 = true := by kernel_rfl
theorem s97 {l : List AV} {r : AV} (hl : l.length = 1) (hi : idsL l = []) (h : wpA (SpH Try.prog gl) c97 (postA [.t 2] r) ⟨initE 0 l, [], []⟩) : Sp Try.prog gl 97 l r :=
  @fun_sp Try.prog gl drD 97 Try.f97 a97 Try.func97 m97 (dok _) l r hl hi h
theorem h97 {d : Nat} {I : In} {O : Out} (hl : I.vs.length = 1) (h : wpA (SpH Try.prog gl) c97 (postH d [.t 2] O) (inSt I)) : SpH Try.prog gl 97 d I O :=
  @fun_spH Try.prog gl drD 97 Try.f97 a97 Try.func97 m97 (dok _) d I O hl h
/-- firebell/exact.digits -/
def c99 : AC :=
 (.sq (.rg [.mv 2 (.c (.bool false))])
  (.sq (.sq (.rg [.mv 5 (.s 0),
   .rs 6 (.s 5)])
  (.bl 0 (.lp (.sq (.rg [.nx 7 (.s 6),
   .exq 8 (.s 7) 0])
  (.sq (.cd (.s 8) .sk (.ex 0))
  (.bl 1 (.sq (.rg [.exq 9 (.s 7) 1,
   .exq 10 (.s 7) 2,
   .mv 3 (.s 9),
   .mv 4 (.s 10)])
  (.sq (.rg [.mv 11 (.s 4),
   .bi 12 .lss (.s 11) (.c (.int .i32 48)),
   .mv 13 (.s 12),
   .gd 13 false 14 (.mv 14 (.s 4)),
   .gd 13 false 15 (.bi 15 .gtr (.s 14) (.c (.int .i32 57))),
   .pk 16 (.s 13) (.c (.bool true)) (.s 15),
   .mv 17 (.s 16),
   .gd 17 false 18 (.mv 18 (.s 3)),
   .gd 17 false 19 (.bi 19 .eql (.s 18) (.c (.int .i64 0))),
   .gd 17 false 20 (.mv 20 (.s 19)),
   .gd 20 true 21 (.mv 21 (.s 4)),
   .gd 20 true 22 (.bi 22 .eql (.s 21) (.c (.int .i32 48))),
   .gd 17 false 23 (.pk 23 (.s 20) (.s 22) (.c (.bool false))),
   .gd 17 false 24 (.mv 24 (.s 23)),
   .gd 24 true 25 (.mv 25 (.s 0)),
   .gd 24 true 26 (.lns 26 (.s 25)),
   .gd 24 true 27 (.bi 27 .gtr (.s 26) (.c (.int .i64 1))),
   .gd 17 false 28 (.pk 28 (.s 24) (.s 27) (.c (.bool false))),
   .pk 29 (.s 17) (.c (.bool true)) (.s 28)])
  (.cd (.s 29) (.sq (.rg [.mv 2 (.c (.bool false))])
  .rt) .sk)))))))))
  (.sq (.rg [.mv 30 (.s 0),
   .bi 31 .neq (.s 30) (.c (.str [])),
   .mv 2 (.s 31)])
  .rt)))
def a99 : AF := ⟨c99, [.t 2], 1, 32⟩
theorem m99 : mF Try.prog gl drD Try.f99 a99 = true := by kernel_rfl
theorem s99 {l : List AV} {r : AV} (hl : l.length = 1) (hi : idsL l = []) (h : wpA (SpH Try.prog gl) c99 (postA [.t 2] r) ⟨initE 0 l, [], []⟩) : Sp Try.prog gl 99 l r :=
  @fun_sp Try.prog gl drD 99 Try.f99 a99 Try.func99 m99 (dok _) l r hl hi h
theorem h99 {d : Nat} {I : In} {O : Out} (hl : I.vs.length = 1) (h : wpA (SpH Try.prog gl) c99 (postH d [.t 2] O) (inSt I)) : SpH Try.prog gl 99 d I O :=
  @fun_spH Try.prog gl drD 99 Try.f99 a99 Try.func99 m99 (dok _) d I O hl h
/-- firebell/text.Letter -/
def c100 : AC :=
 (.sq (.rg [.mv 2 (.c (.bool false))])
  (.sq (.bl 0 (.sq (.rg [.mv 4 (.s 0),
   .bi 5 .geq (.s 4) (.c (.int .i32 97)),
   .mv 6 (.s 5),
   .gd 6 true 7 (.mv 7 (.s 0)),
   .gd 6 true 8 (.bi 8 .leq (.s 7) (.c (.int .i32 122))),
   .pk 9 (.s 6) (.s 8) (.c (.bool false)),
   .mv 10 (.s 9),
   .gd 10 false 11 (.mv 11 (.s 0)),
   .gd 10 false 12 (.bi 12 .geq (.s 11) (.c (.int .i32 65))),
   .gd 10 false 13 (.mv 13 (.s 12)),
   .gd 13 true 14 (.mv 14 (.s 0)),
   .gd 13 true 15 (.bi 15 .leq (.s 14) (.c (.int .i32 90))),
   .gd 10 false 16 (.pk 16 (.s 13) (.s 15) (.c (.bool false))),
   .pk 17 (.s 10) (.c (.bool true)) (.s 16),
   .mv 3 (.s 17)])
  (.cd (.s 3) (.sq (.rg [.mv 2 (.c (.bool true))])
  .rt) (.sq (.rg [.mv 19 (.s 0),
   .bi 20 .eql (.s 19) (.c (.int .i32 215)),
   .mv 21 (.s 20),
   .gd 21 false 22 (.mv 22 (.s 0)),
   .gd 21 false 23 (.bi 23 .eql (.s 22) (.c (.int .i32 247))),
   .pk 24 (.s 21) (.c (.bool true)) (.s 23),
   .mv 18 (.s 24)])
  (.cd (.s 18) (.sq (.rg [.mv 2 (.c (.bool false))])
  .rt) (.sq (.rg [.mv 26 (.s 0),
   .bi 27 .geq (.s 26) (.c (.int .i32 192)),
   .mv 28 (.s 27),
   .gd 28 true 29 (.mv 29 (.s 0)),
   .gd 28 true 30 (.bi 30 .leq (.s 29) (.c (.int .i32 591))),
   .pk 31 (.s 28) (.s 30) (.c (.bool false)),
   .mv 25 (.s 31)])
  (.cd (.s 25) (.sq (.rg [.mv 2 (.c (.bool true))])
  .rt) .sk)))))))
  (.sq (.rg [.mv 32 (.s 0),
   .bi 33 .geq (.s 32) (.c (.int .i32 880)),
   .mv 34 (.s 33),
   .gd 34 true 35 (.mv 35 (.s 0)),
   .gd 34 true 36 (.bi 36 .leq (.s 35) (.c (.int .i32 1279))),
   .pk 37 (.s 34) (.s 36) (.c (.bool false)),
   .mv 2 (.s 37)])
  .rt)))
def a100 : AF := ⟨c100, [.t 2], 1, 38⟩
theorem m100 : mF Try.prog gl drD Try.f100 a100 = true := by kernel_rfl
theorem s100 {l : List AV} {r : AV} (hl : l.length = 1) (hi : idsL l = []) (h : wpA (SpH Try.prog gl) c100 (postA [.t 2] r) ⟨initE 0 l, [], []⟩) : Sp Try.prog gl 100 l r :=
  @fun_sp Try.prog gl drD 100 Try.f100 a100 Try.func100 m100 (dok _) l r hl hi h
theorem h100 {d : Nat} {I : In} {O : Out} (hl : I.vs.length = 1) (h : wpA (SpH Try.prog gl) c100 (postH d [.t 2] O) (inSt I)) : SpH Try.prog gl 100 d I O :=
  @fun_spH Try.prog gl drD 100 Try.f100 a100 Try.func100 m100 (dok _) d I O hl h
/-- firebell/text.digit -/
def c101 : AC :=
 (.sq (.rg [.mv 2 (.c (.bool false))])
  (.sq (.rg [.mv 3 (.s 0),
   .bi 4 .geq (.s 3) (.c (.int .i32 48)),
   .mv 5 (.s 4),
   .gd 5 true 6 (.mv 6 (.s 0)),
   .gd 5 true 7 (.bi 7 .leq (.s 6) (.c (.int .i32 57))),
   .pk 8 (.s 5) (.s 7) (.c (.bool false)),
   .mv 2 (.s 8)])
  .rt))
def a101 : AF := ⟨c101, [.t 2], 1, 9⟩
theorem m101 : mF Try.prog gl drD Try.f101 a101 = true := by kernel_rfl
theorem s101 {l : List AV} {r : AV} (hl : l.length = 1) (hi : idsL l = []) (h : wpA (SpH Try.prog gl) c101 (postA [.t 2] r) ⟨initE 0 l, [], []⟩) : Sp Try.prog gl 101 l r :=
  @fun_sp Try.prog gl drD 101 Try.f101 a101 Try.func101 m101 (dok _) l r hl hi h
theorem h101 {d : Nat} {I : In} {O : Out} (hl : I.vs.length = 1) (h : wpA (SpH Try.prog gl) c101 (postH d [.t 2] O) (inSt I)) : SpH Try.prog gl 101 d I O :=
  @fun_spH Try.prog gl drD 101 Try.f101 a101 Try.func101 m101 (dok _) d I O hl h
/-- cmp.isNaN[uint64] -/
def c102 : AC :=
 (.sq (.rg [.mv 2 (.c (.bool false))])
  (.sq (.rg [.mv 3 (.s 0),
   .mv 4 (.s 0),
   .bi 5 .neq (.s 3) (.s 4),
   .mv 2 (.s 5)])
  .rt))
def a102 : AF := ⟨c102, [.t 2], 1, 6⟩
theorem m102 : mF Try.prog gl drD Try.f102 a102 = true := by kernel_rfl
theorem s102 {l : List AV} {r : AV} (hl : l.length = 1) (hi : idsL l = []) (h : wpA (SpH Try.prog gl) c102 (postA [.t 2] r) ⟨initE 0 l, [], []⟩) : Sp Try.prog gl 102 l r :=
  @fun_sp Try.prog gl drD 102 Try.f102 a102 Try.func102 m102 (dok _) l r hl hi h
theorem h102 {d : Nat} {I : In} {O : Out} (hl : I.vs.length = 1) (h : wpA (SpH Try.prog gl) c102 (postH d [.t 2] O) (inSt I)) : SpH Try.prog gl 102 d I O :=
  @fun_spH Try.prog gl drD 102 Try.f102 a102 Try.func102 m102 (dok _) d I O hl h
/-- math/bits.LeadingZeros64 -/
def c103 : AC :=
 (.sq (.rg [.mv 2 (.c (.int .i64 0))])
  (.sq (.rg [.mv 3 (.s 0),
   .cl 4 105 [(.s 3)],
   .bi 5 .sub (.c (.int .i64 64)) (.s 4),
   .mv 2 (.s 5)])
  .rt))
def a103 : AF := ⟨c103, [.t 2], 1, 6⟩
theorem m103 : mF Try.prog gl drD Try.f103 a103 = true := by kernel_rfl
theorem s103 {l : List AV} {r : AV} (hl : l.length = 1) (hi : idsL l = []) (h : wpA (SpH Try.prog gl) c103 (postA [.t 2] r) ⟨initE 0 l, [], []⟩) : Sp Try.prog gl 103 l r :=
  @fun_sp Try.prog gl drD 103 Try.f103 a103 Try.func103 m103 (dok _) l r hl hi h
theorem h103 {d : Nat} {I : In} {O : Out} (hl : I.vs.length = 1) (h : wpA (SpH Try.prog gl) c103 (postH d [.t 2] O) (inSt I)) : SpH Try.prog gl 103 d I O :=
  @fun_spH Try.prog gl drD 103 Try.f103 a103 Try.func103 m103 (dok _) d I O hl h
/-- math/bits.Len64 -/
def c105 : AC :=
 (.sq (.rg [.mv 2 (.c (.int .i64 0))])
  (.sq (.sq (.rg [.mv 3 (.s 0),
   .bi 4 .geq (.s 3) (.c (.int .u64 4294967296))])
  (.cd (.s 4) (.sq (.rg [.mv 5 (.s 0),
   .bi 6 .shr (.s 5) (.c (.int .u64 32)),
   .mv 0 (.s 6)])
  (.rg [.mv 2 (.c (.int .i64 32))])) .sk))
  (.sq (.sq (.rg [.mv 7 (.s 0),
   .bi 8 .geq (.s 7) (.c (.int .u64 65536))])
  (.cd (.s 8) (.sq (.rg [.mv 9 (.s 0),
   .bi 10 .shr (.s 9) (.c (.int .u64 16)),
   .mv 0 (.s 10)])
  (.rg [.mv 11 (.s 2),
   .bi 12 .add (.s 11) (.c (.int .i64 16)),
   .mv 2 (.s 12)])) .sk))
  (.sq (.sq (.rg [.mv 13 (.s 0),
   .bi 14 .geq (.s 13) (.c (.int .u64 256))])
  (.cd (.s 14) (.sq (.rg [.mv 15 (.s 0),
   .bi 16 .shr (.s 15) (.c (.int .u64 8)),
   .mv 0 (.s 16)])
  (.rg [.mv 17 (.s 2),
   .bi 18 .add (.s 17) (.c (.int .i64 8)),
   .mv 2 (.s 18)])) .sk))
  (.sq (.rg [.mv 19 (.s 2),
   .mv 20 (.s 0),
   .cv 21 .u8 (.s 20),
   .ixs 22 (.c (.str [0, 1, 2, 2, 3, 3, 3, 3, 4, 4, 4, 4, 4, 4, 4, 4, 5, 5, 5, 5, 5, 5, 5, 5, 5, 5, 5, 5, 5, 5, 5, 5, 6, 6, 6, 6, 6, 6, 6, 6, 6, 6, 6, 6, 6, 6, 6, 6, 6, 6, 6, 6, 6, 6, 6, 6, 6, 6, 6, 6, 6, 6, 6, 6, 7, 7, 7, 7, 7, 7, 7, 7, 7, 7, 7, 7, 7, 7, 7, 7, 7, 7, 7, 7, 7, 7, 7, 7, 7, 7, 7, 7, 7, 7, 7, 7, 7, 7, 7, 7, 7, 7, 7, 7, 7, 7, 7, 7, 7, 7, 7, 7, 7, 7, 7, 7, 7, 7, 7, 7, 7, 7, 7, 7, 7, 7, 7, 7, 8, 8, 8, 8, 8, 8, 8, 8, 8, 8, 8, 8, 8, 8, 8, 8, 8, 8, 8, 8, 8, 8, 8, 8, 8, 8, 8, 8, 8, 8, 8, 8, 8, 8, 8, 8, 8, 8, 8, 8, 8, 8, 8, 8, 8, 8, 8, 8, 8, 8, 8, 8, 8, 8, 8, 8, 8, 8, 8, 8, 8, 8, 8, 8, 8, 8, 8, 8, 8, 8, 8, 8, 8, 8, 8, 8, 8, 8, 8, 8, 8, 8, 8, 8, 8, 8, 8, 8, 8, 8, 8, 8, 8, 8, 8, 8, 8, 8, 8, 8, 8, 8, 8, 8, 8, 8, 8, 8, 8, 8, 8, 8, 8, 8, 8, 8, 8, 8, 8, 8, 8, 8, 8, 8, 8, 8, 8, 8])) (.s 21),
   .cv 23 .i64 (.s 22),
   .bi 24 .add (.s 19) (.s 23),
   .mv 2 (.s 24)])
  .rt)))))
def a105 : AF := ⟨c105, [.t 2], 1, 25⟩
theorem m105 : mF Try.prog gl drD Try.f105 a105 = true := by kernel_rfl
theorem s105 {l : List AV} {r : AV} (hl : l.length = 1) (hi : idsL l = []) (h : wpA (SpH Try.prog gl) c105 (postA [.t 2] r) ⟨initE 0 l, [], []⟩) : Sp Try.prog gl 105 l r :=
  @fun_sp Try.prog gl drD 105 Try.f105 a105 Try.func105 m105 (dok _) l r hl hi h
theorem h105 {d : Nat} {I : In} {O : Out} (hl : I.vs.length = 1) (h : wpA (SpH Try.prog gl) c105 (postH d [.t 2] O) (inSt I)) : SpH Try.prog gl 105 d I O :=
  @fun_spH Try.prog gl drD 105 Try.f105 a105 Try.func105 m105 (dok _) d I O hl h
end Go.Ai
