/-
  A part of the proof: packed by a program.
-/
import Derived.Test.YtbinfgmdamlkbaaGreatDoorQE4
import Derived.ProofKit
import Derived.OpenShut
import Derived.Test.YtbinfgmdamlkbaaGreatDoorCards
import Derived.Test.YtbinfgmdamlkbaaGreatDoorTie
import Derived.Deep.DeepHandedRow
import Derived.Lib.LaidTab
import Derived.SizedLaws
set_option maxRecDepth 100000
set_option maxHeartbeats 4000000
set_option linter.unusedVariables false
set_option linter.unusedSimpArgs false
namespace Go.Proofs.YtbinfgmdamlkbaaGreatDoor
open Go.RowKit
instance (n : Nat) : OfNat X n := ⟨.t n⟩
@[reducible] def b0 (d : Nat) (o : BO) : BI := ⟨some d, none, .none, o⟩
@[reducible] def i0 (n : Int) : X := .c (.lit (.int .i64 n))
def K.cl8 : BC := .seq (.ops [b0 2 (.mv (.c (.lit (.bool false))))]) .ret
def K.cu3 : BC := .cond 13 K.cl8 .skip
def K.ch0 : BC := .seq (.ops [b0 11 (.mv 4),⟨some 12, none, (.at 11), .ls 11⟩,b0 13 (.ib .gtr 12 (i0 8))]) K.cu3
def K.ck6 : BC := .ops [b0 14 (.ib .add 7 (i0 1)),b0 7 (.mv 14)]
def K.cr0 : BC := .seq (.block 1 (.seq (.ops [b0 9 (.ia 1 5 7),⟨some 10, none, (.at 9), .ld1 9⟩,b0 4 (.mv 10)]) K.ch0)) K.ck6
def K.cm4 : BC := .seq (.cond 8 .skip (.exit 0)) K.cr0
def K.cv6 : BC := .seq (.ops [b0 8 (.ib .lss 7 6)]) K.cm4
def K.cm6 : BC := .seq (.ops [b0 15 (.mv 0),⟨some 16, none, (.at 15), .ll 15⟩,b0 17 (.ib .leq 16 (i0 6)),b0 2 (.mv 17)]) .ret
def K.cr6 : BC := .block 0 (.loop K.cv6)
def K.cv9 : BC := .seq (.seq (.ops [b0 5 (.mv 0),⟨some 6, none, (.at 5), .ll 5⟩,b0 7 (.mv (i0 0))]) K.cr6) K.cm6
def K.aP9 : BFn := ⟨18, [.t 2],.seq (.ops [b0 2 (.mv (.c (.lit (.bool false))))]) K.cv9⟩
def K.by6 : BC := .seq (.ops [b0 3 (.mv 0),b0 4 (.nc 3),b0 5 (.fa 0 4),⟨some 6, none, (.at 5), .ld1 5⟩,b0 7 (.cl 53 [6]),b0 8 (.bd [(.lit (.map none))] [(0, 1, 7)]),⟨some 9, none, .here, .bx 96 8⟩,b0 2 (.mv 9)]) .ret
def K.ad6 : BFn := ⟨10, [.t 2],.seq (.ops [b0 2 (.mv (.c (.lit (.pointer none))))]) K.by6⟩
def K.cl9 : BC := .seq (.ops [b0 3 (.mv 0),b0 4 (.cl 55 [3, (.c (.lit (.string (bs [10]))))]),b0 2 (.mv 4)]) .ret
def K.am2 : BFn := ⟨5, [.t 2],.seq (.ops [b0 2 (.mv (.c (.lit (.slice none 0 0))))]) K.cl9⟩
def K.ax2 : BC := .cond 30 .skip (.exit 2)
def K.aw5 : BC := .ops [b0 31 (.mv 7),b0 32 (.ib .sub 31 (i0 1)),b0 7 (.mv 32)]
def K.aw9 : BC := .seq (.block 3 (.draw [b0 33 (.mv 0),b0 34 (.mv 7),b0 35 (.mv 0),b0 36 (.mv 7),b0 37 (.ib .sub 36 (i0 1)),b0 38 (.mv 0),b0 39 (.mv 7),b0 40 (.ib .sub 39 (i0 1)),b0 41 (.ia 1 38 40),⟨some 42, none, (.at 41), .ld1 41⟩,b0 43 (.mv 0),b0 44 (.mv 7),b0 45 (.ia 1 43 44),⟨some 46, none, (.at 45), .ld1 45⟩,b0 47 (.ia 1 33 34),⟨none, none, (.at 47), .st 1 47 42⟩,b0 48 (.ia 1 35 37),⟨none, none, (.at 48), .st 1 48 46⟩] [])) K.aw5
def K.ak0 : BC := .seq (.seq (.draw [b0 16 (.mv 7),b0 17 (.mv 1),b0 18 (.ib .gtr 16 17),b0 19 (.mv 18),⟨some 20, (some (19, true)), .none, .mv 0⟩,⟨some 21, (some (19, true)), .none, .mv 7⟩,⟨some 22, (some (19, true)), .none, .ia 1 20 21⟩,⟨some 23, (some (19, true)), (.at 22), .ld1 22⟩,⟨some 24, (some (19, true)), .none, .mv 0⟩,⟨some 25, (some (19, true)), .none, .mv 7⟩,⟨some 26, (some (19, true)), .none, .ib .sub 25 (i0 1)⟩,⟨some 27, (some (19, true)), .none, .ia 1 24 26⟩,⟨some 28, (some (19, true)), (.at 27), .ld1 27⟩,⟨some 29, (some (19, true)), .none, .cl 146 [23, 28]⟩,b0 30 (.pk 19 29 (.c (.lit (.bool false))))] []) K.ax2) K.aw9
def K.ao3 : BC := .ops [b0 13 (.mv 6),b0 14 (.ib .add 13 (i0 1)),b0 6 (.mv 14)]
def K.aw6 : BC := .cond 12 .skip (.exit 0)
def K.ax5 : BC := .block 2 (.loop K.ak0)
def K.ax1 : BC := .seq (.block 1 (.seq (.ops [b0 15 (.mv 6),b0 7 (.mv 15)]) K.ax5)) K.ao3
def K.ak1 : BC := .seq (.seq (.ops [b0 10 (.mv 6),b0 11 (.mv 2),b0 12 (.ib .lss 10 11)]) K.aw6) K.ax1
def K.aw7 : BC := .block 0 (.loop K.ak1)
def K.o8 : BFn := ⟨49, [],.seq (.ops [b0 8 (.mv 1),b0 9 (.ib .add 8 (i0 1)),b0 6 (.mv 9)]) K.aw7⟩
def K.aJ3 : BC := .ops [b0 12 (.mv (i0 1))]
def K.aI5 : BC := .seq (.ops [b0 55 (.mv 2),b0 56 (.ib .sub 55 (i0 1)),b0 57 (.mv 11),b0 58 (.mv 1),b0 59 (.ib .sub 57 58),b0 60 (.ib .sub 56 59),b0 11 (.mv 60)]) K.aJ3
def K.aI6 : BC := .seq (.ops [b0 51 (.mv 0),b0 52 (.mv 1),b0 53 (.mv 2),b0 54 (.cl 144 [51, 52, 53])]) K.aI5
def K.aG4 : BC := .cond 50 K.aI6 .skip
def K.aG6 : BC := .cond 72 .ret .skip
def K.aH0 : BC := .seq (.ops [b0 69 (.mv 0),b0 70 (.mv 1),b0 71 (.mv 2),b0 72 (.cl 145 [69, 70, 71])]) K.aG6
def K.aG3 : BC := .cond 68 K.aH0 .skip
def K.aI7 : BC := .seq (.ops [b0 93 (.mv 13),b0 1 (.mv 93)]) (.exit 1)
def K.aG9 : BC := .seq (.ops [b0 88 (.mv 0),b0 89 (.mv 1),b0 90 (.mv 2),b0 91 (.mv 11),b0 92 (.cl 147 [88, 89, 90, 91]),b0 13 (.mv 92)]) K.aI7
def K.aI2 : BC := .cond 87 K.aG9 .skip
def K.aE5 : BC := .ops [b0 122 (.mv 14),b0 123 (.ib .add 122 (i0 1)),b0 1 (.mv 123)]
def K.aD9 : BC := .seq (.ops [b0 117 (.mv 0),b0 118 (.mv 1),b0 119 (.mv 14),b0 120 (.mv 3),b0 121 (.cl 98 [117, 118, 119, 120])]) K.aE5
def K.aD8 : BC := .seq (.ops [b0 114 (.mv 16),b0 115 (.mv 18),b0 116 (.ib .geq 114 115),b0 8 (.mv 116)]) K.aD9
def K.aC5 : BC := .ops [b0 133 (.mv 14),b0 2 (.mv 133)]
def K.aF1 : BC := .seq (.ops [b0 127 (.mv 0),b0 128 (.mv 14),b0 129 (.ib .add 128 (i0 1)),b0 130 (.mv 2),b0 131 (.mv 3),b0 132 (.cl 98 [127, 129, 130, 131])]) K.aC5
def K.aC3 : BC := .seq (.ops [b0 124 (.mv 17),b0 125 (.mv 18),b0 126 (.ib .geq 124 125),b0 8 (.mv 126)]) K.aF1
def K.aC6 : BC := .cond 113 K.aD8 K.aC3
def K.aD4 : BC := .seq (.ops [b0 111 (.mv 16),b0 112 (.mv 17),b0 113 (.ib .lss 111 112)]) K.aC6
def K.aE0 : BC := .seq (.ops [b0 109 (.mv 10),b0 110 (.ib .quo 109 (i0 8)),b0 18 (.mv 110)]) K.aD4
def K.aF0 : BC := .seq (.ops [b0 103 (.mv 14),b0 104 (.mv 1),b0 105 (.ib .sub 103 104),b0 106 (.mv 2),b0 107 (.mv 14),b0 108 (.ib .sub 106 107),b0 16 (.mv 105),b0 17 (.mv 108)]) K.aE0
def K.aC9 : BC := .seq (.ops [b0 102 (.mv 15),b0 9 (.mv 102)]) K.aF0
def K.aE7 : BC := .seq (.ops [b0 95 (.mv 0),b0 96 (.mv 1),b0 97 (.mv 2),b0 98 (.mv 11),b0 99 (.cl 148 [95, 96, 97, 98]),b0 94 (.mv 99),b0 100 (.ex 94 0),b0 101 (.ex 94 1),b0 14 (.mv 100),b0 15 (.mv 101)]) K.aC9
def K.aC7 : BC := .seq (.seq (.draw [b0 73 (.mv 1),b0 74 (.ib .gtr 73 (i0 0)),b0 75 (.mv 74),⟨some 76, (some (75, true)), .none, .mv 0⟩,⟨some 77, (some (75, true)), .none, .mv 1⟩,⟨some 78, (some (75, true)), .none, .ib .sub 77 (i0 1)⟩,⟨some 79, (some (75, true)), .none, .ia 1 76 78⟩,⟨some 80, (some (75, true)), (.at 79), .ld1 79⟩,⟨some 81, (some (75, true)), .none, .mv 0⟩,⟨some 82, (some (75, true)), .none, .mv 11⟩,⟨some 83, (some (75, true)), .none, .ia 1 81 82⟩,⟨some 84, (some (75, true)), (.at 83), .ld1 83⟩,⟨some 85, (some (75, true)), .none, .cl 146 [80, 84]⟩,⟨some 86, (some (75, true)), .none, .nt 85⟩,b0 87 (.pk 75 86 (.c (.lit (.bool false))))] []) K.aI2) K.aE7
def K.aC1 : BC := .seq (.seq (.ops [b0 61 (.mv 8),b0 62 (.mv 61),⟨some 63, (some (62, true)), .none, .mv 9⟩,b0 64 (.pk 62 63 (.c (.lit (.bool false)))),b0 65 (.mv 64),⟨some 66, (some (65, true)), .none, .mv 12⟩,⟨some 67, (some (65, true)), .none, .ib .eql 66 (i0 1)⟩,b0 68 (.pk 65 67 (.c (.lit (.bool false))))]) K.aG3) K.aC7
def K.aF7 : BC := .seq (.seq (.ops [b0 49 (.mv 12),b0 50 (.ib .eql 49 (i0 2))]) K.aG4) K.aC1
def K.aq8 : BC := .seq (.ops [b0 43 (.mv 0),b0 44 (.mv 1),b0 45 (.mv 2),b0 46 (.cl 143 [43, 44, 45]),b0 42 (.mv 46),b0 47 (.ex 42 0),b0 48 (.ex 42 1),b0 11 (.mv 47),b0 12 (.mv 48)]) K.aF7
def K.aD2 : BC := .seq (.ops [b0 24 (.mv 0),b0 25 (.mv 1),b0 26 (.mv 2),b0 27 (.cl 140 [24, 25, 26])]) .ret
def K.aD1 : BC := .cond 23 K.aD2 .skip
def K.aF6 : BC := .seq (.ops [b0 30 (.mv 0),b0 31 (.mv 1),b0 32 (.mv 2),b0 33 (.cl 141 [30, 31, 32])]) .ret
def K.aE1 : BC := .cond 29 K.aF6 .skip
def K.aD0 : BC := .ops [b0 40 (.mv 3),b0 41 (.ib .sub 40 (i0 1)),b0 3 (.mv 41)]
def K.aD6 : BC := .seq (.ops [b0 36 (.mv 0),b0 37 (.mv 1),b0 38 (.mv 2),b0 39 (.cl 142 [36, 37, 38])]) K.aD0
def K.aF2 : BC := .cond 35 K.aD6 .skip
def K.aE8 : BC := .seq (.seq (.ops [b0 34 (.mv 8),b0 35 (.nt 34)]) K.aF2) K.aq8
def K.aE3 : BC := .seq (.seq (.ops [b0 28 (.mv 3),b0 29 (.ib .eql 28 (i0 0))]) K.aE1) K.aE8
def K.aE2 : BC := .seq (.seq (.ops [b0 22 (.mv 10),b0 23 (.ib .leq 22 (i0 12))]) K.aD1) K.aE3
def K.am0 : BC := .block 1 (.seq (.ops [b0 19 (.mv 2),b0 20 (.mv 1),b0 21 (.ib .sub 19 20),b0 10 (.mv 21)]) K.aE2)
def K.aC4 : BC := .block 0 (.loop K.am0)
def K.aF5 : BC := .seq (.ops [b0 9 (.mv (.c (.lit (.bool true))))]) K.aC4
def K.o9 : BFn := ⟨134, [],.seq (.ops [b0 8 (.mv (.c (.lit (.bool true))))]) K.aF5⟩
def K.bJ5 : BC := .ops [b0 11 (.mv 2),b0 12 (.ib .add 11 (i0 16)),b0 2 (.mv 12)]
def K.bI9 : BC := .seq (.ops [b0 9 (.mv 0),b0 10 (.ib .shr 9 (.c (.lit (.int .u64 16)))),b0 0 (.mv 10)]) K.bJ5
def K.bG2 : BC := .cond 8 K.bI9 .skip
def K.bJ3 : BC := .ops [b0 17 (.mv 2),b0 18 (.ib .add 17 (i0 8)),b0 2 (.mv 18)]
def K.bJ8 : BC := .seq (.ops [b0 15 (.mv 0),b0 16 (.ib .shr 15 (.c (.lit (.int .u64 8)))),b0 0 (.mv 16)]) K.bJ3
def K.bD9 : BC := .cond 14 K.bJ8 .skip
def K.bE7 : BC := .seq (.ops [b0 19 (.mv 2),b0 20 (.mv 0),⟨some 21, none, (.at 20), .cvi .u8 20⟩,b0 22 (.xs (.c (.lit (.string (bs [0, 1, 2, 2, 3, 3, 3, 3, 4, 4, 4, 4, 4, 4, 4, 4, 5, 5, 5, 5, 5, 5, 5, 5, 5, 5, 5, 5, 5, 5, 5, 5, 6, 6, 6, 6, 6, 6, 6, 6, 6, 6, 6, 6, 6, 6, 6, 6, 6, 6, 6, 6, 6, 6, 6, 6, 6, 6, 6, 6, 6, 6, 6, 6, 7, 7, 7, 7, 7, 7, 7, 7, 7, 7, 7, 7, 7, 7, 7, 7, 7, 7, 7, 7, 7, 7, 7, 7, 7, 7, 7, 7, 7, 7, 7, 7, 7, 7, 7, 7, 7, 7, 7, 7, 7, 7, 7, 7, 7, 7, 7, 7, 7, 7, 7, 7, 7, 7, 7, 7, 7, 7, 7, 7, 7, 7, 7, 7, 8, 8, 8, 8, 8, 8, 8, 8, 8, 8, 8, 8, 8, 8, 8, 8, 8, 8, 8, 8, 8, 8, 8, 8, 8, 8, 8, 8, 8, 8, 8, 8, 8, 8, 8, 8, 8, 8, 8, 8, 8, 8, 8, 8, 8, 8, 8, 8, 8, 8, 8, 8, 8, 8, 8, 8, 8, 8, 8, 8, 8, 8, 8, 8, 8, 8, 8, 8, 8, 8, 8, 8, 8, 8, 8, 8, 8, 8, 8, 8, 8, 8, 8, 8, 8, 8, 8, 8, 8, 8, 8, 8, 8, 8, 8, 8, 8, 8, 8, 8, 8, 8, 8, 8, 8, 8, 8, 8, 8, 8, 8, 8, 8, 8, 8, 8, 8, 8, 8, 8, 8, 8, 8, 8, 8, 8, 8, 8])))) 21),⟨some 23, none, (.at 22), .cvi .i64 22⟩,b0 24 (.ib .add 19 23),b0 2 (.mv 24)]) .ret
def K.aR2 : BC := .seq (.seq (.ops [b0 13 (.mv 0),b0 14 (.ib .geq 13 (.c (.lit (.int .u64 256))))]) K.bD9) K.bE7
def K.aR9 : BC := .seq (.seq (.ops [b0 7 (.mv 0),b0 8 (.ib .geq 7 (.c (.lit (.int .u64 65536))))]) K.bG2) K.aR2
def K.bG1 : BC := .ops [b0 2 (.mv (i0 32))]
def K.bv7 : BC := .seq (.ops [b0 5 (.mv 0),b0 6 (.ib .shr 5 (.c (.lit (.int .u64 32)))),b0 0 (.mv 6)]) K.bG1
def K.bC5 : BC := .cond 4 K.bv7 .skip
def K.bC3 : BC := .seq (.seq (.ops [b0 3 (.mv 0),b0 4 (.ib .geq 3 (.c (.lit (.int .u64 4294967296))))]) K.bC5) K.aR9
def K.ae0 : BFn := ⟨25, [.t 2],.seq (.ops [b0 2 (.mv (i0 0))]) K.bC3⟩
def K.bQ5 : BC := .seq (.ops [b0 3 (.mv 0),⟨some 4, none, (.at 3), .cvi .u32 3⟩,b0 5 (.cl 149 [4]),b0 2 (.mv 5)]) .ret
def K.bQ1 : BC := .seq (.ops [b0 6 (.mv 0),b0 7 (.cl 150 [6]),b0 2 (.mv 7)]) .ret
def K.bQ2 : BC := .seq (.cond (.c (.lit (.bool false))) K.bQ5 .skip) K.bQ1
def K.af9 : BFn := ⟨8, [.t 2],.seq (.ops [b0 2 (.mv (i0 0))]) K.bQ2⟩
def K.aM9 : BC := .ops [b0 5 (.mv 0),b0 6 (.mv 2),b0 7 (.mv 2),⟨some 8, none, (.at 7), .cvi .u64 7⟩,b0 9 (.cl 99 [8]),b0 10 (.cl 98 [5, (i0 0), 6, 9])]
def K.aa5 : BFn := ⟨11, [],.seq (.ops [b0 3 (.mv 0),⟨some 4, none, (.at 3), .ll 3⟩,b0 2 (.mv 4)]) K.aM9⟩
def K.aH4 : BC := .cond 32 .skip (.exit 2)
def K.aJ1 : BC := .ops [b0 52 (.mv 3),b0 53 (.ib .add 52 (i0 1)),b0 3 (.mv 53)]
def K.aH5 : BC := .seq (.ops [b0 45 (.mv 0),b0 46 (.mv 3),b0 47 (.mv 4),b0 48 (.mv 5),b0 49 (.ia 1 47 48),⟨some 50, none, (.at 49), .ld1 49⟩,b0 51 (.ia 1 45 46),⟨none, none, (.at 51), .st 1 51 50⟩]) K.aJ1
def K.aI0 : BC := .cond 44 K.aH5 .skip
def K.aH3 : BC := .ops [b0 33 (.mv 5),b0 34 (.ib .add 33 (i0 1)),b0 5 (.mv 34)]
def K.aH9 : BC := .seq (.block 3 (.seq (.draw [b0 35 (.mv 4),b0 36 (.mv 5),b0 37 (.ia 1 35 36),⟨some 38, none, (.at 37), .ld1 37⟩,b0 39 (.mv 4),b0 40 (.mv 5),b0 41 (.ib .sub 40 (i0 1)),b0 42 (.ia 1 39 41),⟨some 43, none, (.at 42), .ld1 42⟩,b0 44 (.sb .neq 38 43)] []) K.aI0)) K.aH3
def K.am3 : BC := .seq (.seq (.ops [b0 29 (.mv 5),b0 30 (.mv 4),⟨some 31, none, (.at 30), .ll 30⟩,b0 32 (.ib .lss 29 31)]) K.aH4) K.aH9
def K.as2 : BC := .ops [b0 14 (.mv 3),b0 15 (.ib .add 14 (i0 1)),b0 3 (.mv 15)]
def K.aI1 : BC := .seq (.ops [b0 57 (.mv 0),b0 58 (.mv 3),b0 59 (.sll 1 57 none (some 58) none),b0 2 (.mv 59)]) .ret
def K.ar7 : BC := .seq (.ops [b0 54 (.mv 0),b0 55 (.mv 3),b0 56 (.sll 1 54 (some 55) none none),⟨none, none, .none, .gen (.call ⟨(.builtin .clear), #[(.tmp 56)], #[22]⟩) 0⟩]) K.aI1
def K.aD7 : BC := .cond 13 .skip (.exit 0)
def K.aE4 : BC := .block 2 (.loop K.am3)
def K.aD5 : BC := .seq (.seq (.ops [b0 5 (.mv (i0 1))]) K.aE4) K.ar7
def K.aC2 : BC := .seq (.ops [b0 26 (.mv 0),b0 27 (.mv 3),b0 28 (.sll 1 26 (some 27) none none),b0 4 (.mv 28)]) K.aD5
def K.aF3 : BC := .cond 25 K.aC2 .skip
def K.aE9 : BC := .seq (.block 1 (.seq (.draw [b0 16 (.mv 0),b0 17 (.mv 3),b0 18 (.ia 1 16 17),⟨some 19, none, (.at 18), .ld1 18⟩,b0 20 (.mv 0),b0 21 (.mv 3),b0 22 (.ib .sub 21 (i0 1)),b0 23 (.ia 1 20 22),⟨some 24, none, (.at 23), .ld1 23⟩,b0 25 (.sb .eql 19 24)] []) K.aF3)) K.as2
def K.al9 : BC := .seq (.seq (.ops [b0 10 (.mv 3),b0 11 (.mv 0),⟨some 12, none, (.at 11), .ll 11⟩,b0 13 (.ib .lss 10 12)]) K.aD7) K.aE9
def K.aq7 : BC := .seq (.ops [b0 60 (.mv 0),b0 2 (.mv 60)]) .ret
def K.aC8 : BC := .seq (.ops [b0 9 (.mv 0),b0 2 (.mv 9)]) .ret
def K.aD3 : BC := .cond 8 K.aC8 .skip
def K.aE6 : BC := .block 0 (.loop K.al9)
def K.aF4 : BC := .seq (.seq (.ops [b0 3 (.mv (i0 1))]) K.aE6) K.aq7
def K.aF8 : BC := .seq (.seq (.ops [b0 6 (.mv 0),⟨some 7, none, (.at 6), .ll 6⟩,b0 8 (.ib .lss 7 (i0 2))]) K.aD3) K.aF4
def K.x9 : BFn := ⟨61, [.t 2],.seq (.ops [b0 2 (.mv (.c (.lit (.slice none 0 0))))]) K.aF8⟩
def K.bz2 : BC := .ops [b0 22 (.mv 3),b0 23 (.fa 11 6),⟨some 24, none, (.at 23), .ld1 23⟩,⟨some 25, none, .here, .bsl 9 1 [24]⟩,⟨some 26, none, (.app 22 25), .ap 9 1 16 22 25⟩,b0 3 (.mv 26)]
def K.bC8 : BC := .ops [b0 32 (.mv 3),b0 33 (.fa 12 6),b0 34 (.fa 6 33),⟨some 35, none, (.at 34), .ld1 34⟩,⟨some 36, none, .here, .bsl 9 1 [35]⟩,⟨some 37, none, (.app 32 36), .ap 9 1 16 32 36⟩,b0 3 (.mv 37)]
def K.bC7 : BC := .cond 27 K.bC8 .skip
def K.by9 : BC := .seq (.ops [b0 28 (.fa 12 6),b0 29 (.fa 6 28),⟨some 30, none, (.at 29), .ld1 29⟩,b0 31 (.sb .neq 30 (.c (.lit (.string (bs []))))),b0 27 (.mv 31)]) K.bC7
def K.bw6 : BC := .cond 18 K.bz2 K.by9
def K.bx9 : BC := .block 2 (.seq (.ops [b0 19 (.fa 10 6),⟨some 20, none, (.at 19), .ld1 19⟩,b0 21 (.ib .eql 20 (.c (.lit (.int .u8 119)))),b0 18 (.mv 21)]) K.bw6)
def K.bz6 : BC := .seq (.ops [b0 16 (.fa 0 5),⟨some 17, none, (.at 16), .ldn 20 16⟩,⟨some 6, none, .here, .al 134 [(.lit (.int .i64 0)), (.lit (.int .i64 0)), (.lit (.int .i64 0)), (.lit (.string (bs []))), (.lit .nilIface), (.lit (.int .i64 0)), (.lit (.int .i64 0)), (.lit (.string (bs []))), (.lit .nilIface), (.lit (.bool false)), (.lit (.int .u8 0)), (.lit (.string (bs []))), (.lit (.string (bs []))), (.lit .nilIface), (.lit (.slice none 0 0)), (.lit (.int .i64 0)), (.lit (.bool false)), (.lit (.bool false)), (.lit (.string (bs []))), (.lit (.string (bs [])))]⟩,⟨none, none, (.at 6), .st 20 6 17⟩]) K.bx9
def K.bB7 : BC := .ops [b0 38 (.ib .add 12 (i0 1)),b0 12 (.mv 38)]
def K.by0 : BC := .seq (.block 1 (.seq (.ops [b0 14 (.ia 26 10 12),⟨some 15, none, (.at 14), .ldn 26 14⟩,⟨some 5, none, .here, .al 136 [(.lit (.int .i64 0)), (.lit (.int .i64 0)), (.lit (.int .i64 0)), (.lit (.string (bs []))), (.lit .nilIface), (.lit (.int .i64 0)), (.lit (.int .i64 0)), (.lit (.string (bs []))), (.lit .nilIface), (.lit (.bool false)), (.lit (.int .u8 0)), (.lit (.string (bs []))), (.lit (.string (bs []))), (.lit .nilIface), (.lit (.slice none 0 0)), (.lit (.int .i64 0)), (.lit (.bool false)), (.lit (.bool false)), (.lit (.string (bs []))), (.lit (.string (bs []))), (.lit (.int .i64 0)), (.lit (.int .i64 0)), (.lit (.int .i64 0)), (.lit (.int .i64 0)), (.lit (.int .i64 0)), (.lit (.int .i64 0))]⟩,⟨none, none, (.at 5), .st 26 5 15⟩]) K.bz6)) K.bB7
def K.bA9 : BC := .seq (.cond 13 .skip (.exit 0)) K.by0
def K.ax0 : BC := .seq (.ops [b0 13 (.ib .lss 12 11)]) K.bA9
def K.bq6 : BC := .seq (.ops [b0 41 (.mv 3),b0 42 (.cl 57 [41]),b0 2 (.mv 42)]) .ret
def K.aL7 : BC := .seq (.ops [b0 39 (.mv 3),b0 40 (.cl 56 [39])]) K.bq6
def K.br1 : BC := .block 0 (.loop K.ax0)
def K.bq1 : BC := .seq (.seq (.ops [b0 7 (.mv 0),b0 8 (.nc 7),b0 9 (.fa 1 8),⟨some 10, none, (.at 9), .ld1 9⟩,⟨some 11, none, (.at 10), .ll 10⟩,b0 12 (.mv (i0 0))]) K.br1) K.aL7
def K.bu7 : BC := .seq (.ops [b0 3 (.mv (.c (.lit (.slice none 0 0))))]) K.bq1
def K.aa9 : BFn := ⟨43, [.t 2],.seq (.ops [b0 2 (.mv (.c (.lit (.slice none 0 0))))]) K.bu7⟩
def K.bu1 : BC := .seq (.draw [b0 3 (.mv 0),b0 4 (.nc 3),b0 5 (.fa 6 4),b0 6 (.fa 4 5),⟨some 7, none, (.at 6), .ld1 6⟩,b0 8 (.mv 0),b0 9 (.nc 8),b0 10 (.fa 2 9),⟨some 11, none, (.at 10), .ld1 10⟩,⟨some 12, none, (.at 11), .ll 11⟩,b0 13 (.ib .eql 7 12),b0 2 (.mv 13)] []) .ret
def K.ad3 : BFn := ⟨14, [.t 2],.seq (.ops [b0 2 (.mv (.c (.lit (.bool false))))]) K.bu1⟩
def K.br6 : BC := .seq (.ops [b0 2 (.mv (.c (.lit (.string (bs []))))),b0 3 (.mv (.c (.lit (.bool false))))]) .ret
def K.bp8 : BC := .seq (.ops [b0 6 (.mv 0),b0 7 (.nc 6),b0 8 (.fa 6 7),b0 9 (.fa 7 8),⟨none, none, (.at 9), .st 1 9 (.c (.lit (.bool true)))⟩]) K.br6
def K.bq0 : BC := .cond 5 K.bp8 .skip
def K.br5 : BC := .seq (.draw [b0 19 (.mv 0),b0 20 (.nc 19),b0 21 (.fa 2 20),⟨some 22, none, (.at 21), .ld1 21⟩,b0 23 (.mv 0),b0 24 (.nc 23),b0 25 (.fa 6 24),b0 26 (.fa 4 25),⟨some 27, none, (.at 26), .ld1 26⟩,b0 28 (.ib .sub 27 (i0 1)),b0 29 (.ia 1 22 28),⟨some 30, none, (.at 29), .ld1 29⟩,b0 2 (.mv 30),b0 3 (.mv (.c (.lit (.bool true))))] []) .ret
def K.bt2 : BC := .seq (.ops [b0 10 (.mv 0),b0 11 (.nc 10),b0 12 (.fa 6 11),b0 13 (.fa 4 12),⟨some 14, none, (.at 13), .ld1 13⟩,b0 15 (.ib .add 14 (i0 1)),b0 16 (.nc 10),b0 17 (.fa 6 16),b0 18 (.fa 4 17),⟨none, none, (.at 18), .st 1 18 15⟩]) K.br5
def K.bp9 : BC := .seq (.seq (.ops [b0 4 (.mv 0),b0 5 (.cl 100 [4])]) K.bq0) K.bt2
def K.ab8 : BFn := ⟨31, [.t 2, .t 3],.seq (.ops [b0 2 (.mv (.c (.lit (.string (bs []))))),b0 3 (.mv (.c (.lit (.bool false))))]) K.bp9⟩
def K.bn0 : BC := .ops [b0 10 (.mv 0),b0 11 (.mv 0),b0 12 (.mv 0),b0 13 (.mv 2),b0 14 (.nc 10),b0 15 (.fa 6 14),b0 16 (.fa 1 15),⟨none, none, (.at 16), .st 1 16 13⟩,b0 17 (.nc 11),b0 18 (.fa 6 17),b0 19 (.fa 3 18),⟨none, none, (.at 19), .st 1 19 (.c (.lit (.bool false)))⟩,b0 20 (.nc 12),b0 21 (.fa 6 20),b0 22 (.fa 0 21),⟨none, none, (.at 22), .st 1 22 (i0 0)⟩]
def K.bl7 : BC := .cond 9 K.bn0 .skip
def K.bj3 : BC := .seq (.ops [b0 9 (.mv 3)]) K.bl7
def K.aa7 : BFn := ⟨23, [],.seq (.ops [b0 5 (.mv 0),b0 6 (.cl 58 [5]),b0 4 (.mv 6),b0 7 (.ex 4 0),b0 8 (.ex 4 1),b0 2 (.mv 7),b0 3 (.mv 8)]) K.bj3⟩
def K.cy8 : BC := .draw [b0 28 (.mv 7),b0 29 (.mv 7),b0 30 (.nc 29),b0 31 (.fa 1 30),⟨some 32, none, (.at 31), .ld1 31⟩,⟨some 33, none, (.at 9), .ldn 4 9⟩,b0 34 (.cl 21 [33]),⟨some 35, none, .here, .bsl 88 1 [34]⟩,⟨some 36, none, (.app 32 35), .ap 88 1 8 32 35⟩,b0 37 (.nc 28),b0 38 (.fa 1 37),⟨none, none, (.at 38), .st 1 38 36⟩] [(4, 6), (4, 7)]
def K.cA7 : BC := .ops [b0 39 (.ib .add 24 (i0 1)),b0 24 (.mv 39)]
def K.cA0 : BC := .seq (.block 1 (.seq (.ops [b0 26 (.ia 4 22 24),⟨some 27, none, (.at 26), .ldn 4 26⟩,⟨some 9, none, .here, .al 87 [(.lit (.slice none 0 0)), (.lit (.int .i64 0)), (.lit (.int .i64 0)), (.lit (.bool false))]⟩,⟨none, none, (.at 9), .st 4 9 27⟩]) K.cy8)) K.cA7
def K.cC5 : BC := .seq (.cond 25 .skip (.exit 0)) K.cA0
def K.by2 : BC := .seq (.ops [b0 25 (.ib .lss 24 23)]) K.cC5
def K.cx3 : BC := .draw [b0 46 (.mv 7),b0 47 (.mv 7),b0 48 (.nc 47),b0 49 (.fa 2 48),⟨some 50, none, (.at 49), .ld1 49⟩,b0 51 (.mv 11),b0 52 (.cl 22 [51]),⟨some 53, none, (.app 50 52), .ap 9 1 16 50 52⟩,b0 54 (.nc 46),b0 55 (.fa 2 54),⟨none, none, (.at 55), .st 1 55 53⟩] [(4, 6)]
def K.cC7 : BC := .ops [b0 56 (.ib .add 42 (i0 1)),b0 42 (.mv 56)]
def K.cD1 : BC := .seq (.block 3 (.seq (.ops [b0 44 (.ia 1 40 42),⟨some 45, none, (.at 44), .ld1 44⟩,b0 11 (.mv 45)]) K.cx3)) K.cC7
def K.cE1 : BC := .seq (.cond 43 .skip (.exit 2)) K.cD1
def K.bA0 : BC := .seq (.ops [b0 43 (.ib .lss 42 41)]) K.cE1
def K.ci0 : BC := .ops [b0 64 (.mv 7),b0 65 (.nc 64),b0 66 (.fa 3 65),⟨some 67, none, (.at 66), .ld1 66⟩,b0 68 (.mv 13),b0 69 (.cl 24 [67, 68])]
def K.cw0 : BC := .ops [b0 70 (.ib .add 60 (i0 1)),b0 60 (.mv 70)]
def K.cf7 : BC := .seq (.block 5 (.seq (.ops [b0 62 (.ia 1 58 60),⟨some 63, none, (.at 62), .ld1 62⟩,b0 13 (.mv 63)]) K.ci0)) K.cw0
def K.cj5 : BC := .seq (.cond 61 .skip (.exit 4)) K.cf7
def K.bl0 : BC := .seq (.ops [b0 61 (.ib .lss 60 59)]) K.cj5
def K.cg5 : BC := .seq (.ops [b0 82 (.mv 7),b0 6 (.mv 82)]) .ret
def K.cq7 : BC := .seq (.ops [b0 80 (.mv 7),b0 81 (.cl 25 [80])]) K.cg5
def K.bP5 : BC := .seq (.ops [b0 71 (.mv 7),b0 72 (.mv 0),b0 73 (.nc 72),b0 74 (.fa 3 73),⟨some 75, none, (.at 74), .ld1 74⟩,⟨some 76, none, .here, .gen (.makeSlice 38 (.tmp 75) (.tmp 75)) 38⟩,b0 77 (.nc 71),b0 78 (.fa 6 77),b0 79 (.fa 5 78),⟨none, none, (.at 79), .st 1 79 76⟩]) K.cq7
def K.ct9 : BC := .block 4 (.loop K.bl0)
def K.bO2 : BC := .seq (.seq (.ops [b0 57 (.mv 0),b0 58 (.cl 23 [57]),⟨some 59, none, (.at 58), .ll 58⟩,b0 60 (.mv (i0 0))]) K.ct9) K.bP5
def K.cf9 : BC := .block 2 (.loop K.bA0)
def K.bO3 : BC := .seq (.seq (.ops [b0 40 (.mv 1),⟨some 41, none, (.at 40), .ll 40⟩,b0 42 (.mv (i0 0))]) K.cf9) K.bO2
def K.co5 : BC := .block 0 (.loop K.by2)
def K.ck4 : BC := .seq (.seq (.ops [b0 19 (.mv 0),b0 20 (.nc 19),b0 21 (.fa 2 20),⟨some 22, none, (.at 21), .ld1 21⟩,⟨some 23, none, (.at 22), .ll 22⟩,b0 24 (.mv (i0 0))]) K.co5) K.bO3
def K.cj8 : BC := .seq (.ops [b0 14 (.mv 0),b0 15 (.mv 2),b0 16 (.cl 20 [15]),b0 17 (.bd [(.lit (.pointer none)), (.lit (.slice none 0 0)), (.lit (.slice none 0 0)), (.lit (.pointer none)), (.lit (.pointer none)), (.lit (.slice none 0 0)), (.lit (.int .i64 0)), (.lit (.string (bs []))), (.lit (.string (bs []))), (.lit (.bool false)), (.lit (.int .i64 0)), (.lit (.slice none 0 0)), (.lit (.slice none 0 0)), (.lit (.bool false))] [(0, 1, 14), (3, 1, 16)]),⟨some 18, none, .here, .bx 80 17⟩,b0 7 (.mv 18)]) K.ck4
def K.ac6 : BFn := ⟨83, [.t 6],.seq (.ops [b0 6 (.mv (.c (.lit (.pointer none))))]) K.cj8⟩
def K.cq8 : BC := .ops [b0 28 (.mv 3),b0 29 (.fa 0 5),⟨some 30, none, (.at 29), .ld1 29⟩,b0 31 (.mv 7),b0 32 (.cl 26 [28, 30, 31])]
def K.cl4 : BC := .ops [b0 33 (.ib .add 24 (i0 1)),b0 24 (.mv 33)]
def K.cl1 : BC := .seq (.block 3 (.seq (.ops [b0 26 (.ia 1 22 24),⟨some 27, none, (.at 26), .ld1 26⟩,b0 7 (.mv 27)]) K.cq8)) K.cl4
def K.cg6 : BC := .seq (.cond 25 .skip (.exit 2)) K.cl1
def K.ct8 : BC := .seq (.ops [b0 25 (.ib .lss 24 23)]) K.cg6
def K.cf8 : BC := .block 2 (.loop K.ct8)
def K.cm8 : BC := .seq (.ops [b0 21 (.fa 1 5),⟨some 22, none, (.at 21), .ld1 21⟩,⟨some 23, none, (.at 22), .ll 22⟩,b0 24 (.mv (i0 0))]) K.cf8
def K.ch9 : BC := .seq (.ops [b0 17 (.mv 3),b0 18 (.fa 0 5),⟨some 19, none, (.at 18), .ld1 18⟩,b0 20 (.cl 24 [17, 19])]) K.cm8
def K.co9 : BC := .ops [b0 34 (.ib .add 13 (i0 1)),b0 13 (.mv 34)]
def K.cv3 : BC := .seq (.block 1 (.seq (.ops [b0 15 (.ia 2 11 13),⟨some 16, none, (.at 15), .ldn 2 15⟩,⟨some 5, none, .here, .al 98 [(.lit (.string (bs []))), (.lit (.slice none 0 0))]⟩,⟨none, none, (.at 5), .st 2 5 16⟩]) K.ch9)) K.co9
def K.b59 : BC := .seq (.cond 14 .skip (.exit 0)) K.cv3
def K.aY4 : BC := .seq (.ops [b0 14 (.ib .lss 13 12)]) K.b59
def K.bJ2 : BC := .seq (.ops [b0 35 (.mv 3),b0 2 (.mv 35)]) .ret
def K.ce0 : BC := .block 0 (.loop K.aY4)
def K.b90 : BC := .seq (.seq (.ops [b0 11 (.mv 0),⟨some 12, none, (.at 11), .ll 11⟩,b0 13 (.mv (i0 0))]) K.ce0) K.bJ2
def K.ca6 : BC := .seq (.ops [⟨some 8, none, .here, .gen (.makeMap 94 none) 94⟩,b0 9 (.bd [(.lit (.map none))] [(0, 1, 8)]),⟨some 10, none, .here, .bx 96 9⟩,b0 3 (.mv 10)]) K.b90
def K.af5 : BFn := ⟨36, [.t 2],.seq (.ops [b0 2 (.mv (.c (.lit (.pointer none))))]) K.ca6⟩
def K.cl0 : BC := .ops [b0 22 (.mv 5),b0 23 (.ib .add 22 (i0 1)),b0 4 (.mv 23)]
def K.cs6 : BC := .seq (.ops [b0 15 (.mv 3),b0 16 (.mv 0),b0 17 (.mv 4),b0 18 (.mv 5),b0 19 (.sls 16 (some 17) (some 18)),⟨some 20, none, .here, .bsl 9 1 [19]⟩,⟨some 21, none, (.app 15 20), .ap 9 1 16 15 20⟩,b0 3 (.mv 21)]) K.cl0
def K.ct2 : BC := .cond 14 K.cs6 .skip
def K.cr9 : BC := .seq (.ops [b0 11 (.mv 0),b0 12 (.mv 5),b0 13 (.xs 11 12),b0 14 (.ib .eql 13 (.c (.lit (.int .u8 10))))]) K.ct2
def K.cm3 : BC := .ops [b0 24 (.ib .add 8 (i0 1)),b0 8 (.mv 24)]
def K.cq1 : BC := .seq (.block 1 (.seq (.ops [b0 10 (.mv 8),b0 5 (.mv 10)]) K.cr9)) K.cm3
def K.cj9 : BC := .seq (.cond 9 .skip (.exit 0)) K.cq1
def K.cj4 : BC := .seq (.ops [b0 9 (.ib .lss 8 7)]) K.cj9
def K.ce5 : BC := .seq (.ops [b0 25 (.mv 3),b0 26 (.mv 0),b0 27 (.mv 4),b0 28 (.sls 26 (some 27) none),⟨some 29, none, .here, .bsl 9 1 [28]⟩,⟨some 30, none, (.app 25 29), .ap 9 1 16 25 29⟩,b0 2 (.mv 30)]) .ret
def K.cr5 : BC := .block 0 (.loop K.cj4)
def K.ce1 : BC := .seq (.seq (.ops [b0 6 (.mv 0),⟨some 7, none, (.at 6), .ls 6⟩,b0 8 (.mv (i0 0))]) K.cr5) K.ce5
def K.b56 : BC := .seq (.ops [b0 4 (.mv (i0 0))]) K.ce1
def K.b94 : BC := .seq (.ops [b0 3 (.mv (.c (.lit (.slice none 0 0))))]) K.b56
def K.aL3 : BFn := ⟨31, [.t 2],.seq (.ops [b0 2 (.mv (.c (.lit (.slice none 0 0))))]) K.b94⟩
def K.cq4 : BC := .ops [b0 21 (.mv 5),b0 22 (.mv 0),b0 23 (.mv 4),b0 24 (.ia 2 22 23),b0 25 (.fa 1 24),⟨some 26, none, (.at 25), .ld1 25⟩,b0 27 (.mv 6),b0 28 (.ia 1 26 27),⟨some 29, none, (.at 28), .ld1 28⟩,b0 30 (.cl 28 [29]),⟨some 31, none, (.app 21 30), .ap 9 1 16 21 30⟩,b0 5 (.mv 31)]
def K.cg0 : BC := .ops [b0 32 (.ib .add 18 (i0 1)),b0 18 (.mv 32)]
def K.cn9 : BC := .seq (.block 3 (.seq (.ops [b0 20 (.mv 18),b0 6 (.mv 20)]) K.cq4)) K.cg0
def K.cf0 : BC := .seq (.cond 19 .skip (.exit 2)) K.cn9
def K.cm5 : BC := .seq (.ops [b0 19 (.ib .lss 18 17)]) K.cf0
def K.cn4 : BC := .ops [b0 41 (.ib .add 9 (i0 1)),b0 9 (.mv 41)]
def K.ci5 : BC := .ops [b0 33 (.mv 3),b0 34 (.mv 0),b0 35 (.mv 4),b0 36 (.ia 2 34 35),b0 37 (.fa 0 36),⟨some 38, none, (.at 37), .ld1 37⟩,b0 39 (.mv 5),b0 40 (.cl 29 [33, 38, 39]),b0 3 (.mv 40)]
def K.cf2 : BC := .block 2 (.loop K.cm5)
def K.cr4 : BC := .seq (.seq (.ops [b0 12 (.mv 0),b0 13 (.mv 4),b0 14 (.ia 2 12 13),b0 15 (.fa 1 14),⟨some 16, none, (.at 15), .ld1 15⟩,⟨some 17, none, (.at 16), .ll 16⟩,b0 18 (.mv (i0 0))]) K.cf2) K.ci5
def K.cn5 : BC := .seq (.ops [b0 5 (.mv (.c (.lit (.slice none 0 0))))]) K.cr4
def K.b64 : BC := .seq (.block 1 (.seq (.ops [b0 11 (.mv 9),b0 4 (.mv 11)]) K.cn5)) K.cn4
def K.b96 : BC := .seq (.cond 10 .skip (.exit 0)) K.b64
def K.b66 : BC := .seq (.ops [b0 10 (.ib .lss 9 8)]) K.b96
def K.b77 : BC := .seq (.ops [b0 42 (.mv 3),b0 2 (.mv 42)]) .ret
def K.b75 : BC := .block 0 (.loop K.b66)
def K.b58 : BC := .seq (.seq (.ops [b0 7 (.mv 0),⟨some 8, none, (.at 7), .ll 7⟩,b0 9 (.mv (i0 0))]) K.b75) K.b77
def K.b52 : BC := .seq (.ops [b0 3 (.mv (.c (.lit (.slice none 0 0))))]) K.b58
def K.aP4 : BFn := ⟨43, [.t 2],.seq (.ops [b0 2 (.mv (.c (.lit (.slice none 0 0))))]) K.b52⟩
def K.bZ0 : BC := .seq (.ops [⟨some 12, none, (.at 1), .ldn 16 1⟩,⟨none, none, (.at 2), .st 16 2 12⟩]) .ret
def K.bZ4 : BC := .seq (.ops [b0 10 (.fa 8 1),b0 11 (.fa 7 10),⟨none, none, (.at 11), .st 1 11 (.c (.lit (.bool true)))⟩]) K.bZ0
def K.bZ7 : BC := .cond 9 K.bZ4 .skip
def K.bY4 : BC := .seq (.ops [⟨some 32, none, (.at 1), .ldn 16 1⟩,⟨none, none, (.at 2), .st 16 2 32⟩]) .ret
def K.bY0 : BC := .seq (.ops [b0 30 (.fa 8 1),b0 31 (.fa 0 30),⟨none, none, (.at 31), .st 1 31 (i0 0)⟩]) K.bY4
def K.bZ6 : BC := .seq (.ops [b0 28 (.fa 8 1),b0 29 (.fa 3 28),⟨none, none, (.at 29), .st 1 29 (.c (.lit (.bool false)))⟩]) K.bY0
def K.bZ8 : BC := .seq (.ops [b0 22 (.fa 8 1),b0 23 (.fa 4 22),⟨some 24, none, (.at 23), .ld1 23⟩,b0 25 (.ib .add 24 (i0 1)),b0 26 (.fa 8 1),b0 27 (.fa 4 26),⟨none, none, (.at 27), .st 1 27 25⟩]) K.bZ6
def K.bY2 : BC := .seq (.ops [b0 13 (.fa 5 1),⟨some 14, none, (.at 13), .ld1 13⟩,b0 15 (.fa 8 1),b0 16 (.fa 4 15),⟨some 17, none, (.at 16), .ld1 16⟩,b0 18 (.ia 1 14 17),⟨some 19, none, (.at 18), .ld1 18⟩,b0 20 (.fa 8 1),b0 21 (.fa 1 20),⟨none, none, (.at 21), .st 1 21 19⟩]) K.bZ8
def K.bY1 : BC := .seq (.seq (.ops [b0 3 (.fa 8 1),b0 4 (.fa 4 3),⟨some 5, none, (.at 4), .ld1 4⟩,b0 6 (.fa 5 1),⟨some 7, none, (.at 6), .ld1 6⟩,⟨some 8, none, (.at 7), .ll 7⟩,b0 9 (.ib .eql 5 8)]) K.bZ7) K.bY2
def K.az3 : BFn := ⟨33, [.cn 2 16],.seq (.ops [⟨some 1, none, .here, .bx 43 0⟩,⟨some 2, none, .here, .al 43 [(.lit (.bool false)), (.lit (.slice none 0 0)), (.lit (.slice none 0 0)), (.lit (.slice none 0 0)), (.lit (.int .i64 0)), (.lit (.slice none 0 0)), (.lit (.slice none 0 0)), (.lit (.string (bs []))), (.lit (.int .i64 0)), (.lit (.string (bs []))), (.lit (.string (bs []))), (.lit (.bool false)), (.lit (.int .i64 0)), (.lit (.slice none 0 0)), (.lit (.slice none 0 0)), (.lit (.bool false))]⟩]) K.bY1⟩
def K.cv1 : BC := .draw [b0 20 (.fa 5 7),⟨some 21, none, (.at 20), .ld1 20⟩,b0 22 (.mv 1),b0 23 (.mv 8),b0 24 (.ia 1 22 23),⟨some 25, none, (.at 24), .ld1 24⟩,b0 26 (.cl 28 [25]),⟨some 27, none, (.app 21 26), .ap 9 1 16 21 26⟩,b0 28 (.fa 5 7),⟨none, none, (.at 28), .st 1 28 27⟩] [(1, 6)]
def K.ct3 : BC := .ops [b0 29 (.ib .add 17 (i0 1)),b0 17 (.mv 29)]
def K.cr1 : BC := .seq (.block 1 (.seq (.ops [b0 19 (.mv 17),b0 8 (.mv 19)]) K.cv1)) K.ct3
def K.cj7 : BC := .seq (.cond 18 .skip (.exit 0)) K.cr1
def K.cv8 : BC := .seq (.ops [b0 18 (.ib .lss 17 16)]) K.cj7
def K.co0 : BC := .ops [b0 62 (.ib .add 33 (i0 1)),b0 33 (.mv 62)]
def K.ct4 : BC := .ops [b0 55 (.fa 6 7),⟨some 56, none, (.at 55), .ld1 55⟩,b0 57 (.fa 28 10),b0 58 (.fa 14 57),⟨some 59, none, (.at 58), .ld1 58⟩,b0 60 (.cl 29 [56, 59, (.c (.lit (.slice none 0 0)))]),b0 61 (.fa 6 7),⟨none, none, (.at 61), .st 1 61 60⟩]
def K.cu6 : BC := .cond 54 K.ct4 .skip
def K.co7 : BC := .seq (.ops [b0 51 (.fa 28 10),b0 52 (.fa 14 51),⟨some 53, none, (.at 52), .ld1 52⟩,b0 54 (.sb .neq 53 (.c (.lit (.string (bs [])))))]) K.cu6
def K.cu0 : BC := .ops [b0 45 (.fa 6 7),⟨some 46, none, (.at 45), .ld1 45⟩,b0 47 (.fa 27 10),⟨some 48, none, (.at 47), .ld1 47⟩,b0 49 (.cl 29 [46, 48, (.c (.lit (.slice none 0 0)))]),b0 50 (.fa 6 7),⟨none, none, (.at 50), .st 1 50 49⟩]
def K.cc3 : BC := .cond 44 K.cu0 .skip
def K.b92 : BC := .seq (.seq (.ops [b0 42 (.fa 26 10),⟨some 43, none, (.at 42), .ld1 42⟩,b0 44 (.ib .eql 43 (.c (.lit (.int .u8 119))))]) K.cc3) K.co7
def K.cb5 : BC := .seq (.ops [b0 36 (.fa 1 3),⟨some 37, none, (.at 36), .ld1 36⟩,b0 38 (.mv 9),b0 39 (.ia 50 37 38),b0 40 (.fa 0 39),⟨some 41, none, (.at 40), .ldn 44 40⟩,⟨some 10, none, .here, .al 114 [(.lit (.int .i64 0)), (.lit (.int .i64 0)), (.lit (.int .i64 0)), (.lit (.string (bs []))), (.lit (.int .i64 0)), (.lit (.int .u64 0)), (.lit (.int .u64 0)), (.lit (.int .u64 0)), (.lit (.int .u64 0)), (.lit (.slice none 0 0)), (.lit (.int .i64 0)), (.lit (.int .i64 0)), (.lit (.int .i64 0)), (.lit (.int .i64 0)), (.lit (.int .i64 0)), (.lit (.string (bs []))), (.lit (.int .i64 0)), (.lit (.int .u64 0)), (.lit (.int .u64 0)), (.lit (.int .u64 0)), (.lit (.int .u64 0)), (.lit (.slice none 0 0)), (.lit (.int .i64 0)), (.lit (.int .i64 0)), (.lit (.int .i64 0)), (.lit (.bool false)), (.lit (.int .u8 0)), (.lit (.string (bs []))), (.lit (.string (bs []))), (.lit (.int .i64 0)), (.lit (.int .u64 0)), (.lit (.int .u64 0)), (.lit (.int .u64 0)), (.lit (.int .u64 0)), (.lit (.slice none 0 0)), (.lit (.int .i64 0)), (.lit (.int .i64 0)), (.lit (.int .i64 0)), (.lit (.slice none 0 0)), (.lit (.int .i64 0)), (.lit (.bool false)), (.lit (.bool false)), (.lit (.string (bs []))), (.lit (.string (bs [])))]⟩,⟨none, none, (.at 10), .st 44 10 41⟩]) K.b92
def K.b84 : BC := .seq (.block 3 (.seq (.ops [b0 35 (.mv 33),b0 9 (.mv 35)]) K.cb5)) K.co0
def K.cc7 : BC := .seq (.cond 34 .skip (.exit 2)) K.b84
def K.b74 : BC := .seq (.ops [b0 34 (.ib .lss 33 32)]) K.cc7
def K.cc6 : BC := .ops [b0 74 (.ib .add 65 (i0 1)),b0 65 (.mv 74)]
def K.cc1 : BC := .seq (.block 5 (.ops [b0 67 (.fa 8 7),b0 68 (.fa 5 67),⟨some 69, none, (.at 68), .ld1 68⟩,⟨some 70, none, .here, .bsl 3 1 [(i0 0)]⟩,⟨some 71, none, (.app 69 70), .ap 3 1 8 69 70⟩,b0 72 (.fa 8 7),b0 73 (.fa 5 72),⟨none, none, (.at 73), .st 1 73 71⟩])) K.cc6
def K.b82 : BC := .seq (.cond 66 .skip (.exit 4)) K.cc1
def K.b91 : BC := .seq (.ops [b0 66 (.ib .lss 65 64)]) K.b82
def K.b65 : BC := .seq (.ops [⟨some 75, none, (.at 7), .ldn 16 7⟩,b0 76 (.cl 30 [75]),⟨none, none, (.at 6), .st 16 6 76⟩]) .ret
def K.b51 : BC := .block 4 (.loop K.b91)
def K.b61 : BC := .seq (.seq (.ops [b0 63 (.fa 4 3),⟨some 64, none, (.at 63), .ld1 63⟩,b0 65 (.mv (i0 0))]) K.b51) K.b65
def K.b81 : BC := .block 2 (.loop K.b74)
def K.cd8 : BC := .seq (.seq (.ops [b0 30 (.fa 1 3),⟨some 31, none, (.at 30), .ld1 30⟩,⟨some 32, none, (.at 31), .ll 31⟩,b0 33 (.mv (i0 0))]) K.b81) K.b61
def K.b54 : BC := .block 0 (.loop K.cv8)
def K.ce2 : BC := .seq (.seq (.ops [b0 15 (.mv 1),⟨some 16, none, (.at 15), .ll 15⟩,b0 17 (.mv (i0 0))]) K.b54) K.cd8
def K.b67 : BC := .seq (.draw [⟨some 11, none, (.at 3), .ldn 5 3⟩,b0 12 (.mv 2),b0 13 (.cl 27 [12]),b0 14 (.bd [(.lit (.bool false)), (.lit (.slice none 0 0)), (.lit (.slice none 0 0)), (.lit (.slice none 0 0)), (.lit (.int .i64 0)), (.lit (.slice none 0 0)), (.lit (.slice none 0 0)), (.lit (.string (bs []))), (.lit (.int .i64 0)), (.lit (.string (bs []))), (.lit (.string (bs []))), (.lit (.bool false)), (.lit (.int .i64 0)), (.lit (.slice none 0 0)), (.lit (.slice none 0 0)), (.lit (.bool false))] [(0, 5, 11), (6, 1, 13)]),⟨some 7, none, .here, .al 43 [(.lit (.bool false)), (.lit (.slice none 0 0)), (.lit (.slice none 0 0)), (.lit (.slice none 0 0)), (.lit (.int .i64 0)), (.lit (.slice none 0 0)), (.lit (.slice none 0 0)), (.lit (.string (bs []))), (.lit (.int .i64 0)), (.lit (.string (bs []))), (.lit (.string (bs []))), (.lit (.bool false)), (.lit (.int .i64 0)), (.lit (.slice none 0 0)), (.lit (.slice none 0 0)), (.lit (.bool false))]⟩,⟨none, none, (.at 7), .st 16 7 14⟩] [(0, 2), (0, 4), (2, 4)]) K.ce2
def K.aP8 : BFn := ⟨77, [.cn 6 16],.seq (.ops [⟨some 3, none, .here, .bx 30 0⟩,⟨some 6, none, .here, .al 43 [(.lit (.bool false)), (.lit (.slice none 0 0)), (.lit (.slice none 0 0)), (.lit (.slice none 0 0)), (.lit (.int .i64 0)), (.lit (.slice none 0 0)), (.lit (.slice none 0 0)), (.lit (.string (bs []))), (.lit (.int .i64 0)), (.lit (.string (bs []))), (.lit (.string (bs []))), (.lit (.bool false)), (.lit (.int .i64 0)), (.lit (.slice none 0 0)), (.lit (.slice none 0 0)), (.lit (.bool false))]⟩]) K.b67⟩
def K.bg6 : BC := .seq (.ops [⟨some 16, none, (.at 3), .ldn 8 3⟩,⟨none, none, (.at 2), .st 8 2 16⟩]) .ret
def K.bd6 : BC := .seq (.draw [b0 8 (.fa 5 3),⟨some 9, none, (.at 8), .ld1 8⟩,b0 10 (.cl 31 [9]),b0 11 (.fa 6 3),⟨some 12, none, (.at 11), .ld1 11⟩,b0 13 (.cl 32 [12]),b0 14 (.fa 5 3),⟨none, none, (.at 14), .st 1 14 10⟩,b0 15 (.fa 6 3),⟨none, none, (.at 15), .st 1 15 13⟩] [(2, 4)]) K.bg6
def K.bd0 : BC := .seq (.ops [b0 4 (.mv 0),b0 5 (.nc 4),b0 6 (.fa 6 5),⟨some 7, none, (.at 6), .ldn 8 6⟩,⟨some 3, none, .here, .al 47 [(.lit (.int .i64 0)), (.lit (.string (bs []))), (.lit (.string (bs []))), (.lit (.bool false)), (.lit (.int .i64 0)), (.lit (.slice none 0 0)), (.lit (.slice none 0 0)), (.lit (.bool false))]⟩,⟨none, none, (.at 3), .st 8 3 7⟩]) K.bd6
def K.ab1 : BFn := ⟨17, [.cn 2 8],.seq (.ops [⟨some 2, none, .here, .al 47 [(.lit (.int .i64 0)), (.lit (.string (bs []))), (.lit (.string (bs []))), (.lit (.bool false)), (.lit (.int .i64 0)), (.lit (.slice none 0 0)), (.lit (.slice none 0 0)), (.lit (.bool false))]⟩]) K.bd0⟩
def K.bq3 : BC := .ops [b0 9 (.mv 0),b0 10 (.nc 9),b0 11 (.fa 4 10),b0 12 (.cl 101 [11, (.c (.lit (.int .u8 10)))])]
def K.ac7 : BFn := ⟨13, [],.seq (.ops [b0 4 (.mv 0),b0 5 (.nc 4),b0 6 (.fa 4 5),b0 7 (.mv 1),b0 8 (.cl 65 [6, 7])]) K.bq3⟩
def K.bh2 : BC := .seq (.draw [b0 19 (.mv 0),b0 20 (.nc 19),b0 21 (.fa 4 20),b0 22 (.fa 1 3),⟨some 23, none, (.at 22), .ld1 22⟩,b0 24 (.cl 65 [21, 23])] []) (.exit 1)
def K.bm4 : BC := .cond 18 K.bh2 .skip
def K.bj0 : BC := .ops [b0 37 (.mv 0),b0 38 (.mv 5),b0 39 (.cl 60 [37, 38])]
def K.bh7 : BC := .ops [b0 40 (.ib .add 33 (i0 1)),b0 33 (.mv 40)]
def K.bf9 : BC := .seq (.block 3 (.seq (.ops [b0 35 (.ia 1 31 33),⟨some 36, none, (.at 35), .ld1 35⟩,b0 5 (.mv 36)]) K.bj0)) K.bh7
def K.bm3 : BC := .seq (.cond 34 .skip (.exit 2)) K.bf9
def K.bk0 : BC := .seq (.ops [b0 34 (.ib .lss 33 32)]) K.bm3
def K.bk6 : BC := .block 2 (.loop K.bk0)
def K.bi1 : BC := .seq (.draw [b0 25 (.mv 0),b0 26 (.nc 25),b0 27 (.fa 3 26),⟨some 28, none, (.at 27), .ld1 27⟩,b0 29 (.fa 1 3),⟨some 30, none, (.at 29), .ld1 29⟩,b0 31 (.cl 102 [28, 30]),⟨some 32, none, (.at 31), .ll 31⟩,b0 33 (.mv (i0 0))] []) K.bk6
def K.bl2 : BC := .seq (.seq (.ops [b0 16 (.fa 0 3),⟨some 17, none, (.at 16), .ld1 16⟩,b0 18 (.nt 17)]) K.bm4) K.bi1
def K.a06 : BC := .ops [b0 41 (.ib .add 12 (i0 1)),b0 12 (.mv 41)]
def K.aZ4 : BC := .seq (.block 1 (.seq (.ops [b0 14 (.ia 2 10 12),⟨some 15, none, (.at 14), .ldn 2 14⟩,⟨some 3, none, .here, .al 122 [(.lit (.bool false)), (.lit (.string (bs [])))]⟩,⟨none, none, (.at 3), .st 2 3 15⟩]) K.bl2)) K.a06
def K.ba9 : BC := .seq (.cond 13 .skip (.exit 0)) K.aZ4
def K.au5 : BC := .seq (.ops [b0 13 (.ib .lss 12 11)]) K.ba9
def K.aG0 : BC := .ops [b0 42 (.mv 0),b0 43 (.nc 42),b0 44 (.fa 6 43),b0 45 (.fa 6 44),⟨none, none, (.at 45), .st 1 45 (.c (.lit (.slice none 0 0)))⟩]
def K.a95 : BC := .block 0 (.loop K.au5)
def K.aa3 : BFn := ⟨46, [],.seq (.seq (.ops [b0 6 (.mv 0),b0 7 (.nc 6),b0 8 (.fa 6 7),b0 9 (.fa 6 8),⟨some 10, none, (.at 9), .ld1 9⟩,⟨some 11, none, (.at 10), .ll 10⟩,b0 12 (.mv (i0 0))]) K.a95) K.aG0⟩
def K.bv9 : BC := .ops [b0 10 (.mv 0),b0 11 (.mv 0),b0 12 (.nc 11),b0 13 (.fa 6 12),b0 14 (.fa 1 13),⟨some 15, none, (.at 14), .ld1 14⟩,b0 16 (.cl 60 [10, 15])]
def K.bx2 : BC := .cond 9 K.bv9 .skip
def K.bw0 : BC := .ops [b0 17 (.mv 0),b0 18 (.cl 61 [17])]
def K.ac4 : BFn := ⟨19, [],.seq (.seq (.ops [b0 2 (.mv 0),b0 3 (.nc 2),b0 4 (.fa 0 3),⟨some 5, none, (.at 4), .ld1 4⟩,b0 6 (.nc 5),b0 7 (.fa 0 6),⟨some 8, none, (.at 7), .ld1 7⟩,b0 9 (.nt 8)]) K.bx2) K.bw0⟩
def K.be7 : BC := .seq (.draw [b0 13 (.mv 0),⟨some 14, none, (.at 3), .ldn 26 3⟩,b0 15 (.cl 62 [13, 14]),b0 16 (.fa 8 5),⟨some 17, none, (.at 16), .ld1 16⟩,b0 18 (.bb true 15 17),b0 4 (.mv 18)] [(2, 4)]) .ret
def K.bc7 : BC := .seq (.draw [b0 24 (.mv 0),b0 25 (.fa 0 5),⟨some 26, none, (.at 25), .ldn 4 25⟩,b0 27 (.fa 20 3),⟨some 28, none, (.at 27), .ld1 27⟩,b0 29 (.cl 63 [24, 26, 28]),b0 30 (.fa 8 5),⟨some 31, none, (.at 30), .ld1 30⟩,b0 32 (.bb true 29 31),b0 4 (.mv 32)] [(5, 7)]) .ret
def K.be1 : BC := .cond 19 K.bc7 .skip
def K.bi9 : BC := .seq (.ops [b0 20 (.fa 0 5),b0 21 (.fa 0 20),⟨some 22, none, (.at 21), .ld1 21⟩,b0 23 (.ib .neq 22 (i0 0)),b0 19 (.mv 23)]) K.be1
def K.bn2 : BC := .cond 9 K.be7 K.bi9
def K.bi4 : BC := .seq (.ops [b0 33 (.fa 8 5),⟨some 34, none, (.at 33), .ld1 33⟩,b0 35 (.nt 34),b0 4 (.mv 35)]) .ret
def K.bf8 : BC := .seq (.block 0 (.seq (.ops [b0 10 (.fa 23 3),⟨some 11, none, (.at 10), .ld1 10⟩,b0 12 (.ib .geq 11 (i0 0)),b0 9 (.mv 12)]) K.bn2)) K.bi4
def K.be9 : BC := .seq (.ops [b0 6 (.fa 0 3),b0 7 (.fa 1 6),⟨some 8, none, (.at 7), .ldn 9 7⟩,⟨some 5, none, .here, .al 129 [(.lit (.int .i64 0)), (.lit (.int .i64 0)), (.lit (.string (bs []))), (.lit .nilIface), (.lit (.int .i64 0)), (.lit (.int .i64 0)), (.lit (.string (bs []))), (.lit .nilIface), (.lit (.bool false))]⟩,⟨none, none, (.at 5), .st 9 5 8⟩]) K.bf8
def K.ad2 : BFn := ⟨36, [.t 4],.seq (.ops [⟨some 3, none, .here, .bx 136 1⟩,b0 4 (.mv (.c (.lit (.bool false))))]) K.be9⟩
def K.aK3 : BC := .seq (.ops [b0 4 (.mv (.c (.lit (.bool true))))]) .ret
def K.bc8 : BC := .ops [b0 163 (.mv 5),b0 164 (.fa 25 3),⟨some 165, none, (.at 164), .ld1 164⟩,b0 166 (.nc 163),b0 167 (.fa 0 166),⟨none, none, (.at 167), .st 1 167 165⟩]
def K.bf5 : BC := .cond 162 K.bc8 .skip
def K.bd9 : BC := .ops [b0 168 (.mv 5),b0 169 (.nc 168),b0 170 (.fa 3 169),⟨none, none, (.at 170), .st 1 170 (.c (.lit (.bool false)))⟩]
def K.bl5 : BC := .seq (.seq (.draw [b0 154 (.mv 5),b0 155 (.nc 154),b0 156 (.fa 3 155),⟨some 157, none, (.at 156), .ld1 156⟩,b0 158 (.fa 0 3),b0 159 (.fa 10 158),⟨some 160, none, (.at 159), .ld1 159⟩,b0 161 (.ib .eql 160 (.c (.lit (.int .u8 116)))),b0 162 (.bb false 157 161)] []) K.bf5) K.bd9
def K.bg7 : BC := .seq (.ops [b0 147 (.mv 5),b0 148 (.nc 147),b0 149 (.fa 0 148),⟨some 150, none, (.at 149), .ld1 149⟩,b0 151 (.ib .add 150 (i0 1)),b0 152 (.nc 147),b0 153 (.fa 0 152),⟨none, none, (.at 153), .st 1 153 151⟩]) K.bl5
def K.bm1 : BC := .seq (.ops [b0 4 (.mv (.c (.lit (.bool false))))]) .ret
def K.aL1 : BC := .cond 144 K.bg7 K.bm1
def K.bm8 : BC := .ops [b0 21 (.mv 0),b0 22 (.cl 64 [21])]
def K.bf2 : BC := .seq (.ops [b0 36 (.mv 0),b0 37 (.cl 64 [36])]) (.exit 0)
def K.a81 : BC := .cond 35 K.bf2 .skip
def K.ba4 : BC := .ops [b0 45 (.mv 0),b0 46 (.cl 61 [45])]
def K.bb8 : BC := .seq (.ops [b0 38 (.mv 5),b0 39 (.mv 5),b0 40 (.mv 7),b0 41 (.nc 38),b0 42 (.fa 1 41),⟨none, none, (.at 42), .st 1 42 40⟩,b0 43 (.nc 39),b0 44 (.fa 0 43),⟨none, none, (.at 44), .st 1 44 (i0 0)⟩]) K.ba4
def K.a09 : BC := .seq (.seq (.ops [b0 34 (.mv 8),b0 35 (.nt 34)]) K.a81) K.bb8
def K.a18 : BC := .seq (.ops [b0 26 (.mv 5),b0 27 (.nc 26),b0 28 (.fa 1 27),⟨some 29, none, (.at 28), .ld1 28⟩,b0 30 (.cl 41 [29, (.c (.lit (.string (bs [10]))))]),b0 25 (.mv 30),b0 31 (.ex 25 0),b0 32 (.ex 25 1),b0 33 (.ex 25 2),b0 6 (.mv 31),b0 7 (.mv 32),b0 8 (.mv 33)]) K.a09
def K.aZ5 : BC := .draw [b0 69 (.mv 0),b0 70 (.nc 69),b0 71 (.fa 4 70),b0 72 (.fa 0 3),b0 73 (.fa 11 72),⟨some 74, none, (.at 73), .ld1 73⟩,b0 75 (.cl 65 [71, 74])] []
def K.aZ9 : BC := .cond 68 K.aZ5 .skip
def K.ba3 : BC := .ops [b0 76 (.mv 0),b0 77 (.cl 64 [76])]
def K.a88 : BC := .seq (.seq (.draw [b0 49 (.fa 23 3),⟨some 50, none, (.at 49), .ld1 49⟩,b0 51 (.ib .lss 50 (i0 0)),b0 52 (.mv 51),⟨some 53, (some (52, false)), .none, .fa 0 3⟩,⟨some 54, (some (52, false)), .none, .fa 1 53⟩,⟨some 55, (some (52, false)), .none, .fa 8 54⟩,⟨some 56, (some (52, false)), (.at 55), .ld1 55⟩,b0 57 (.pk 52 (.c (.lit (.bool true))) 56),b0 58 (.mv 57),⟨some 59, (some (58, false)), .none, .mv 5⟩,⟨some 60, (some (58, false)), .none, .nc 59⟩,⟨some 61, (some (58, false)), .none, .fa 5 60⟩,⟨some 62, (some (58, false)), (.at 61), .ld1 61⟩,⟨some 63, (some (58, false)), .none, .fa 23 3⟩,⟨some 64, (some (58, false)), (.at 63), .ld1 63⟩,⟨some 65, (some (58, false)), .none, .ia 1 62 64⟩,⟨some 66, (some (58, false)), (.at 65), .ld1 65⟩,⟨some 67, (some (58, false)), .none, .ib .eql 66 (i0 0)⟩,b0 68 (.pk 58 (.c (.lit (.bool true))) 67)] []) K.aZ9) K.ba3
def K.a90 : BC := .ops [b0 82 (.mv 5),b0 83 (.nc 82),b0 84 (.fa 7 83),⟨none, none, (.at 84), .st 1 84 (.c (.lit (.bool true)))⟩]
def K.ba6 : BC := .seq (.ops [b0 80 (.mv 0),b0 81 (.cl 33 [80])]) K.a90
def K.a02 : BC := .ops [b0 87 (.mv 5),b0 88 (.nc 87),b0 89 (.fa 7 88),⟨none, none, (.at 89), .st 1 89 (.c (.lit (.bool true)))⟩]
def K.ba1 : BC := .ops [b0 104 (.mv 5),b0 105 (.nc 104),b0 106 (.fa 0 105),⟨some 107, none, (.at 106), .ld1 106⟩,b0 108 (.ib .add 107 (i0 1)),b0 109 (.nc 104),b0 110 (.fa 0 109),⟨none, none, (.at 110), .st 1 110 108⟩]
def K.a96 : BC := .seq (.ops [b0 100 (.mv 5),b0 101 (.mv 9),b0 102 (.nc 100),b0 103 (.fa 1 102),⟨none, none, (.at 103), .st 1 103 101⟩]) K.ba1
def K.aZ1 : BC := .cond 99 K.a96 .skip
def K.a01 : BC := .seq (.ops [b0 99 (.mv 10)]) K.aZ1
def K.bb5 : BC := .seq (.ops [b0 95 (.mv 0),b0 96 (.cl 58 [95]),b0 94 (.mv 96),b0 97 (.ex 94 0),b0 98 (.ex 94 1),b0 9 (.mv 97),b0 10 (.mv 98)]) K.a01
def K.ba2 : BC := .seq (.ops [b0 92 (.mv 0),b0 93 (.cl 33 [92])]) K.bb5
def K.bb6 : BC := .ops [b0 130 (.mv 5),b0 131 (.nc 130),b0 132 (.fa 0 131),⟨some 133, none, (.at 132), .ld1 132⟩,b0 134 (.ib .add 133 (i0 1)),b0 135 (.nc 130),b0 136 (.fa 0 135),⟨none, none, (.at 136), .st 1 136 134⟩]
def K.aY8 : BC := .seq (.ops [b0 121 (.mv 5),b0 122 (.nc 121),b0 123 (.fa 1 122),⟨some 124, none, (.at 123), .ld1 123⟩,b0 125 (.mv 11),b0 126 (.sb .add (.c (.lit (.string (bs [10])))) 125),b0 127 (.sb .add 124 126),b0 128 (.nc 121),b0 129 (.fa 1 128),⟨none, none, (.at 129), .st 1 129 127⟩]) K.bb6
def K.bb4 : BC := .cond 120 K.aY8 .skip
def K.ba5 : BC := .seq (.ops [b0 120 (.mv 12)]) K.bb4
def K.aY9 : BC := .seq (.ops [b0 116 (.mv 0),b0 117 (.cl 58 [116]),b0 115 (.mv 117),b0 118 (.ex 115 0),b0 119 (.ex 115 1),b0 11 (.mv 118),b0 12 (.mv 119)]) K.ba5
def K.a99 : BC := .seq (.ops [b0 113 (.mv 0),b0 114 (.cl 61 [113])]) K.aY9
def K.aZ6 : BC := .ops [b0 139 (.mv 5),b0 140 (.fa 25 3),⟨some 141, none, (.at 140), .ld1 140⟩,b0 142 (.nc 139),b0 143 (.fa 0 142),⟨none, none, (.at 143), .st 1 143 141⟩]
def K.ba8 : BC := .ops [b0 146 (.ib .eql 18 (.c (.lit (.int .u8 84)))),b0 144 (.mv 146)]
def K.a00 : BC := .cond 144 .skip K.ba8
def K.a94 : BC := .seq (.seq (.ops [b0 145 (.ib .eql 18 (.c (.lit (.int .u8 116)))),b0 144 (.mv 145)]) K.a00) K.aL1
def K.aZ8 : BC := .cond 137 K.aZ6 K.a94
def K.aZ3 : BC := .seq (.ops [b0 138 (.ib .eql 18 (.c (.lit (.int .u8 98)))),b0 137 (.mv 138)]) K.aZ8
def K.a05 : BC := .cond 111 K.a99 K.aZ3
def K.a19 : BC := .seq (.ops [b0 112 (.ib .eql 18 (.c (.lit (.int .u8 78)))),b0 111 (.mv 112)]) K.a05
def K.aZ0 : BC := .cond 90 K.ba2 K.a19
def K.a08 : BC := .seq (.ops [b0 91 (.ib .eql 18 (.c (.lit (.int .u8 110)))),b0 90 (.mv 91)]) K.aZ0
def K.a92 : BC := .cond 85 K.a02 K.a08
def K.aZ2 : BC := .seq (.ops [b0 86 (.ib .eql 18 (.c (.lit (.int .u8 81)))),b0 85 (.mv 86)]) K.a92
def K.aZ7 : BC := .cond 78 K.ba6 K.aZ2
def K.a03 : BC := .seq (.ops [b0 79 (.ib .eql 18 (.c (.lit (.int .u8 113)))),b0 78 (.mv 79)]) K.aZ7
def K.ba7 : BC := .cond 47 K.a88 K.a03
def K.a14 : BC := .seq (.ops [b0 48 (.ib .eql 18 (.c (.lit (.int .u8 99)))),b0 47 (.mv 48)]) K.ba7
def K.a04 : BC := .cond 23 K.a18 K.a14
def K.ba0 : BC := .seq (.ops [b0 24 (.ib .eql 18 (.c (.lit (.int .u8 68)))),b0 23 (.mv 24)]) K.a04
def K.a97 : BC := .cond 19 K.bm8 K.ba0
def K.a13 : BC := .block 0 (.seq (.ops [b0 20 (.ib .eql 18 (.c (.lit (.int .u8 100)))),b0 19 (.mv 20)]) K.a97)
def K.a07 : BC := .seq (.seq (.ops [b0 16 (.fa 0 3),b0 17 (.fa 10 16),⟨some 18, none, (.at 17), .ld1 17⟩]) K.a13) K.aK3
def K.a98 : BC := .seq (.ops [b0 13 (.mv 0),b0 14 (.nc 13),b0 15 (.fa 6 14),b0 5 (.mv 15)]) K.a07
def K.ab5 : BFn := ⟨171, [.t 4],.seq (.ops [⟨some 3, none, .here, .bx 136 1⟩,b0 4 (.mv (.c (.lit (.bool false))))]) K.a98⟩
def K.bt0 : BC := .ops [b0 13 (.mv 4),b0 14 (.mv 4),b0 15 (.nc 14),b0 16 (.fa 2 15),⟨some 17, none, (.at 16), .ld1 16⟩,b0 18 (.nc 13),b0 19 (.fa 1 18),⟨none, none, (.at 19), .st 1 19 17⟩]
def K.br4 : BC := .draw [b0 22 (.mv 4),b0 23 (.nc 22),b0 24 (.fa 1 23),⟨some 25, none, (.at 24), .ld1 24⟩,b0 26 (.mv 4),b0 27 (.nc 26),b0 28 (.fa 2 27),⟨some 29, none, (.at 28), .ld1 28⟩,b0 30 (.sb .add (.c (.lit (.string (bs [10])))) 29),b0 31 (.sb .add 25 30),b0 32 (.nc 22),b0 33 (.fa 1 32),⟨none, none, (.at 33), .st 1 33 31⟩] []
def K.bq9 : BC := .ops [b0 36 (.mv 4),b0 37 (.mv 4),b0 38 (.nc 37),b0 39 (.fa 1 38),⟨some 40, none, (.at 39), .ld1 39⟩,b0 41 (.nc 36),b0 42 (.fa 2 41),⟨none, none, (.at 42), .st 1 42 40⟩]
def K.bs5 : BC := .draw [b0 45 (.mv 4),b0 46 (.nc 45),b0 47 (.fa 2 46),⟨some 48, none, (.at 47), .ld1 47⟩,b0 49 (.mv 4),b0 50 (.nc 49),b0 51 (.fa 1 50),⟨some 52, none, (.at 51), .ld1 51⟩,b0 53 (.sb .add (.c (.lit (.string (bs [10])))) 52),b0 54 (.sb .add 48 53),b0 55 (.nc 45),b0 56 (.fa 2 55),⟨none, none, (.at 56), .st 1 56 54⟩] []
def K.bt5 : BC := .draw [b0 59 (.mv 4),b0 60 (.mv 4),b0 61 (.mv 4),b0 62 (.nc 61),b0 63 (.fa 2 62),⟨some 64, none, (.at 63), .ld1 63⟩,b0 65 (.mv 4),b0 66 (.nc 65),b0 67 (.fa 1 66),⟨some 68, none, (.at 67), .ld1 67⟩,b0 69 (.nc 59),b0 70 (.fa 1 69),⟨none, none, (.at 70), .st 1 70 64⟩,b0 71 (.nc 60),b0 72 (.fa 2 71),⟨none, none, (.at 72), .st 1 72 68⟩] []
def K.bt1 : BC := .ops [b0 75 (.mv 4),b0 76 (.nc 75),b0 77 (.fa 1 76),⟨none, none, (.at 77), .st 1 77 (.c (.lit (.string (bs []))))⟩]
def K.bt6 : BC := .draw [b0 80 (.mv 4),b0 81 (.mv 4),b0 82 (.nc 81),b0 83 (.fa 1 82),⟨some 84, none, (.at 83), .ld1 83⟩,b0 85 (.fa 0 3),b0 86 (.fa 19 85),⟨some 87, none, (.at 86), .ld1 86⟩,b0 88 (.cl 66 [84, 87]),b0 89 (.nc 80),b0 90 (.fa 1 89),⟨none, none, (.at 90), .st 1 90 88⟩] []
def K.br2 : BC := .ops [b0 93 (.mv 0),⟨some 94, none, (.at 3), .ldn 26 3⟩,b0 95 (.cl 67 [93, 94])]
def K.bt3 : BC := .cond 91 K.br2 .skip
def K.bq7 : BC := .seq (.ops [b0 92 (.ib .eql 10 (.c (.lit (.int .u8 115)))),b0 91 (.mv 92)]) K.bt3
def K.bj6 : BC := .cond 78 K.bt6 K.bq7
def K.bn6 : BC := .seq (.ops [b0 79 (.ib .eql 10 (.c (.lit (.int .u8 121)))),b0 78 (.mv 79)]) K.bj6
def K.be3 : BC := .cond 73 K.bt1 K.bn6
def K.bf4 : BC := .seq (.ops [b0 74 (.ib .eql 10 (.c (.lit (.int .u8 122)))),b0 73 (.mv 74)]) K.be3
def K.bc5 : BC := .cond 57 K.bt5 K.bf4
def K.bm5 : BC := .seq (.ops [b0 58 (.ib .eql 10 (.c (.lit (.int .u8 120)))),b0 57 (.mv 58)]) K.bc5
def K.bd4 : BC := .cond 43 K.bs5 K.bm5
def K.be8 : BC := .seq (.ops [b0 44 (.ib .eql 10 (.c (.lit (.int .u8 72)))),b0 43 (.mv 44)]) K.bd4
def K.bf6 : BC := .cond 34 K.bq9 K.be8
def K.bl9 : BC := .seq (.ops [b0 35 (.ib .eql 10 (.c (.lit (.int .u8 104)))),b0 34 (.mv 35)]) K.bf6
def K.bf7 : BC := .cond 20 K.br4 K.bl9
def K.bn3 : BC := .seq (.ops [b0 21 (.ib .eql 10 (.c (.lit (.int .u8 71)))),b0 20 (.mv 21)]) K.bf7
def K.bh6 : BC := .cond 11 K.bt0 K.bn3
def K.bn9 : BC := .block 0 (.seq (.ops [b0 12 (.ib .eql 10 (.c (.lit (.int .u8 103)))),b0 11 (.mv 12)]) K.bh6)
def K.bc6 : BC := .seq (.ops [b0 8 (.fa 0 3),b0 9 (.fa 10 8),⟨some 10, none, (.at 9), .ld1 9⟩]) K.bn9
def K.bm9 : BC := .seq (.ops [b0 5 (.mv 0),b0 6 (.nc 5),b0 7 (.fa 6 6),b0 4 (.mv 7)]) K.bc6
def K.ad9 : BFn := ⟨96, [],.seq (.ops [⟨some 3, none, .here, .bx 136 1⟩]) K.bm9⟩
def K.bs3 : BC := .ops [b0 20 (.mv 0),b0 21 (.mv 4),b0 22 (.nc 21),b0 23 (.fa 4 22),⟨some 24, none, (.at 23), .ld1 23⟩,b0 25 (.cl 68 [24]),b0 26 (.cl 60 [20, 25])]
def K.bt4 : BC := .ops [b0 29 (.mv 4),b0 30 (.mv 4),b0 31 (.nc 30),b0 32 (.fa 6 31),⟨some 33, none, (.at 32), .ld1 32⟩,b0 34 (.mv 5),b0 35 (.bd [(.lit (.bool false)), (.lit (.string (bs [])))] [(0, 1, (.c (.lit (.bool false)))), (1, 1, 34)]),⟨some 36, none, .here, .bsl 122 2 [35]⟩,⟨some 37, none, (.app 33 36), .ap 122 2 24 33 36⟩,b0 38 (.nc 29),b0 39 (.fa 6 38),⟨none, none, (.at 39), .st 1 39 37⟩]
def K.bu6 : BC := .ops [b0 42 (.mv 4),b0 43 (.mv 4),b0 44 (.nc 43),b0 45 (.fa 6 44),⟨some 46, none, (.at 45), .ld1 45⟩,b0 47 (.mv 5),b0 48 (.bd [(.lit (.bool false)), (.lit (.string (bs [])))] [(0, 1, (.c (.lit (.bool true)))), (1, 1, 47)]),⟨some 49, none, .here, .bsl 122 2 [48]⟩,⟨some 50, none, (.app 46 49), .ap 122 2 24 46 49⟩,b0 51 (.nc 42),b0 52 (.fa 6 51),⟨none, none, (.at 52), .st 1 52 50⟩]
def K.bq8 : BC := .ops [b0 55 (.mv 0),b0 56 (.nc 55),b0 57 (.fa 4 56),b0 58 (.mv 5),b0 59 (.cl 65 [57, 58])]
def K.bs0 : BC := .ops [b0 62 (.mv 0),b0 63 (.mv 4),b0 64 (.nc 63),b0 65 (.fa 1 64),⟨some 66, none, (.at 65), .ld1 65⟩,b0 67 (.cl 69 [66]),b0 68 (.sb .add 67 (.c (.lit (.string (bs [36]))))),b0 69 (.cl 60 [62, 68])]
def K.bt9 : BC := .ops [b0 72 (.mv 0),b0 73 (.mv 4),b0 74 (.nc 73),b0 75 (.fa 1 74),⟨some 76, none, (.at 75), .ld1 75⟩,b0 77 (.cl 60 [72, 76])]
def K.bs1 : BC := .ops [b0 89 (.mv 0),b0 90 (.mv 6),b0 91 (.cl 60 [89, 90])]
def K.bs7 : BC := .seq (.ops [b0 81 (.mv 4),b0 82 (.nc 81),b0 83 (.fa 1 82),⟨some 84, none, (.at 83), .ld1 83⟩,b0 85 (.cl 41 [84, (.c (.lit (.string (bs [10]))))]),b0 80 (.mv 85),b0 86 (.ex 80 0),b0 87 (.ex 80 1),b0 88 (.ex 80 2),b0 6 (.mv 86),b0 7 (.mv 87),b0 8 (.mv 88)]) K.bs1
def K.bu5 : BC := .draw [b0 94 (.mv 0),b0 95 (.nc 94),b0 96 (.fa 3 95),⟨some 97, none, (.at 96), .ld1 96⟩,b0 98 (.mv 5),b0 99 (.mv 4),b0 100 (.nc 99),b0 101 (.fa 1 100),⟨some 102, none, (.at 101), .ld1 101⟩,b0 103 (.cl 26 [97, 98, 102])] []
def K.bu2 : BC := .cond 92 K.bu5 .skip
def K.bc9 : BC := .seq (.ops [b0 93 (.ib .eql 17 (.c (.lit (.int .u8 119)))),b0 92 (.mv 93)]) K.bu2
def K.bf3 : BC := .cond 78 K.bs7 K.bc9
def K.bd7 : BC := .seq (.ops [b0 79 (.ib .eql 17 (.c (.lit (.int .u8 80)))),b0 78 (.mv 79)]) K.bf3
def K.bh3 : BC := .cond 70 K.bt9 K.bd7
def K.bn7 : BC := .seq (.ops [b0 71 (.ib .eql 17 (.c (.lit (.int .u8 112)))),b0 70 (.mv 71)]) K.bh3
def K.bj4 : BC := .cond 60 K.bs0 K.bn7
def K.bh4 : BC := .seq (.ops [b0 61 (.ib .eql 17 (.c (.lit (.int .u8 108)))),b0 60 (.mv 61)]) K.bj4
def K.bi7 : BC := .cond 53 K.bq8 K.bh4
def K.be0 : BC := .seq (.ops [b0 54 (.ib .eql 17 (.c (.lit (.int .u8 105)))),b0 53 (.mv 54)]) K.bi7
def K.be5 : BC := .cond 40 K.bu6 K.be0
def K.bh0 : BC := .seq (.ops [b0 41 (.ib .eql 17 (.c (.lit (.int .u8 114)))),b0 40 (.mv 41)]) K.be5
def K.bi6 : BC := .cond 27 K.bt4 K.bh0
def K.bn5 : BC := .seq (.ops [b0 28 (.ib .eql 17 (.c (.lit (.int .u8 97)))),b0 27 (.mv 28)]) K.bi6
def K.bl8 : BC := .cond 18 K.bs3 K.bn5
def K.bn1 : BC := .block 0 (.seq (.ops [b0 19 (.ib .eql 17 (.c (.lit (.int .u8 61)))),b0 18 (.mv 19)]) K.bl8)
def K.bl6 : BC := .seq (.ops [b0 15 (.fa 0 3),b0 16 (.fa 10 15),⟨some 17, none, (.at 16), .ld1 16⟩]) K.bn1
def K.bg2 : BC := .seq (.ops [b0 12 (.fa 0 3),b0 13 (.fa 11 12),⟨some 14, none, (.at 13), .ld1 13⟩,b0 5 (.mv 14)]) K.bl6
def K.bg3 : BC := .seq (.ops [b0 9 (.mv 0),b0 10 (.nc 9),b0 11 (.fa 6 10),b0 4 (.mv 11)]) K.bg2
def K.ad8 : BFn := ⟨104, [],.seq (.ops [⟨some 3, none, .here, .bx 136 1⟩]) K.bg3⟩
def K.bs2 : BC := .seq (.ops [b0 2 (.mv (.c (.lit (.bool false))))]) .ret
def K.bq5 : BC := .cond 8 K.bs2 .skip
def K.br7 : BC := .seq (.ops [b0 2 (.mv (.c (.lit (.bool true))))]) .ret
def K.bt8 : BC := .seq (.ops [b0 25 (.mv 0),b0 26 (.cl 25 [25])]) K.br7
def K.bs4 : BC := .seq (.ops [b0 23 (.mv 0),b0 24 (.cl 33 [23])]) K.bt8
def K.bq2 : BC := .cond 22 K.bs4 .skip
def K.bq4 : BC := .ops [b0 46 (.mv 0),b0 47 (.fa 24 3),⟨some 48, none, (.at 47), .ld1 47⟩,b0 49 (.nc 46),b0 50 (.fa 6 49),b0 51 (.fa 0 50),⟨none, none, (.at 51), .st 1 51 48⟩]
def K.bt7 : BC := .ops [b0 69 (.mv 0),⟨some 70, none, (.at 3), .ldn 26 3⟩,b0 71 (.cl 37 [69, 70])]
def K.br8 : BC := .seq (.ops [b0 66 (.mv 0),⟨some 67, none, (.at 3), .ldn 26 3⟩,b0 68 (.cl 36 [66, 67])]) K.bt7
def K.bu8 : BC := .seq (.ops [b0 57 (.mv 0),b0 58 (.nc 57),b0 59 (.fa 6 58),b0 60 (.fa 0 59),⟨some 61, none, (.at 60), .ld1 60⟩,b0 62 (.ib .add 61 (i0 1)),b0 63 (.nc 57),b0 64 (.fa 6 63),b0 65 (.fa 0 64),⟨none, none, (.at 65), .st 1 65 62⟩]) K.br8
def K.bg9 : BC := .cond 52 K.bu8 .skip
def K.bl1 : BC := .seq (.ops [b0 53 (.mv 0),⟨some 54, none, (.at 3), .ldn 26 3⟩,b0 55 (.cl 35 [53, 54]),b0 56 (.nt 55),b0 52 (.mv 56)]) K.bg9
def K.bi2 : BC := .cond 41 K.bq4 K.bl1
def K.bk5 : BC := .seq (.ops [b0 2 (.mv (.c (.lit (.bool true))))]) .ret
def K.bg1 : BC := .seq (.block 0 (.seq (.ops [b0 42 (.mv 0),⟨some 43, none, (.at 3), .ldn 26 3⟩,b0 44 (.cl 34 [42, 43]),b0 45 (.nt 44),b0 41 (.mv 45)]) K.bi2)) K.bk5
def K.bk8 : BC := .seq (.draw [b0 27 (.mv 0),b0 28 (.nc 27),b0 29 (.fa 0 28),⟨some 30, none, (.at 29), .ld1 29⟩,b0 31 (.nc 30),b0 32 (.fa 1 31),⟨some 33, none, (.at 32), .ld1 32⟩,b0 34 (.mv 0),b0 35 (.nc 34),b0 36 (.fa 6 35),b0 37 (.fa 0 36),⟨some 38, none, (.at 37), .ld1 37⟩,b0 39 (.ia 26 33 38),⟨some 40, none, (.at 39), .ldn 26 39⟩,⟨some 3, none, .here, .al 136 [(.lit (.int .i64 0)), (.lit (.int .i64 0)), (.lit (.int .i64 0)), (.lit (.string (bs []))), (.lit .nilIface), (.lit (.int .i64 0)), (.lit (.int .i64 0)), (.lit (.string (bs []))), (.lit .nilIface), (.lit (.bool false)), (.lit (.int .u8 0)), (.lit (.string (bs []))), (.lit (.string (bs []))), (.lit .nilIface), (.lit (.slice none 0 0)), (.lit (.int .i64 0)), (.lit (.bool false)), (.lit (.bool false)), (.lit (.string (bs []))), (.lit (.string (bs []))), (.lit (.int .i64 0)), (.lit (.int .i64 0)), (.lit (.int .i64 0)), (.lit (.int .i64 0)), (.lit (.int .i64 0)), (.lit (.int .i64 0))]⟩,⟨none, none, (.at 3), .st 26 3 40⟩] [(3, 14), (6, 14), (11, 14), (13, 14)]) K.bg1
def K.bj7 : BC := .seq (.seq (.draw [b0 9 (.mv 0),b0 10 (.nc 9),b0 11 (.fa 6 10),b0 12 (.fa 0 11),⟨some 13, none, (.at 12), .ld1 12⟩,b0 14 (.mv 0),b0 15 (.nc 14),b0 16 (.fa 0 15),⟨some 17, none, (.at 16), .ld1 16⟩,b0 18 (.nc 17),b0 19 (.fa 1 18),⟨some 20, none, (.at 19), .ld1 19⟩,⟨some 21, none, (.at 20), .ll 20⟩,b0 22 (.ib .geq 13 21)] []) K.bq2) K.bk8
def K.be6 : BC := .seq (.seq (.ops [b0 4 (.mv 0),b0 5 (.nc 4),b0 6 (.fa 6 5),b0 7 (.fa 7 6),⟨some 8, none, (.at 7), .ld1 7⟩]) K.bq5) K.bj7
def K.ab3 : BFn := ⟨72, [.t 2],.seq (.ops [b0 2 (.mv (.c (.lit (.bool false))))]) K.be6⟩
def K.bx3 : BC := .seq (.ops [b0 3 (.mv 0),b0 4 (.nc 3),b0 5 (.fa 4 4),b0 6 (.cl 38 [5]),b0 2 (.mv 6)]) .ret
def K.ae1 : BFn := ⟨7, [.t 2],.seq (.ops [b0 2 (.mv (.c (.lit (.string (bs [])))))]) K.bx3⟩
def K.bD5 : BC := .ops [b0 31 (.mv 5),b0 32 (.mv 8),b0 33 (.mv 8),b0 34 (.ib .add 33 (i0 1)),b0 35 (.sls (.c (.lit (.string (bs [97, 98, 99, 100, 101])))) (some 32) (some 34)),b0 36 (.sb .add (.c (.lit (.string (bs [58])))) 35),b0 37 (.sb .add 36 (.c (.lit (.string (bs [10]))))),b0 38 (.sb .add 31 37),b0 5 (.mv 38)]
def K.bD3 : BC := .ops [b0 39 (.ib .add 28 (i0 1)),b0 28 (.mv 39)]
def K.bH7 : BC := .seq (.block 1 (.seq (.ops [b0 30 (.mv 28),b0 8 (.mv 30)]) K.bD5)) K.bD3
def K.bK2 : BC := .seq (.cond 29 .skip (.exit 0)) K.bH7
def K.bF3 : BC := .seq (.ops [b0 29 (.ib .lss 28 27)]) K.bK2
def K.bE2 : BC := .ops [b0 66 (.mv 6),b0 67 (.mv 15),b0 68 (.sb .add 67 (.c (.lit (.string (bs [10]))))),b0 69 (.sb .add 66 68),b0 6 (.mv 69)]
def K.bI2 : BC := .ops [b0 70 (.ib .add 62 (i0 1)),b0 62 (.mv 70)]
def K.bG6 : BC := .seq (.block 3 (.seq (.ops [b0 64 (.ia 1 60 62),⟨some 65, none, (.at 64), .ld1 64⟩,b0 15 (.mv 65)]) K.bE2)) K.bI2
def K.bD8 : BC := .seq (.cond 63 .skip (.exit 2)) K.bG6
def K.bD1 : BC := .seq (.ops [b0 63 (.ib .lss 62 61)]) K.bD8
def K.bw8 : BC := .seq (.ops [b0 4 (.mv (.c (.lit (.bool false))))]) .ret
def K.bC9 : BC := .cond 85 K.bw8 .skip
def K.bw5 : BC := .ops [b0 86 (.ib .add 76 (i0 1)),b0 76 (.mv 86)]
def K.bw4 : BC := .seq (.block 5 (.seq (.ops [b0 78 (.mv 12),b0 79 (.cl 11 [78]),b0 80 (.fd1 7 79),b0 81 (.mv 80),⟨some 82, (some (81, false)), .none, .mv 12⟩,⟨some 83, (some (81, false)), .none, .cl 12 [82]⟩,⟨some 84, (some (81, false)), .none, .nt 83⟩,b0 85 (.pk 81 (.c (.lit (.bool true))) 84)]) K.bC9)) K.bw5
def K.bC6 : BC := .seq (.cond 77 .skip (.exit 4)) K.bw4
def K.bx6 : BC := .seq (.ops [b0 77 (.ib .lss 76 75)]) K.bC6
def K.bw3 : BC := .seq (.ops [b0 87 (.mv 12),b0 88 (.cl 11 [87]),b0 89 (.fd1 7 88),b0 90 (.mv 89),⟨some 91, (some (90, true)), .none, .mv 12⟩,⟨some 92, (some (90, true)), .none, .cl 13 [91]⟩,⟨some 93, (some (90, true)), .none, .mv 6⟩,⟨some 94, (some (90, true)), .none, .sb .eql 92 93⟩,b0 95 (.pk 90 94 (.c (.lit (.bool false)))),b0 96 (.mv 95),⟨some 97, (some (96, true)), .none, .mv 12⟩,⟨some 98, (some (96, true)), .none, .cl 12 [97]⟩,⟨some 99, (some (96, true)), .none, .nt 98⟩,b0 100 (.pk 96 99 (.c (.lit (.bool false)))),b0 4 (.mv 100)]) .ret
def K.bB3 : BC := .block 4 (.loop K.bx6)
def K.bA5 : BC := .seq (.seq (.ops [b0 71 (.mv 13),⟨some 72, none, (.at 71), .ll 71⟩,b0 73 (.mv 7),b0 74 (.ib .add 73 (i0 1)),b0 75 (.ib .mul 72 74),b0 76 (.mv (i0 0))]) K.bB3) K.bw3
def K.bC2 : BC := .seq (.ops [b0 4 (.mv (.c (.lit (.bool false))))]) .ret
def K.bz5 : BC := .cond 47 K.bC2 .skip
def K.bA1 : BC := .seq (.ops [b0 4 (.mv (.c (.lit (.bool false))))]) .ret
def K.bw7 : BC := .cond 55 K.bA1 .skip
def K.bx7 : BC := .block 2 (.loop K.bD1)
def K.bA6 : BC := .seq (.seq (.ops [b0 60 (.mv 13),⟨some 61, none, (.at 60), .ll 60⟩,b0 62 (.mv (i0 0))]) K.bx7) K.bA5
def K.by4 : BC := .seq (.ops [⟨some 56, none, (.at 10), .ldn 5 10⟩,b0 57 (.mv 0),b0 58 (.cl 10 [56, 57, (.c (.lit (.slice none 0 0)))]),b0 59 (.fd1 5 58),b0 13 (.mv 59)]) K.bA6
def K.bB0 : BC := .seq (.seq (.ops [b0 54 (.mv 12),b0 55 (.gen (.binOp .eql 33 (.tmp 54) (.const (.pointer none)) 33) 4)]) K.bw7) K.by4
def K.bv5 : BC := .seq (.ops [b0 48 (.mv 9),⟨some 49, none, .here, .bsl 9 1 []⟩,b0 50 (.mv 0),⟨some 51, none, (.app 49 50), .ap 9 1 16 49 50⟩,b0 52 (.cl 9 [(.c (.lit (.slice none 0 0)))]),b0 53 (.cl 8 [48, 51, 52]),b0 12 (.mv 53)]) K.bB0
def K.bA4 : BC := .seq (.seq (.ops [b0 46 (.mv 11),b0 47 (.nt 46)]) K.bz5) K.bv5
def K.bv4 : BC := .seq (.ops [b0 41 (.mv 5),b0 42 (.cl 7 [41, (.c (.lit (.bool false)))]),b0 40 (.mv 42),b0 43 (.ex 40 0),b0 44 (.ex 40 1),b0 45 (.ex 40 2),⟨some 10, none, .here, .al 30 [(.lit (.bool false)), (.lit (.slice none 0 0)), (.lit (.slice none 0 0)), (.lit (.slice none 0 0)), (.lit (.int .i64 0))]⟩,b0 9 (.mv 43),⟨none, none, (.at 10), .st 5 10 44⟩,b0 11 (.mv 45)]) K.bA4
def K.bB8 : BC := .seq (.ops [b0 23 (.cl 5 []),b0 4 (.mv 23)]) .ret
def K.by3 : BC := .cond 22 K.bB8 .skip
def K.bA7 : BC := .block 0 (.loop K.bF3)
def K.by7 : BC := .seq (.seq (.ops [b0 27 (.mv 7),b0 28 (.mv (i0 0))]) K.bA7) K.bv4
def K.bz1 : BC := .seq (.ops [b0 24 (.mv 1),⟨some 25, none, (.at 24), .cvi .i64 24⟩,b0 26 (.ib .rem 25 (i0 5)),b0 7 (.mv 26)]) K.by7
def K.bB6 : BC := .seq (.ops [b0 5 (.mv (.c (.lit (.string (bs [35, 32, 110, 111, 116, 104, 105, 110, 103, 10]))))),b0 6 (.mv (.c (.lit (.string (bs [])))))]) K.bz1
def K.bw9 : BC := .seq (.seq (.ops [b0 16 (.cl 5 []),b0 17 (.nt 16),b0 18 (.mv 17),⟨some 19, (some (18, false)), .none, .mv 0⟩,⟨some 20, (some (18, false)), .none, .cl 6 [19]⟩,⟨some 21, (some (18, false)), .none, .nt 20⟩,b0 22 (.pk 18 (.c (.lit (.bool true))) 21)]) K.by3) K.bB6
def K.ar9 : BFn := ⟨101, [.t 4],.seq (.ops [b0 4 (.mv (.c (.lit (.bool false))))]) K.bw9⟩
def K.bi0 : BC := .seq (.ops [b0 3 (.mv 0),b0 4 (.nc 3),b0 5 (.fa 3 4),⟨some 6, none, (.at 5), .ld1 5⟩,b0 7 (.cl 20 [6]),b0 2 (.mv 7)]) .ret
def K.ac5 : BFn := ⟨8, [.t 2],.seq (.ops [b0 2 (.mv (.c (.lit (.pointer none))))]) K.bi0⟩
def K.cR8 : BC := .cond 23 .skip (.exit 0)
def K.cW9 : BC := .block 1 (.ops [b0 24 (.mv 11),b0 25 (.ib .add 24 (i0 1)),b0 11 (.mv 25)])
def K.bW8 : BC := .seq (.seq (.ops [b0 17 (.mv 11),b0 18 (.mv 3),b0 19 (.ib .lss 17 18),b0 20 (.mv 19),⟨some 21, (some (20, true)), .none, .mv 10⟩,⟨some 22, (some (20, true)), .none, .cl 12 [21]⟩,b0 23 (.pk 20 22 (.c (.lit (.bool false))))]) K.cR8) K.cW9
def K.cT8 : BC := .seq (.ops [b0 30 (.bd [(.lit (.string (bs []))), (.lit (.slice none 0 0)), (.lit (.int .i64 0))] []),⟨none, none, (.at 8), .st 3 8 30⟩,b0 9 (.mv (i0 21))]) .ret
def K.cX7 : BC := .cond 29 K.cT8 .skip
def K.c26 : BC := .seq (.ops [b0 31 (.mv 10),b0 32 (.cl 13 [31]),b0 33 (.mv 10),b0 34 (.cl 70 [33]),b0 35 (.cl 71 [34]),b0 36 (.mv 11),b0 37 (.bd [(.lit (.string (bs []))), (.lit (.slice none 0 0)), (.lit (.int .i64 0))] [(0, 1, 32), (1, 1, 35), (2, 1, 36)]),⟨none, none, (.at 8), .st 3 8 37⟩,b0 9 (.mv (i0 0))]) .ret
def K.cw1 : BC := .seq (.seq (.ops [b0 26 (.mv 10),b0 27 (.cl 11 [26]),b0 28 (.fd1 7 27),b0 29 (.nt 28)]) K.cX7) K.c26
def K.c62 : BC := .seq (.block 0 (.loop K.bW8)) K.cw1
def K.cP4 : BC := .seq (.ops [b0 11 (.mv (i0 0))]) K.c62
def K.cU5 : BC := .seq (.ops [b0 12 (.mv 0),b0 13 (.mv 1),b0 14 (.mv 2),b0 15 (.cl 9 [14]),b0 16 (.cl 8 [12, 13, 15]),b0 10 (.mv 16)]) K.cP4
def K.as5 : BFn := ⟨38, [.cn 8 3, .t 9],.seq (.ops [⟨some 8, none, .here, .al 142 [(.lit (.string (bs []))), (.lit (.slice none 0 0)), (.lit (.int .i64 0))]⟩,b0 9 (.mv (i0 0))]) K.cU5⟩
def K.cx4 : BC := .seq (.ops [b0 26 (.mv 13),b0 27 (.mv 14),b0 8 (.mv (.c (.lit (.string (bs []))))),b0 9 (.mv 26),b0 10 (.mv 27)]) .ret
def K.cz5 : BC := .cond 25 K.cx4 .skip
def K.cC0 : BC := .seq (.ops [b0 35 (.fa 0 15),⟨some 36, none, (.at 35), .ld1 35⟩,b0 37 (.mv 14),b0 8 (.mv 36),b0 9 (.mv (i0 0)),b0 10 (.mv 37)]) .ret
def K.cD4 : BC := .seq (.ops [b0 29 (.mv 11),b0 30 (.mv 2),b0 31 (.mv 3),b0 32 (.cl 40 [29, 30, (.c (.lit (.slice none 0 0))), 31]),b0 28 (.mv 32),b0 33 (.ex 28 0),b0 34 (.ex 28 1),⟨some 15, none, .here, .al 142 [(.lit (.string (bs []))), (.lit (.slice none 0 0)), (.lit (.int .i64 0))]⟩,⟨none, none, (.at 15), .st 3 15 33⟩,b0 14 (.mv 34)]) K.cC0
def K.cw8 : BC := .seq (.seq (.ops [b0 24 (.mv 14),b0 25 (.ib .neq 24 (i0 0))]) K.cz5) K.cD4
def K.cA1 : BC := .seq (.ops [b0 17 (.mv 0),⟨some 18, none, (.at 5), .ldn 2 5⟩,b0 19 (.cl 39 [17, 18]),b0 16 (.mv 19),b0 20 (.ex 16 0),b0 21 (.ex 16 1),b0 22 (.ex 16 2),b0 23 (.ex 16 3),b0 11 (.mv 20),b0 12 (.mv 21),b0 13 (.mv 22),b0 14 (.mv 23)]) K.cw8
def K.ap3 : BFn := ⟨38, [.t 8, .t 9, .t 10],.seq (.ops [⟨some 5, none, .here, .bx 55 1⟩,b0 8 (.mv (.c (.lit (.string (bs []))))),b0 9 (.mv (i0 0)),b0 10 (.mv (i0 0))]) K.cA1⟩
def K.bM5 : BC := .seq (.ops [b0 4 (.mv (.c (.lit (.bool true))))]) .ret
def K.bM8 : BC := .cond 32 K.bM5 .skip
def K.bM6 : BC := .ops [b0 33 (.mv 5),b0 34 (.mv 8),b0 35 (.sb .add 34 (.c (.lit (.string (bs [10]))))),b0 36 (.sb .add 33 35),b0 5 (.mv 36)]
def K.bL5 : BC := .seq (.seq (.ops [b0 30 (.mv 8),⟨some 31, none, (.at 30), .ls 30⟩,b0 32 (.ib .gtr 31 (i0 100))]) K.bM8) K.bM6
def K.bN0 : BC := .ops [b0 37 (.ib .add 26 (i0 1)),b0 26 (.mv 37)]
def K.bM3 : BC := .seq (.block 1 (.seq (.ops [b0 28 (.ia 1 24 26),⟨some 29, none, (.at 28), .ld1 28⟩,b0 8 (.mv 29)]) K.bL5)) K.bN0
def K.bM4 : BC := .seq (.cond 27 .skip (.exit 0)) K.bM3
def K.aH6 : BC := .seq (.ops [b0 27 (.ib .lss 26 25)]) K.bM4
def K.bK6 : BC := .ops [b0 47 (.mv 6),b0 48 (.ib .add 47 (i0 1)),b0 6 (.mv 48)]
def K.bL4 : BC := .cond 46 K.bK6 .skip
def K.bE0 : BC := .seq (.ops [b0 43 (.mv 5),b0 44 (.mv 9),b0 45 (.xs 43 44),b0 46 (.ib .eql 45 (.c (.lit (.int .u8 10))))]) K.bL4
def K.bG7 : BC := .ops [b0 49 (.ib .add 40 (i0 1)),b0 40 (.mv 49)]
def K.bI7 : BC := .seq (.block 3 (.seq (.ops [b0 42 (.mv 40),b0 9 (.mv 42)]) K.bE0)) K.bG7
def K.bE3 : BC := .seq (.cond 41 .skip (.exit 2)) K.bI7
def K.aC0 : BC := .seq (.ops [b0 41 (.ib .lss 40 39)]) K.bE3
def K.bH2 : BC := .seq (.ops [b0 74 (.mv 10),b0 75 (.mv 5),b0 76 (.sb .eql 74 75),b0 77 (.mv 76),⟨some 78, (some (77, true)), .none, .mv 11⟩,⟨some 79, (some (77, true)), .none, .ib .eql 78 (i0 0)⟩,b0 80 (.pk 77 79 (.c (.lit (.bool false)))),b0 81 (.mv 80),⟨some 82, (some (81, true)), .none, .mv 12⟩,⟨some 83, (some (81, true)), .none, .ib .eql 82 (i0 0)⟩,b0 84 (.pk 81 83 (.c (.lit (.bool false)))),b0 85 (.mv 84),⟨some 86, (some (85, true)), .none, .mv 15⟩,⟨some 87, (some (85, true)), .none, .ib .eql 86 (i0 21)⟩,⟨some 88, (some (85, true)), .none, .mv 6⟩,⟨some 89, (some (85, true)), .none, .ib .gtr 88 (i0 0)⟩,⟨some 90, (some (85, true)), .none, .bb false 87 89⟩,b0 91 (.pk 85 90 (.c (.lit (.bool false)))),b0 4 (.mv 91)]) .ret
def K.bF0 : BC := .seq (.ops [b0 63 (.mv 1),b0 64 (.bd [(.lit (.bool false)), (.lit (.bool false))] [(1, 1, 63)]),⟨some 65, none, .here, .bsl 9 1 []⟩,b0 66 (.mv 0),⟨some 67, none, (.app 65 66), .ap 9 1 16 65 66⟩,b0 68 (.mv 6),b0 69 (.ib .sub 68 (i0 1)),b0 70 (.cl 15 [(.c (.lit (.string (bs [])))), 64, 67, 69]),b0 62 (.mv 70),b0 71 (.ex 62 0),b0 72 (.ex 62 1),b0 73 (.ex 62 2),b0 13 (.mv 71),b0 14 (.mv 72),b0 15 (.mv 73)]) K.bH2
def K.aR6 : BC := .seq (.ops [b0 52 (.mv 1),b0 53 (.bd [(.lit (.bool false)), (.lit (.bool false))] [(1, 1, 52)]),⟨some 54, none, .here, .bsl 9 1 []⟩,b0 55 (.mv 0),⟨some 56, none, (.app 54 55), .ap 9 1 16 54 55⟩,b0 57 (.mv 6),b0 58 (.cl 15 [(.c (.lit (.string (bs [])))), 53, 56, 57]),b0 51 (.mv 58),b0 59 (.ex 51 0),b0 60 (.ex 51 1),b0 61 (.ex 51 2),b0 10 (.mv 59),b0 11 (.mv 60),b0 12 (.mv 61)]) K.bF0
def K.bI4 : BC := .ops [b0 5 (.mv (.c (.lit (.string (bs [])))))]
def K.bF5 : BC := .cond 50 K.bI4 .skip
def K.aQ8 : BC := .seq (.seq (.ops [b0 50 (.mv 1)]) K.bF5) K.aR6
def K.bH8 : BC := .block 2 (.loop K.aC0)
def K.aS3 : BC := .seq (.seq (.ops [b0 38 (.mv 5),⟨some 39, none, (.at 38), .ls 38⟩,b0 40 (.mv (i0 0))]) K.bH8) K.aQ8
def K.bF4 : BC := .seq (.ops [b0 23 (.cl 14 []),b0 4 (.mv 23)]) .ret
def K.bG8 : BC := .cond 22 K.bF4 .skip
def K.bH9 : BC := .block 0 (.loop K.aH6)
def K.bE8 : BC := .seq (.seq (.ops [b0 24 (.mv 0),⟨some 25, none, (.at 24), .ll 24⟩,b0 26 (.mv (i0 0))]) K.bH9) K.aS3
def K.bF9 : BC := .seq (.ops [b0 5 (.mv (.c (.lit (.string (bs []))))),b0 6 (.mv (i0 0))]) K.bE8
def K.bE5 : BC := .seq (.seq (.ops [b0 16 (.cl 14 []),b0 17 (.nt 16),b0 18 (.mv 17),⟨some 19, (some (18, false)), .none, .mv 0⟩,⟨some 20, (some (18, false)), (.at 19), .ll 19⟩,⟨some 21, (some (18, false)), .none, .ib .gtr 20 (i0 20)⟩,b0 22 (.pk 18 (.c (.lit (.bool true))) 21)]) K.bG8) K.bF9
def K.aa6 : BFn := ⟨92, [.t 4],.seq (.ops [b0 4 (.mv (.c (.lit (.bool false))))]) K.bE5⟩
def K.aM2 : BC := .seq (.ops [b0 3 (.mv 0),b0 4 (.mv 0),⟨some 5, none, (.at 4), .ll 4⟩,b0 6 (.mv 0),⟨some 7, none, (.at 6), .ll 6⟩,b0 8 (.sll 1 3 none (some 5) (some 7)),b0 2 (.mv 8)]) .ret
def K.ai0 : BFn := ⟨9, [.t 2],.seq (.ops [b0 2 (.mv (.c (.lit (.slice none 0 0))))]) K.aM2⟩
class ae8 (P : Program) : Prop where
 aP9 : ao9 P F.aP9 = some K.aP9
 ext_law16_Made : S.aj8 P aj8
 ad6 : ao9 P F.ad6 = some K.ad6
 ext_strings_Split : S.strings_Split P strings_Split
 am2 : ao9 P F.am2 = some K.am2
 o8 : ao9 P F.o8 = some K.o8
 o9 : ao9 P F.o9 = some K.o9
 ae0 : ao9 P F.ae0 = some K.ae0
 af9 : ao9 P F.af9 = some K.af9
 aa5 : ao9 P F.aa5 = some K.aa5
 x9 : ao9 P F.x9 = some K.x9
 aa9 : ao9 P F.aa9 = some K.aa9
 ad3 : ao9 P F.ad3 = some K.ad3
 ab8 : ao9 P F.ab8 = some K.ab8
 aa7 : ao9 P F.aa7 = some K.aa7
 ac6 : ao9 P F.ac6 = some K.ac6
 af5 : ao9 P F.af5 = some K.af5
 aL3 : ao9 P F.aL3 = some K.aL3
 aP4 : ao9 P F.aP4 = some K.aP4
 az3 : ao9 P F.az3 = some K.az3
 aP8 : ao9 P F.aP8 = some K.aP8
 ext_slices_Clone_int_int : S.ag6 P ag6
 ext_slices_Clone_mach_Item_mach_Item : S.ab4 P ab4
 ab1 : ao9 P F.ab1 = some K.ab1
 ac7 : ao9 P F.ac7 = some K.ac7
 aa3 : ao9 P F.aa3 = some K.aa3
 ac4 : ao9 P F.ac4 = some K.ac4
 ad2 : ao9 P F.ad2 = some K.ad2
 ab5 : ao9 P F.ab5 = some K.ab5
 ad9 : ao9 P F.ad9 = some K.ad9
 ad8 : ao9 P F.ad8 = some K.ad8
 ab3 : ao9 P F.ab3 = some K.ab3
 ae1 : ao9 P F.ae1 = some K.ae1
 ar9 : ao9 P F.ar9 = some K.ar9
 ext_run_Load : S.au9 P au9
 ac5 : ao9 P F.ac5 = some K.ac5
 ext_files_Files_List : S.ag8 P ag8
 as5 : ao9 P F.as5 = some K.as5
 ap3 : ao9 P F.ap3 = some K.ap3
 aa6 : ao9 P F.aa6 = some K.aa6
 ai0 : ao9 P F.ai0 = some K.ai0
 ext_slices_Clone_string_string : S.aj9 P aj9
 lies_80_4 : liesAt P P.depth 80 (14 / P.cellsOf 80) 4 78 1 = true
 un_33 : P.underlying 33 = some (.pointer 80)
 ms_38 : MkSl P 38 3 1 [.lit (.int .i64 0)]
 bld : BldC P 75 78 288 4 5 153 105 65 101 38
 ext_law19_awake (r : Bool) (h : (some true : Option Bool) = some r) : ∃ v, aj6 P F.aO3 [] .bare = some (.ret v, none) ∧ ResC [.bool r] v
 ext_law20_awake (r : Bool) (h : (some true : Option Bool) = some r) : ∃ v, aj6 P F.aH7 [] .bare = some (.ret v, none) ∧ ResC [.bool r] v
end Go.Proofs.YtbinfgmdamlkbaaGreatDoor
namespace Go.Proofs.YtbinfgmdamlkbaaGreatDoor
open Go.RowKit
theorem bldTb : (Tryz.prog.info? 78).any (fun i => i.size != 0) = true := by kernel_rfl
theorem bldFacts : aU5 Tryz.prog 75 78 288 4 153 where
 up := by kernel_rfl
 uu := by kernel_rfl
 ib := by
  have h := bldTb
  cases hi : Tryz.prog.info? 78 with
  | none => rw [hi] at h; cases h
  | some i => rw [hi] at h; exact ⟨i, rfl, by simpa using h⟩
 ne := ⟨_, Tryz.func153, by kernel_rfl⟩
 same := rfl
 nil := fun T S => by kernel_rfl
def mkB (P : Program) (e : TypeId) (n : Nat) : Option (Bool × List AV) := (P.info? e).bind fun i => i.zero.map fun z => (z.cells.size == n && i.size == n && decide (0 < n) && decide (i.bytes ≤ 100000), z.cells.toList.map AV.lit)
theorem mkSl_of {P : Program} {t e : TypeId} {n : Nat} {zc : List AV} (h1 : P.underlying t = some (.slice e)) (h2 : mkB P e n = some (true, zc)) : MkSl P t e n zc := by
 refine ⟨h1, ?_⟩
 unfold mkB at h2
 obtain ⟨i, hi, h2⟩ := Option.bind_eq_some_iff.1 h2
 obtain ⟨z, hz, h2⟩ := Option.map_eq_some_iff.1 h2
 simp only [Prod.mk.injEq, Bool.and_eq_true, beq_iff_eq, decide_eq_true_eq] at h2
 exact ⟨i, z, hi, hz, h2.1.1.1.1, h2.1.1.1.2, h2.1.1.2, h2.1.2, h2.2⟩
theorem made_ok : S.aj8 Tryz.prog aj8 := by
 intro a0 a1 r h _ args ha
 obtain ⟨rfl, n, hn, rfl, rfl⟩ := cJ9 (show G.made a0 a1 = some r from h)
 have hargs : args.map AV.af4 = [sA (ah0 n), bA false] := by
  obtain ⟨x, t, h1, h2, y, t2, h3, h4, h5⟩ := ha
  rw [h1, h3, h5, show x = _ from h2, show y = _ from h4]
  rfl
 unfold bZ3
 rw [hargs]
 have run : aj6 Tryz.prog F.aj8 [sA (ah0 n), bA false] .bare = some (.ret (bN2 n), none) := by
  match n, hn with
  | 0, _ => exact cP8
  | 1, _ => exact cW5
  | 2, _ => exact cQ6
  | 3, _ => exact c55
  | 4, _ => exact cS4
  | n + 5, hn => exact absurd hn (by omega)
 exact ⟨bN2 n, run, cY9 n⟩
theorem load_ok : S.au9 Tryz.prog au9 := by
 intro a0 a1 r h _ args ha
 have h : (if a0.length = 0 ∧ a1.Extended = false then some (some (aU1 a1.Quiet), [], (0 : Int), (0 : Int)) else none) = some r := h
 split at h
 case isFalse => cases h
 rename_i hc
 cases h
 obtain rfl : a0 = [] := List.eq_nil_of_length_eq_zero hc.1
 obtain ⟨x, q⟩ := a1
 obtain rfl : x = false := hc.2
 have hargs : args.map AV.af4 = [sA [], .agg [bA false, bA q]] := by
  obtain ⟨x, t, h1, h2, y, t2, h3, ⟨cs, h4, h6⟩, h5⟩ := ha
  rw [h1, h3, h5, show x = _ from h2, h4]
  obtain ⟨b1, t1, rfl, e1, b2, t2, rfl, e2, e3⟩ := h6
  rw [show b1 = _ from e1, show b2 = _ from e2, show t2 = _ from e3]
  rfl
 unfold bZ3
 rw [hargs]
 have run : al4 Tryz.prog 120 F.au9 [sA [], .agg [bA false, bA q]] .bare = some (.ret (loadA q), none) := by
  cases q with
  | false => exact cV2
  | true => exact cU0
 refine ⟨loadA q, ah7.2 ⟨120, run⟩, _, rfl, _, _, rfl, ?_, _, _, rfl, RelC.nil _ _, _, _, rfl, rfl, _, _, rfl, rfl, rfl⟩
 show RelC (vref ac2 (some (aU1 q))) _
 unfold vref RelC
 exact ⟨[bA q, nS, nS, iA 0], [bA q, nS, iA 0], rfl, x8 aj0 (x8 (RelC.nil _ _) (x8 (RelC.nil _ _) (x8 ac0 ar6))), rfl⟩
theorem cB9 [Cfg] {P : Program} {f : FuncId} {k : List AV → AS → Option (AE × Upd)} (hg : Cfg.given f = some k) (args : List AV) (S : AS) : al4 P 1 f args S = k args S := by
 unfold al4
 rw [hg]
theorem list_ok : S.ag8 Tryz.prog ag8 := by
 intro a0 r h S args F hat hnd hlv
 have h : (if a0.lines.length = 0 then some [] else none) = some r := h
 split at h
 case isFalse => cases h
 rename_i hc
 cases h
 obtain ⟨ls⟩ := a0
 obtain rfl : ls = [] := List.eq_nil_of_length_eq_zero hc
 obtain ⟨a, t, F1, F2, ha, rfl, h2, h3⟩ := hat
 obtain ⟨rfl, rfl⟩ := h3
 unfold AtA AtO at h2
 obtain ⟨q, k, cs, F', rfl, rfl, g1, g2⟩ := h2
 obtain ⟨b, rfl⟩ : ∃ b, args = [b] := by
  match args, ha with
  | [], ha => simp at ha
  | [b], _ => exact ⟨b, rfl⟩
  | b :: c :: r, ha => simp at ha
 have hb : b = .ptr q k 0 0 := by
  have : b.af4 = .ptr q k 0 0 := by simpa using ha
  cases b <;> simp [AV.af4, AV.au6] at this ⊢
  exact this
 subst hb
 have g2 : AtL S q k 0 [Mp.o Mp.ks _ []] cs F' := g2
 unfold AtL at g2
 obtain ⟨a1, t1, F3, F4, rfl, rfl, g3, g4⟩ := g2
 unfold AtL at g4
 obtain ⟨rfl, rfl⟩ := g4
 unfold AtO at g3
 obtain ⟨p, m, es, ck, F5, rfl, rfl, g5, g6, _, _, _⟩ := g3
 have hes : es = [] := by simpa using g6
 subst hes
 refine ⟨.lit (.slice none 0 0), ah7.2 ⟨1, ?_⟩, RelC.nil _ _⟩
 rw [cB9 (f := F.ag8) (k := aN4) rfl]
 simp only [aN4, g1, g5, and_self, if_true]
instance codeAll : ae8 Tryz.prog where
 aP9 := by kernel_rfl
 ad6 := by kernel_rfl
 am2 := by kernel_rfl
 o8 := by kernel_rfl
 o9 := by kernel_rfl
 ae0 := by kernel_rfl
 af9 := by kernel_rfl
 aa5 := by kernel_rfl
 x9 := by kernel_rfl
 aa9 := by kernel_rfl
 ad3 := by kernel_rfl
 ab8 := by kernel_rfl
 aa7 := by kernel_rfl
 ac6 := by kernel_rfl
 af5 := by kernel_rfl
 aL3 := by kernel_rfl
 aP4 := by kernel_rfl
 az3 := by kernel_rfl
 aP8 := by kernel_rfl
 ab1 := by kernel_rfl
 ac7 := by kernel_rfl
 aa3 := by kernel_rfl
 ac4 := by kernel_rfl
 ad2 := by kernel_rfl
 ab5 := by kernel_rfl
 ad9 := by kernel_rfl
 ad8 := by kernel_rfl
 ab3 := by kernel_rfl
 ae1 := by kernel_rfl
 ar9 := by kernel_rfl
 ac5 := by kernel_rfl
 as5 := by kernel_rfl
 ap3 := by kernel_rfl
 aa6 := by kernel_rfl
 ai0 := by kernel_rfl
 ext_law16_Made := made_ok
 ext_strings_Split := fun a0 a1 r h k0 args ha => (split_ok rfl a0 a1 r h k0 args ha).b
 ext_slices_Clone_int_int := fun a0 r h k0 args ha => (cd7 (e := 3) (n := 1) (by' := 8) (t := 38) (tb := 4) rfl (by kernel_rfl) (fun _ => rfl) (fun _ => rfl) (by kernel_rfl) rfl a0 r h k0 args ha).b
 ext_slices_Clone_mach_Item_mach_Item := fun a0 r h k0 args ha => (cd7 (e := 122) (n := 2) (by' := 24) (t := 45) (tb := 4) rfl (by kernel_rfl) (fun _ => rfl) (fun _ => rfl) (by kernel_rfl) rfl a0 r h k0 args ha).b
 ext_run_Load := load_ok
 ext_files_Files_List := list_ok
 ext_slices_Clone_string_string := fun a0 r h k0 args ha => (cd7 (e := 9) (n := 1) (by' := 16) (t := 22) (tb := 4) rfl (by kernel_rfl) (fun _ => rfl) (fun _ => rfl) (by kernel_rfl) rfl a0 r h k0 args ha).b
 lies_80_4 := by kernel_rfl
 un_33 := by kernel_rfl
 ms_38 := mkSl_of (by kernel_rfl) (by kernel_rfl)

 bld := ⟨bldFacts, by kernel_rfl, by kernel_rfl, by kernel_rfl, rfl, rfl, rfl, rfl, rfl, rfl, rfl, rfl, by kernel_rfl, rfl⟩
 ext_law19_awake r h := by
  cases h
  exact ⟨_, ah7.2 ⟨400, cD8⟩, rfl⟩
 ext_law20_awake r h := by
  cases h
  exact ⟨_, ah7.2 ⟨400, cE3⟩, rfl⟩
end Go.Proofs.YtbinfgmdamlkbaaGreatDoor
namespace Go.Proofs.YtbinfgmdamlkbaaGreatDoor
open Go.ChangeShapes Go.WideShapes Go.ChangeAt Go.RowKit
def bJ6 (P : Program) (ts : List TypeId) : Bool := ts.all fun t => P.readableRec t && decide (t < P.types.size)
theorem bI5 {H : Type} {enc : TypeId × Value → H} {P : Program} (hl : laidOutB P = true) {W W' : World} (hb : Below W.heap.size W W') :
  ∀ {ts : List TypeId} {vs : List Value} {ds : List (DataW H)} {ps : List MemPlace}, bJ6 P ts = true → (∀ p ∈ ps, p.block < W.heap.size) →
   DataW.TrodAll enc P W 0 (fun _ => true) true ts vs ds ps → DataW.TrodAll enc P W' 0 (fun b => decide (b < W.heap.size)) true ts vs ds ps
 | [], [], [], _, _, _, h => h
 | t :: ts, v :: vs, d :: ds, ps, hr, hlt, h => by
  obtain ⟨p, q, h1, h2, rfl⟩ := h
  simp only [bJ6, List.all_cons, Bool.and_eq_true, decide_eq_true_eq] at hr
  exact ⟨p, q, Below.trod hl hr.1.1 hr.1.2 h1 hb (fun x hx => hlt x (List.mem_append_left _ hx)),
   bI5 hl hb (by simpa [bJ6] using hr.2) (fun x hx => hlt x (List.mem_append_right _ hx)) h2, rfl⟩
 | [], _ :: _, _, _, _, _, h => by cases h
 | [], [], _ :: _, _, _, _, h => by cases h
 | _ :: _, [], _, _, _, _, h => by cases h
 | _ :: _, _ :: _, [], _, _, _, h => by cases h
theorem cX2 {H : Type} {enc : TypeId × Value → H} {P : Program} {f : Func} {s : ChangeSpec} {W W' : World} {args : Array Value} {ds gs : List (DataW H)} {before : List MemPlace} {tb : TypeId}
  (hl : laidOutB P = true) (hrow : bJ6 P f.params.toList = true) (hres : f.resultTypes = #[tb]) (htb : P.underlying tb = some .bool) (hv : s.vars = [])
  (hs : ∀ x : List (DataW H), x.length = ds.length → s.fn H x = { results := [.lit (.bool true)], args := x }) (hW : DataW.Whole enc P f.params.toList s.vars false W args.toList ds gs before) (hb : Below W.heap.size W W') :
  s.post enc P f false true false false W args (.bool true) W' := by
 have hlt := hW.lt
 have hW' := hW
 obtain ⟨p, q, hA, hV, rfl, _⟩ := hW
 rw [hv] at hV
 obtain ⟨rfl, rfl⟩ := trodVars_none hV
 have e := hs ds rfl
 refine ⟨ds, [], p ++ [], [], p, [], hW', ?_, ?_, ?_, hb.frame _, fun h => by cases h⟩
 ·rw [List.append_nil, e, hres]
  exact trodAll_mk1 (shut_bool htb _)
 ·rw [List.append_nil, e]
  exact bI5 hl hb hrow (fun x hx => hlt x (by simpa using hx)) hA
 ·rw [List.append_nil, e, hv]
  rfl
end Go.Proofs.YtbinfgmdamlkbaaGreatDoor
namespace Go.Proofs.YtbinfgmdamlkbaaGreatDoor
open Go.ChangeShapes Go.WideShapes Go.ChangeAt Go.RowKit Go.Deep
theorem own : ownKnob Tryz.prog.godebug = none := by kernel_rfl
theorem laidOut : laidOutB Tryz.prog = true := by kernel_rfl
mutual
def bo2 : DataW Unit → List Value
 | .lit (.int k n) => [.int k n]
 | .agg l => cu7 l
 | _ => []
def cu7 : List (DataW Unit) → List Value
 | [] => []
 | d :: r => bo2 d ++ cu7 r
end
def putCells (cs : Array Value) : Obj → Obj
 | .cells _ t frozen => .cells cs t frozen
 | o => o
noncomputable def laidWorld (os : Os) : World :=
 { World.holding Tryz.prog os ⟨#[], #[], []⟩ with heap := (((((World.holding Tryz.prog os ⟨#[], #[], []⟩).heap.modify 2 (putCells (bo2 Go.Pinned.utf8First).toArray)).modify 3 (putCells (bo2 Rows.laid_unicode_utf8_acceptRanges).toArray)).modify 4 (putCells (bo2 Rows.laid_math_bits_deBruijn32tab).toArray)).modify 5 (putCells (bo2 Rows.laid_math_bits_deBruijn64tab).toArray)).modify 1 (putCells (bo2 Rows.laid_internal_strconv_uint64pow10).toArray) }
def deB : List Int := [0, 1, 56, 2, 57, 49, 28, 3, 61, 58, 42, 50, 38, 29, 17, 4, 62, 47, 59, 36, 45, 43, 51, 22, 53, 39, 33, 30, 24, 18, 12, 5, 63, 55, 48, 27, 60, 41, 37, 16, 46, 35, 44, 21, 52, 32, 23, 11, 54, 26, 40, 15, 34, 20, 31, 10, 25, 14, 19, 9, 13, 8, 7, 6]
theorem deB_eq : (Rows.laid_math_bits_deBruijn64tab : DataW Unit) = Go.Lib.tabData .u8 deB := by kernel_rfl
theorem tabs (W : World) (h : laidMet Tryz.prog Rows.machPlainRow.laid W) (hsh : W.ShapedOpen Tryz.prog) : ∀ x ∈ Cfg.tabs, ∃ v, W.cell? ⟨x.1, x.2.1, none⟩ = some v ∧ x.2.2 v := by
 obtain ⟨ps, ⟨_, _, _, _, _, q1, _, _, _, _, ⟨g, t, cs, fuel, p, q, hg, ht, hvar, hd, _, _⟩, _⟩, _⟩ := h
 have hg' : Tryz.prog.globalNamed "math/bits.deBruijn64tab" = some 5 := by kernel_rfl
 obtain rfl := Option.some.inj (hg'.symm.trans hg)
 have ht' : (Tryz.prog.globals[5]?).map (·.type) = some 450 := by kernel_rfl
 obtain rfl := Option.some.inj (ht'.symm.trans ht)
 rw [deB_eq] at hd
 have hT : Go.Lib.TabIs Tryz.prog W "math/bits.deBruijn64tab" .u8 deB := by
  unfold Go.Lib.TabIs
  rw [hvar, ← Go.Lib.cells_of_tab (e := 5) (n := 64) (by kernel_rfl) (by kernel_rfl) (by kernel_rfl) (by kernel_rfl) hd]
 have hc := hT.cell hg' 7 (by decide)
 obtain ⟨m, hm⟩ := Tryz.laysM146.s1_3 W hsh
 intro x hx
 have hx' : x ∈ [(5, 7, fun v => v = Value.int .u8 3), (0, 0, fun v => ∃ m, v = Value.int .i64 m)] := hx
 rcases List.mem_cons.1 hx' with rfl | hx'
 ·exact ⟨_, hc, rfl⟩
 ·rw [List.mem_singleton] at hx'
  subst hx'
  exact ⟨_, hm, m, rfl⟩
theorem relC_sl {sz : Nat} {es : List (List V)} {as1 : List (List AV)} (k : Option (Option Addr)) (h : ad7 es as1) : RelC (.sl sz es) (slV sz as1 k) := by
 rcases aN1 sz as1 k with e | ⟨e, a, e'⟩
 ·rw [e]; exact RelC.list rfl h
 ·subst e
  rw [e']
  cases es with
  | nil => exact RelC.nil _ _
  | cons => unfold ad7 at h; obtain ⟨_, _, h, _⟩ := h; cases h
abbrev shT : Sh := .seq .str
theorem cQ1 (y : shT.Ty) : RelC (.sl 1 (List.map aa8 y.1)) (slV 1 (y.1.map Sh.str.avs) y.2) :=
 relC_sl _ (bv8 aa8 Sh.str.avs (fun _ => x8 ah3 ar6) y.1)
end Go.Proofs.YtbinfgmdamlkbaaGreatDoor
namespace Go.Proofs.YtbinfgmdamlkbaaGreatDoor
open Go.RowKit
noncomputable section
end
end Go.Proofs.YtbinfgmdamlkbaaGreatDoor
namespace Go.Proofs.YtbinfgmdamlkbaaGreatDoor
open Go.RowKit
noncomputable section
def ad6 (a0 : D.y5) : Option (D.y5 × D.y5) :=
 some (a0, a0)
def am2 (a0 : List UInt8) : Option (List (List UInt8)) :=
 (strings_Split a0 [10]).bind fun x_1 =>
 some x_1
def aR7 (p11 : (List D.aj7)) (p12 : Int) : (D.y5 × Int) → Option (Ctl (D.y5 × Int) D.y5 D.y5) := fun (q_i2, p13) =>
 (if p13 < p12 then (G.idx p11 p13).bind fun x_9 =>
 none else some (.brk q_i2))
def af5 (a0 : (List D.aj7)) : Option D.y5 :=
 (Loop (aR7 a0 (a0.length : Int)) ((D.y5.mk []), 0)).bind fun o => (match o with
 | .brk q_i2b_19 => some q_i2b_19
 | .ret r => some r)
end
end Go.Proofs.YtbinfgmdamlkbaaGreatDoor
namespace Go.Proofs.YtbinfgmdamlkbaaGreatDoor
open Go.RowKit
noncomputable section
end
end Go.Proofs.YtbinfgmdamlkbaaGreatDoor
namespace Go.Proofs.YtbinfgmdamlkbaaGreatDoor
open Go.RowKit
noncomputable section
def au7 (p0 : Int) (p2 : Int) : Option Int :=
 (if p0 ≥ 256 then (G.shrK .u64 p0 8).bind fun x_8 =>
 (G.idxS [0, 1, 2, 2, 3, 3, 3, 3, 4, 4, 4, 4, 4, 4, 4, 4, 5, 5, 5, 5, 5, 5, 5, 5, 5, 5, 5, 5, 5, 5, 5, 5, 6, 6, 6, 6, 6, 6, 6, 6, 6, 6, 6, 6, 6, 6, 6, 6, 6, 6, 6, 6, 6, 6, 6, 6, 6, 6, 6, 6, 6, 6, 6, 6, 7, 7, 7, 7, 7, 7, 7, 7, 7, 7, 7, 7, 7, 7, 7, 7, 7, 7, 7, 7, 7, 7, 7, 7, 7, 7, 7, 7, 7, 7, 7, 7, 7, 7, 7, 7, 7, 7, 7, 7, 7, 7, 7, 7, 7, 7, 7, 7, 7, 7, 7, 7, 7, 7, 7, 7, 7, 7, 7, 7, 7, 7, 7, 7, 8, 8, 8, 8, 8, 8, 8, 8, 8, 8, 8, 8, 8, 8, 8, 8, 8, 8, 8, 8, 8, 8, 8, 8, 8, 8, 8, 8, 8, 8, 8, 8, 8, 8, 8, 8, 8, 8, 8, 8, 8, 8, 8, 8, 8, 8, 8, 8, 8, 8, 8, 8, 8, 8, 8, 8, 8, 8, 8, 8, 8, 8, 8, 8, 8, 8, 8, 8, 8, 8, 8, 8, 8, 8, 8, 8, 8, 8, 8, 8, 8, 8, 8, 8, 8, 8, 8, 8, 8, 8, 8, 8, 8, 8, 8, 8, 8, 8, 8, 8, 8, 8, 8, 8, 8, 8, 8, 8, 8, 8, 8, 8, 8, 8, 8, 8, 8, 8, 8, 8, 8, 8, 8, 8, 8, 8, 8, 8] (IntKind.u8.wrap x_8)).bind fun x_10 =>
 some (G.addI (G.addI p2 8) (IntKind.i64.wrap x_10)) else (G.idxS [0, 1, 2, 2, 3, 3, 3, 3, 4, 4, 4, 4, 4, 4, 4, 4, 5, 5, 5, 5, 5, 5, 5, 5, 5, 5, 5, 5, 5, 5, 5, 5, 6, 6, 6, 6, 6, 6, 6, 6, 6, 6, 6, 6, 6, 6, 6, 6, 6, 6, 6, 6, 6, 6, 6, 6, 6, 6, 6, 6, 6, 6, 6, 6, 7, 7, 7, 7, 7, 7, 7, 7, 7, 7, 7, 7, 7, 7, 7, 7, 7, 7, 7, 7, 7, 7, 7, 7, 7, 7, 7, 7, 7, 7, 7, 7, 7, 7, 7, 7, 7, 7, 7, 7, 7, 7, 7, 7, 7, 7, 7, 7, 7, 7, 7, 7, 7, 7, 7, 7, 7, 7, 7, 7, 7, 7, 7, 7, 8, 8, 8, 8, 8, 8, 8, 8, 8, 8, 8, 8, 8, 8, 8, 8, 8, 8, 8, 8, 8, 8, 8, 8, 8, 8, 8, 8, 8, 8, 8, 8, 8, 8, 8, 8, 8, 8, 8, 8, 8, 8, 8, 8, 8, 8, 8, 8, 8, 8, 8, 8, 8, 8, 8, 8, 8, 8, 8, 8, 8, 8, 8, 8, 8, 8, 8, 8, 8, 8, 8, 8, 8, 8, 8, 8, 8, 8, 8, 8, 8, 8, 8, 8, 8, 8, 8, 8, 8, 8, 8, 8, 8, 8, 8, 8, 8, 8, 8, 8, 8, 8, 8, 8, 8, 8, 8, 8, 8, 8, 8, 8, 8, 8, 8, 8, 8, 8, 8, 8, 8, 8, 8, 8, 8, 8, 8, 8] (IntKind.u8.wrap p0)).bind fun x_12 =>
 some (G.addI p2 (IntKind.i64.wrap x_12)))
def au8 (p0 : Int) (p2 : Int) : Option Int :=
 (if p0 ≥ 65536 then (G.shrK .u64 p0 16).bind fun x_5 =>
 au7 x_5 (G.addI p2 16) else au7 p0 p2)
def ae0 (a0 : Int) : Option Int :=
 (if a0 ≥ 4294967296 then (G.shrK .u64 a0 32).bind fun x_2 =>
 au8 x_2 32 else au8 a0 0)
def af9 (a0 : Int) : Option Int :=
 (ae0 a0).bind fun x_1 =>
 some x_1
end
end Go.Proofs.YtbinfgmdamlkbaaGreatDoor
namespace Go.Proofs.YtbinfgmdamlkbaaGreatDoor
open Go.RowKit
noncomputable section
def ak2 (p0 : (List (List UInt8))) (p1 : Int) (p2 : Int) (p6 : Int) : Int → Option (Ctl Int Unit (Ctl Int Unit Unit)) := fun p7 =>
 (G.when (decide (p7 > p1)) (G.idx p0 p7) []).bind fun x_10 =>
 (G.when (decide (p7 > p1)) (G.idx p0 (G.subI p7 1)) []).bind fun x_29 =>
 (if decide (p7 > p1) = true then none else (if ((decide (p7 > p1)) && false) = true then (G.idx p0 (G.subI p7 1)).bind fun x_41 =>
 (G.idx p0 p7).bind fun x_45 =>
 (G.idx p0 p7).bind fun x_49 =>
 none else some (.brk ())))
def ag7 (p0 : (List (List UInt8))) (p1 : Int) (p2 : Int) : Int → Option (Ctl Int Unit Unit) := fun p6 =>
 (if p6 < p2 then (Loop (ak2 p0 p1 p2 p6) p6).bind fun o => (match o with
 | .brk _ => some (.nxt (G.addI p6 1))
 | .ret r => some r) else some (.brk ()))
def o8 (a0 : (List (List UInt8))) (a1 : Int) (a2 : Int) : Option Unit :=
 (Loop (ag7 a0 a1 a2) (G.addI a1 1)).bind fun o => (match o with
 | .brk _ => some ()
 | .ret r => some r)
def am8 (fu : Nat) (rec_slices_pdqsortOrdered_string : (List (List UInt8)) → Int → Int → Int → Option Unit) (p0 : (List (List UInt8))) (p1 : Int) (p2 : Int) (p3 : Int) (p8 : Bool) (p9 : Bool) (p10 : Int) : Option (Ctl (Int × Int × Int × Bool × Bool) Unit Unit) :=
 none
def ah2 (fu : Nat) (rec_slices_pdqsortOrdered_string : (List (List UInt8)) → Int → Int → Int → Option Unit) (p0 : (List (List UInt8))) : (Int × Int × Int × Bool × Bool) → Option (Ctl (Int × Int × Int × Bool × Bool) Unit Unit) := fun (p1, p2, p3, p8, p9) =>
 (if (G.subI p2 p1) ≤ 12 then (o8 p0 p1 p2).bind fun x_2 =>
 some (.ret ()) else (if p3 = 0 then none else (if (!p8) = true then none else am8 fu rec_slices_pdqsortOrdered_string p0 p1 p2 p3 p8 p9 (G.subI p2 p1))))
def af8 (fu : Nat) (rec_slices_pdqsortOrdered_string : (List (List UInt8)) → Int → Int → Int → Option Unit) (a0 : (List (List UInt8))) (a1 : Int) (a2 : Int) (a3 : Int) : Option Unit :=
 (Loop (ah2 fu rec_slices_pdqsortOrdered_string a0) (a1, a2, a3, true, true)).bind fun o => (match o with
 | .brk _ => some ()
 | .ret r => some r)
def o9 : Nat → (List (List UInt8)) → Int → Int → Int → Option Unit
 | 0, _, _, _, _ => none
 | fu + 1, a0, a1, a2, a3 => af8 fu (o9 fu) a0 a1 a2 a3
def aa5 (fu : Nat) (a0 : (List (List UInt8))) : Option Unit :=
 (af9 (IntKind.u64.wrap (a0.length : Int))).bind fun x_1 =>
 (o9 fu a0 0 (a0.length : Int) x_1).bind fun x_3 =>
 some ()
def am4 (p0 : (List (List UInt8))) (p4 : (List (List UInt8))) : (Int × Int) → Option (Ctl (Int × Int) Int (Ctl Int Unit (List (List UInt8)))) := fun (p3, p5) =>
 (if p5 < (p4.length : Int) then (G.idx p4 p5).bind fun x_19 =>
 (G.idx p4 (G.subI p5 1)).bind fun x_23 =>
 (if x_19 ≠ x_23 then (G.idx p4 p5).bind fun x_28 =>
 (G.idx p0 p3).bind fun x_32 =>
 none else some (.nxt (p3, (G.addI p5 1)))) else some (.brk p3))
def am9 (p0 : (List (List UInt8))) : Int → Option (Ctl Int Unit (List (List UInt8))) := fun p3 =>
 (if p3 < (p0.length : Int) then (G.idx p0 p3).bind fun x_5 =>
 (G.idx p0 (G.subI p3 1)).bind fun x_9 =>
 (if x_5 = x_9 then (G.subN p0 p3 p0.length).bind fun x_12 =>
 (Loop (am4 p0 x_12) (p3, 1)).bind fun o => (match o with
 | .brk p3b_36 => (G.subN p0 p3b_36 p0.length).bind fun x_37 =>
 none
 | .ret r => some r) else some (.nxt (G.addI p3 1))) else some (.brk ()))
def x9 (a0 : (List (List UInt8))) : Option (List (List UInt8)) :=
 (if (a0.length : Int) < 2 then some a0 else (Loop (am9 a0) 1).bind fun o => (match o with
 | .brk _ => some a0
 | .ret r => some r))
def ai0 (a0 : (List (List UInt8))) : Option (List (List UInt8)) :=
 none
end
end Go.Proofs.YtbinfgmdamlkbaaGreatDoor
namespace Go.Proofs.YtbinfgmdamlkbaaGreatDoor
open Go.RowKit
noncomputable section
def au2 (fu : Nat) (p10 : (List D.ao2)) (p11 : Int) : ((List (List UInt8)) × Int) → Option (Ctl ((List (List UInt8)) × Int) (List (List UInt8)) (List (List UInt8))) := fun (p3, p12) =>
 (if p12 < p11 then (G.idx p10 p12).bind fun x_12 =>
 (if x_12.Command.Name = 119 then (G.app p3 [x_12.Command.Arg]).bind fun x_30 =>
 some (.nxt (x_30, (G.addI p12 1))) else (if x_12.Command.Sub.File ≠ [] then (G.app p3 [x_12.Command.Sub.File]).bind fun x_38 =>
 some (.nxt (x_38, (G.addI p12 1))) else some (.nxt (p3, (G.addI p12 1))))) else some (.brk p3))
def aa9 (fu : Nat) (a0 : (Option D.ab9)) : Option (List (List UInt8)) :=
 (a0).bind fun x_3 =>
 (Loop (au2 fu x_3.Ops (x_3.Ops.length : Int)) ([], 0)).bind fun o => (match o with
 | .brk p3b_44 => (aa5 fu p3b_44).bind fun x_45 =>
 (x9 p3b_44).bind fun x_47 =>
 some x_47
 | .ret r => some r)
end
end Go.Proofs.YtbinfgmdamlkbaaGreatDoor
namespace Go.Proofs.YtbinfgmdamlkbaaGreatDoor
open Go.RowKit
noncomputable section
def ad3 (a0 : D.o5) : Option Bool :=
 some (decide (a0.state.Line = (a0.input.length : Int)))
def ab8 (a0 : D.o5) : Option (D.o5 × List UInt8 × Bool) :=
 (ad3 a0).bind fun x_21 =>
 (if x_21 = true then some ((D.o5.mk a0.f a0.regexes a0.input a0.files a0.out (D.y7.mk a0.state.Op a0.state.Pattern a0.state.Hold a0.state.Flag a0.state.Line a0.state.Ranges a0.state.Queue true)), [], false) else (G.idx a0.input (G.subI (G.addI a0.state.Line 1) 1)).bind fun x_62 =>
 some ((D.o5.mk a0.f a0.regexes a0.input a0.files a0.out (D.y7.mk a0.state.Op a0.state.Pattern a0.state.Hold a0.state.Flag (G.addI a0.state.Line 1) a0.state.Ranges a0.state.Queue a0.state.Done)), x_62, true))
def aa7 (a0 : D.o5) : Option D.o5 :=
 (ab8 a0).bind fun x_21 =>
 (if x_21.2.2 = true then some (D.o5.mk x_21.1.f x_21.1.regexes x_21.1.input x_21.1.files x_21.1.out (D.y7.mk 0 x_21.2.1 x_21.1.state.Hold false x_21.1.state.Line x_21.1.state.Ranges x_21.1.state.Queue x_21.1.state.Done)) else some x_21.1)
def aW1 (fu : Nat) (p0 : (Option D.ab9)) (p1 : (List (List UInt8))) (p22 : (List D.av8)) (p23 : Int) : (D.o5 × D.y5 × Int) → Option (Ctl (D.o5 × D.y5 × Int) (D.o5 × D.y5) (D.y5 × D.o5)) := fun (q_i6, q_i0, p24) =>
 (if p24 < p23 then (G.idx p22 p24).bind fun x_31 =>
 none else some (.brk (q_i6, q_i0)))
def az1 (fu : Nat) (p0 : (Option D.ab9)) (p40 : (List (List UInt8))) (p41 : Int) : (D.o5 × D.y5 × Int) → Option (Ctl (D.o5 × D.y5 × Int) (D.o5 × D.y5) (D.y5 × D.o5)) := fun (q_i6, q_i0, p42) =>
 (if p42 < p41 then (G.idx p40 p42).bind fun x_45 =>
 (am2 x_45).bind fun x_47 =>
 (G.app q_i6.input x_47).bind fun x_51 =>
 some (.nxt ((D.o5.mk q_i6.f q_i6.regexes x_51 q_i6.files q_i6.out q_i6.state), q_i0, (G.addI p42 1))) else some (.brk (q_i6, q_i0)))
def aW5 (fu : Nat) (p0 : (Option D.ab9)) (p58 : (List (List UInt8))) (p59 : Int) : (D.o5 × D.y5 × Int) → Option (Ctl (D.o5 × D.y5 × Int) (D.o5 × D.y5) (D.y5 × D.o5)) := fun (q_i6, q_i0, p60) =>
 (if p60 < p59 then (G.idx p58 p60).bind fun x_67 =>
 none else some (.brk (q_i6, q_i0)))
def ac6 (fu : Nat) (a0 : (Option D.ab9)) (a1 : (List (List UInt8))) (a2 : D.y5) : Option (D.y5 × D.o5) :=
 (ad6 a2).bind fun x_6 =>
 (a0).bind fun x_22 =>
 (Loop (aW1 fu a0 a1 x_22.Programs (x_22.Programs.length : Int)) ((D.o5.mk a0 [] [] x_6.2 [] (D.y7.mk 0 [] [] false 0 [] [] false)), x_6.1, 0)).bind fun o => (match o with
 | .brk (q_i6b_41, q_i0b_41) => (Loop (az1 fu a0 a1 (a1.length : Int)) (q_i6b_41, q_i0b_41, 0)).bind fun o => (match o with
 | .brk (q_i6b_59, q_i0b_59) => (aa9 fu a0).bind fun x_60 =>
 (Loop (aW5 fu a0 x_60 (x_60.length : Int)) (q_i6b_59, q_i0b_59, 0)).bind fun o => (match o with
 | .brk (q_i6b_71, q_i0b_71) => (a0).bind fun x_74 =>
 (G.make x_74.Ranges 0).bind fun x_78 =>
 (aa7 (D.o5.mk q_i6b_71.f q_i6b_71.regexes q_i6b_71.input q_i6b_71.files q_i6b_71.out (D.y7.mk q_i6b_71.state.Op q_i6b_71.state.Pattern q_i6b_71.state.Hold q_i6b_71.state.Flag q_i6b_71.state.Line x_78 q_i6b_71.state.Queue q_i6b_71.state.Done))).bind fun x_85 =>
 some (q_i0b_71, x_85)
 | .ret r => some r)
 | .ret r => some r)
 | .ret r => some r)
def ab1 (a0 : D.o5) : Option D.y7 :=
 (G.emp a0.state.Ranges).bind fun _ =>
 (ag6 a0.state.Ranges).bind fun x_28 =>
 (ab4 a0.state.Queue).bind fun x_33 =>
 some (D.y7.mk a0.state.Op a0.state.Pattern a0.state.Hold a0.state.Flag a0.state.Line x_28 x_33 a0.state.Done)
def ac7 (a0 : D.o5) (a1 : List UInt8) : Option D.o5 :=
 (G.app a0.out a1).bind fun x_20 =>
 (G.appB x_20 10).bind fun x_27 =>
 some (D.o5.mk a0.f a0.regexes a0.input a0.files x_27 a0.state)
def aq3 (p11 : Int) : (D.o5 × Int) → Option (Ctl (D.o5 × Int) D.o5 D.o5) := fun (q_i0, p12) =>
 (if p12 < p11 then (G.idx q_i0.state.Queue p12).bind fun x_25 =>
 (if (!x_25.File) = true then (G.app q_i0.out x_25.Text).bind fun x_32 =>
 some (.nxt ((D.o5.mk q_i0.f q_i0.regexes q_i0.input q_i0.files x_32 q_i0.state), (G.addI p12 1))) else none) else some (.brk q_i0))
def aa3 (a0 : D.o5) : Option D.o5 :=
 (Loop (aq3 (a0.state.Queue.length : Int)) (a0, 0)).bind fun o => (match o with
 | .brk q_i0b_41 => some (D.o5.mk q_i0b_41.f q_i0b_41.regexes q_i0b_41.input q_i0b_41.files q_i0b_41.out (D.y7.mk q_i0b_41.state.Op q_i0b_41.state.Pattern q_i0b_41.state.Hold q_i0b_41.state.Flag q_i0b_41.state.Line q_i0b_41.state.Ranges [] q_i0b_41.state.Done))
 | .ret r => some r)
def ac4 (a0 : D.o5) : Option D.o5 :=
 (a0.f).bind fun x_22 =>
 (if (!x_22.Quiet) = true then (ac7 a0 a0.state.Pattern).bind fun x_28 =>
 (aa3 x_28).bind fun x_33 =>
 some x_33 else (aa3 a0).bind fun x_39 =>
 some x_39)
def ad2 (a0 : D.o5) (a1 : D.ao2) : Option (D.o5 × Bool) :=
 (if a1.Range ≥ 0 then none else (if a1.Command.Guard.A.Kind ≠ 0 then none else some (a0, (!a1.Command.Guard.Not))))
def aq1 (jq_i8 : D.ao2) (jq_i0 : D.o5) (jp144 : Bool) : Option (D.o5 × Bool) :=
 (if jp144 = true then (if (decide (jq_i0.state.Flag = (decide (jq_i8.Command.Name = 116))) != false) = true then some ((D.o5.mk jq_i0.f jq_i0.regexes jq_i0.input jq_i0.files jq_i0.out (D.y7.mk jq_i8.To jq_i0.state.Pattern jq_i0.state.Hold false jq_i0.state.Line jq_i0.state.Ranges jq_i0.state.Queue jq_i0.state.Done)), true) else some ((D.o5.mk jq_i0.f jq_i0.regexes jq_i0.input jq_i0.files jq_i0.out (D.y7.mk (G.addI jq_i0.state.Op 1) jq_i0.state.Pattern jq_i0.state.Hold false jq_i0.state.Line jq_i0.state.Ranges jq_i0.state.Queue jq_i0.state.Done)), true)) else some (jq_i0, false))
def ab5 (a0 : D.o5) (a1 : D.ao2) : Option (D.o5 × Bool) :=
 (if a1.Command.Name = 100 then none else (if a1.Command.Name = 68 then none else (if a1.Command.Name = 99 then (if ((decide (a1.Range < 0)) || a1.Command.Guard.Not) = true then (if (((decide (a1.Range < 0)) || a1.Command.Guard.Not) || false) = true then (G.app a0.out a1.Command.Arg).bind fun x_65 =>
 none else none) else (G.idx a0.state.Ranges a1.Range).bind fun x_72 =>
 (if (((decide (a1.Range < 0)) || a1.Command.Guard.Not) || (decide (x_72 = 0))) = true then (G.app a0.out a1.Command.Arg).bind fun x_79 =>
 none else none)) else (if a1.Command.Name = 113 then (ac4 a0).bind fun x_88 =>
 some ((D.o5.mk x_88.f x_88.regexes x_88.input x_88.files x_88.out (D.y7.mk x_88.state.Op x_88.state.Pattern x_88.state.Hold x_88.state.Flag x_88.state.Line x_88.state.Ranges x_88.state.Queue true)), true) else (if a1.Command.Name = 81 then some ((D.o5.mk a0.f a0.regexes a0.input a0.files a0.out (D.y7.mk a0.state.Op a0.state.Pattern a0.state.Hold a0.state.Flag a0.state.Line a0.state.Ranges a0.state.Queue true)), true) else (if a1.Command.Name = 110 then (ac4 a0).bind fun x_115 =>
 (ab8 x_115).bind fun x_120 =>
 (if x_120.2.2 = true then some ((D.o5.mk x_120.1.f x_120.1.regexes x_120.1.input x_120.1.files x_120.1.out (D.y7.mk (G.addI x_120.1.state.Op 1) x_120.2.1 x_120.1.state.Hold x_120.1.state.Flag x_120.1.state.Line x_120.1.state.Ranges x_120.1.state.Queue x_120.1.state.Done)), true) else some (x_120.1, true)) else (if a1.Command.Name = 78 then (aa3 a0).bind fun x_146 =>
 (ab8 x_146).bind fun x_151 =>
 (if x_151.2.2 = true then (G.catS [10] x_151.2.1).bind fun x_174 =>
 (G.catS x_151.1.state.Pattern x_174).bind fun x_176 =>
 some ((D.o5.mk x_151.1.f x_151.1.regexes x_151.1.input x_151.1.files x_151.1.out (D.y7.mk (G.addI x_151.1.state.Op 1) x_176 x_151.1.state.Hold x_151.1.state.Flag x_151.1.state.Line x_151.1.state.Ranges x_151.1.state.Queue x_151.1.state.Done)), true) else some (x_151.1, true)) else (if a1.Command.Name = 98 then some ((D.o5.mk a0.f a0.regexes a0.input a0.files a0.out (D.y7.mk a1.To a0.state.Pattern a0.state.Hold a0.state.Flag a0.state.Line a0.state.Ranges a0.state.Queue a0.state.Done)), true) else (if a1.Command.Name = 116 then aq1 a1 a0 (decide (a1.Command.Name = 116)) else aq1 a1 a0 (decide (a1.Command.Name = 84)))))))))))
def ad9 (a0 : D.o5) (a1 : D.ao2) : Option D.o5 :=
 (if a1.Command.Name = 103 then some (D.o5.mk a0.f a0.regexes a0.input a0.files a0.out (D.y7.mk a0.state.Op a0.state.Hold a0.state.Hold a0.state.Flag a0.state.Line a0.state.Ranges a0.state.Queue a0.state.Done)) else (if a1.Command.Name = 71 then (G.catS [10] a0.state.Hold).bind fun x_33 =>
 (G.catS a0.state.Pattern x_33).bind fun x_35 =>
 some (D.o5.mk a0.f a0.regexes a0.input a0.files a0.out (D.y7.mk a0.state.Op x_35 a0.state.Hold a0.state.Flag a0.state.Line a0.state.Ranges a0.state.Queue a0.state.Done)) else (if a1.Command.Name = 104 then some (D.o5.mk a0.f a0.regexes a0.input a0.files a0.out (D.y7.mk a0.state.Op a0.state.Pattern a0.state.Pattern a0.state.Flag a0.state.Line a0.state.Ranges a0.state.Queue a0.state.Done)) else (if a1.Command.Name = 72 then (G.catS [10] a0.state.Pattern).bind fun x_41 =>
 (G.catS a0.state.Hold x_41).bind fun x_43 =>
 some (D.o5.mk a0.f a0.regexes a0.input a0.files a0.out (D.y7.mk a0.state.Op a0.state.Pattern x_43 a0.state.Flag a0.state.Line a0.state.Ranges a0.state.Queue a0.state.Done)) else (if a1.Command.Name = 120 then some (D.o5.mk a0.f a0.regexes a0.input a0.files a0.out (D.y7.mk a0.state.Op a0.state.Hold a0.state.Pattern a0.state.Flag a0.state.Line a0.state.Ranges a0.state.Queue a0.state.Done)) else (if a1.Command.Name = 122 then some (D.o5.mk a0.f a0.regexes a0.input a0.files a0.out (D.y7.mk a0.state.Op [] a0.state.Hold a0.state.Flag a0.state.Line a0.state.Ranges a0.state.Queue a0.state.Done)) else (if a1.Command.Name = 121 then none else (if a1.Command.Name = 115 then none else some a0))))))))
def ad8 (a0 : D.o5) (a1 : D.ao2) : Option D.o5 :=
 (if a1.Command.Name = 61 then none else (if a1.Command.Name = 97 then (G.app a0.state.Queue [(D.an4.mk false a1.Command.Arg)]).bind fun x_38 =>
 some (D.o5.mk a0.f a0.regexes a0.input a0.files a0.out (D.y7.mk a0.state.Op a0.state.Pattern a0.state.Hold a0.state.Flag a0.state.Line a0.state.Ranges x_38 a0.state.Done)) else (if a1.Command.Name = 114 then (G.app a0.state.Queue [(D.an4.mk true a1.Command.Arg)]).bind fun x_52 =>
 some (D.o5.mk a0.f a0.regexes a0.input a0.files a0.out (D.y7.mk a0.state.Op a0.state.Pattern a0.state.Hold a0.state.Flag a0.state.Line a0.state.Ranges x_52 a0.state.Done)) else (if a1.Command.Name = 105 then (G.app a0.out a1.Command.Arg).bind fun x_60 =>
 some (D.o5.mk a0.f a0.regexes a0.input a0.files x_60 a0.state) else (if a1.Command.Name = 108 then none else (if a1.Command.Name = 112 then (ac7 a0 a0.state.Pattern).bind fun x_71 =>
 some x_71 else (if a1.Command.Name = 80 then none else (if a1.Command.Name = 119 then none else some a0))))))))
def ab3 (a0 : D.o5) : Option (D.o5 × Bool) :=
 (if a0.state.Done = true then some (a0, false) else (a0.f).bind fun x_24 =>
 (if a0.state.Op ≥ (x_24.Ops.length : Int) then (ac4 a0).bind fun x_32 =>
 (aa7 x_32).bind fun x_37 =>
 some (x_37, true) else (a0.f).bind fun x_44 =>
 (G.idx x_44.Ops a0.state.Op).bind fun x_52 =>
 (ad2 a0 x_52).bind fun x_67 =>
 (if (!x_67.2) = true then some ((D.o5.mk x_67.1.f x_67.1.regexes x_67.1.input x_67.1.files x_67.1.out (D.y7.mk x_52.Else x_67.1.state.Pattern x_67.1.state.Hold x_67.1.state.Flag x_67.1.state.Line x_67.1.state.Ranges x_67.1.state.Queue x_67.1.state.Done)), true) else (ab5 x_67.1 x_52).bind fun x_91 =>
 (if (!x_91.2) = true then (ad9 (D.o5.mk x_91.1.f x_91.1.regexes x_91.1.input x_91.1.files x_91.1.out (D.y7.mk (G.addI x_91.1.state.Op 1) x_91.1.state.Pattern x_91.1.state.Hold x_91.1.state.Flag x_91.1.state.Line x_91.1.state.Ranges x_91.1.state.Queue x_91.1.state.Done)) x_52).bind fun x_115 =>
 (ad8 x_115 x_52).bind fun x_120 =>
 some (x_120, true) else some (x_91.1, true)))))
def ae1 (a0 : D.o5) : Option (List UInt8) :=
 some a0.out
def ac5 (a0 : D.o5) : Option (D.o5 × D.y5) :=
 (ad6 a0.files).bind fun x_20 =>
 some ((D.o5.mk a0.f a0.regexes a0.input x_20.1 a0.out a0.state), x_20.2)
end
end Go.Proofs.YtbinfgmdamlkbaaGreatDoor
namespace Go.Proofs.YtbinfgmdamlkbaaGreatDoor
open Go.RowKit
noncomputable section
def cu2 (p0 : List UInt8) (p7 : Int) : ((List (List UInt8)) × Int × Int) → Option (Ctl ((List (List UInt8)) × Int × Int) ((List (List UInt8)) × Int) (List (List UInt8))) := fun (p3, p4, p8) =>
 (if p8 < p7 then (G.idxS p0 p8).bind fun x_2 =>
 (if x_2 = 10 then (G.subS p0 p4 p8).bind fun x_5 =>
 (G.app p3 [x_5]).bind fun x_10 =>
 some (.nxt (x_10, (G.addI p8 1), (G.addI p8 1))) else some (.nxt (p3, p4, (G.addI p8 1)))) else some (.brk (p3, p4)))
def aL3 (a0 : List UInt8) : Option (List (List UInt8)) :=
 (Loop (cu2 a0 (a0.length : Int)) ([], 0, 0)).bind fun o => (match o with
 | .brk (p3b_16, p4b_16) => (G.subS a0 p4b_16 a0.length).bind fun x_17 =>
 (G.app p3b_16 [x_17]).bind fun x_22 =>
 some x_22
 | .ret r => some r)
def cr7 (p0 : (List D.aB1)) (p3 : (List D.aB1)) (p4 : Int) (p8 : Int) (p9 : Int) (p17 : Int) : ((List (List UInt8)) × Int) → Option (Ctl ((List (List UInt8)) × Int) (List (List UInt8)) (Ctl ((List D.aB1) × Int) (List D.aB1) (List D.aB1))) := fun (p5, p18) =>
 (if p18 < p17 then (G.idx p0 p4).bind fun x_13 =>
 (G.idx x_13.Lines p18).bind fun x_21 =>
 (aL3 x_21).bind fun x_23 =>
 (G.app p5 x_23).bind fun x_27 =>
 some (.nxt (x_27, (G.addI p18 1))) else some (.brk p5))
def cq0 (p0 : (List D.aB1)) (p8 : Int) : ((List D.aB1) × Int) → Option (Ctl ((List D.aB1) × Int) (List D.aB1) (List D.aB1)) := fun (p3, p9) =>
 (if p9 < p8 then (G.idx p0 p9).bind fun x_4 =>
 (Loop (cr7 p0 p3 p9 p8 p9 (x_4.Lines.length : Int)) ([], 0)).bind fun o => (match o with
 | .brk p5b_33 => (G.idx p0 p9).bind fun x_36 =>
 none
 | .ret r => some r) else some (.brk p3))
def aP4 (a0 : (List D.aB1)) : Option (List D.aB1) :=
 (Loop (cq0 a0 (a0.length : Int)) ([], 0)).bind fun o => (match o with
 | .brk p3b_42 => some p3b_42
 | .ret r => some r)
end
end Go.Proofs.YtbinfgmdamlkbaaGreatDoor
namespace Go.Proofs.YtbinfgmdamlkbaaGreatDoor
open Go.RowKit
noncomputable section
def az3 (a0 : D.am7) : Option D.am7 :=
 (if a0.S.Line = (a0.Input.length : Int) then some { a0 with S := { a0.S with Done := true } } else (G.idx a0.Input a0.S.Line).bind fun x_20 =>
 (some { a0 with S := { { a0.S with Pattern := x_20 } with Line := (G.addI a0.S.Line 1) } }).bind fun q_28 =>
 some { q_28 with S := { { q_28.S with Flag := false } with Op := 0 } })
def cj6 (p1 : (List (List UInt8))) (p16 : Int) (q3 : D.ax6) (q6 : D.am7) : (Int × D.am7) → Option (Ctl (Int × D.am7) D.am7 D.am7) := fun (p17, q7) =>
 (if p17 < p16 then (G.idx p1 p17).bind fun x_26 =>
 (aL3 x_26).bind fun x_28 =>
 (G.app q7.Input x_28).bind fun x_32 =>
 some (.nxt ((G.addI p17 1), { q7 with Input := x_32 })) else some (.brk q7))
def ct5 (p32 : Int) (p33 : Int) (q3 : D.ax6) (q6 : D.am7) (q7 : D.am7) (q10 : D.cw5) : Option (Ctl (Int × D.am7) D.am7 D.am7) :=
 (if q10.Sub.File ≠ [] then none else some (.nxt ((G.addI p33 1), q7)))
def cm7 (p32 : Int) (q3 : D.ax6) (q6 : D.am7) : (Int × D.am7) → Option (Ctl (Int × D.am7) D.am7 D.am7) := fun (p33, q7) =>
 (if p33 < p32 then (G.idx q3.Ops p33).bind fun x_53 =>
 (if x_53.Command.Name = 119 then none else ct5 p32 p33 q3 q6 q7 x_53.Command) else some (.brk q7))
def ci4 (p64 : Int) (q6 : D.am7) : (Int × D.am7) → Option (Ctl (Int × D.am7) D.am7 D.am7) := fun (p65, q7) =>
 (if p65 < p64 then (G.app q7.S.Ranges [0]).bind fun x_81 =>
 some (.nxt ((G.addI p65 1), { q7 with S := { q7.S with Ranges := x_81 } })) else some (.brk q7))
def aP8 (a0 : D.ax6) (a1 : (List (List UInt8))) (a2 : (List D.aB1)) : Option D.am7 :=
 (aP4 a2).bind fun x_5 =>
 (Loop (cj6 a1 (a1.length : Int) a0 (D.am7.mk (D.ax6.mk false [] [] [] 0) [] [] [] (D.bW1.mk 0 [] [] false 0 [] [] false))) (0, (D.am7.mk a0 [] x_5 [] (D.bW1.mk 0 [] [] false 0 [] [] false)))).bind fun o => (match o with
 | .brk q7b_43 => (Loop (cm7 (a0.Ops.length : Int) a0 (D.am7.mk (D.ax6.mk false [] [] [] 0) [] [] [] (D.bW1.mk 0 [] [] false 0 [] [] false))) (0, q7b_43)).bind fun o => (match o with
 | .brk q7b_73 => (Loop (ci4 a0.Ranges (D.am7.mk (D.ax6.mk false [] [] [] 0) [] [] [] (D.bW1.mk 0 [] [] false 0 [] [] false))) (0, q7b_73)).bind fun o => (match o with
 | .brk q7b_92 => (az3 q7b_92).bind fun x_95 =>
 some x_95
 | .ret r => some r)
 | .ret r => some r)
 | .ret r => some r)
end
end Go.Proofs.YtbinfgmdamlkbaaGreatDoor
namespace Go.Proofs.YtbinfgmdamlkbaaGreatDoor
open Go.RowKit
noncomputable section
def cp7 (p0 : (List (List UInt8))) (p5 : (List (List UInt8))) (p6 : Int) : Int → Option (Ctl Int Unit Bool) := fun p7 =>
 (if p7 < p6 then (G.idx p5 p7).bind fun x_4 =>
 (if (x_4.length : Int) > 8 then some (.ret false) else some (.nxt (G.addI p7 1))) else some (.brk ()))
def aP9 (a0 : (List (List UInt8))) : Option Bool :=
 (Loop (cp7 a0 a0 (a0.length : Int)) 0).bind fun o => (match o with
 | .brk _ => some (decide ((a0.length : Int) ≤ 6))
 | .ret r => some r)
def bI3 (fu : Nat) (p0 : (List (List UInt8))) (p6 : List UInt8) (p7 : Int) (p27 : Int) : (List UInt8 × Int) → Option (Ctl (List UInt8 × Int) (List UInt8) Bool) := fun (p5, p28) =>
 (if p28 < p27 then (G.subS [97, 98, 99, 100, 101] p28 (G.addI p28 1)).bind fun x_18 =>
 (G.catS [58] x_18).bind fun x_20 =>
 (G.catS x_20 [10]).bind fun x_22 =>
 (G.catS p5 x_22).bind fun x_24 =>
 some (.nxt (x_24, (G.addI p28 1))) else some (.brk p5))
def bE9 (fu : Nat) (p7 : Int) (p13 : (List (List UInt8))) (p60 : (List (List UInt8))) (p61 : Int) : (D.o5 × List UInt8 × Int) → Option (Ctl (D.o5 × List UInt8 × Int) (D.o5 × List UInt8) Bool) := fun (q_i5, p6, p62) =>
 (if p62 < p61 then (G.idx p60 p62).bind fun x_108 =>
 (G.catS x_108 [10]).bind fun x_110 =>
 (G.catS p6 x_110).bind fun x_112 =>
 some (.nxt (q_i5, x_112, (G.addI p62 1))) else some (.brk (q_i5, p6)))
def bE4 (fu : Nat) (p6 : List UInt8) (p75 : Int) : (D.o5 × Int) → Option (Ctl (D.o5 × Int) D.o5 Bool) := fun (q_i5, p76) =>
 (if p76 < p75 then (ab1 q_i5).bind fun x_119 =>
 (if x_119.Done = true then (if (x_119.Done || false) = true then some (.ret false) else some (.nxt (q_i5, (G.addI p76 1)))) else (ab3 q_i5).bind fun x_150 =>
 (if (x_119.Done || (!x_150.2)) = true then some (.ret false) else some (.nxt (x_150.1, (G.addI p76 1))))) else some (.brk q_i5))
def ar9 (fu : Nat) (a0 : (List (List UInt8))) (a1 : Int) : Option Bool :=
 (aO3).bind fun x_1 =>
 (G.when (!(!x_1)) (aP9 a0) false).bind fun x_6 =>
 (if ((!x_1) || (!x_6)) = true then (aO3).bind fun x_15 =>
 some x_15 else (Loop (bI3 fu a0 [] (Int.tmod (IntKind.i64.wrap a1) 5) (Int.tmod (IntKind.i64.wrap a1) 5)) ([35, 32, 110, 111, 116, 104, 105, 110, 103, 10], 0)).bind fun o => (match o with
 | .brk p5b_28 => (aj8 p5b_28 false).bind fun x_29 =>
 (if (!x_29.2.2) = true then some false else (G.app [] a0).bind fun x_47 =>
 (af5 []).bind fun x_51 =>
 (ac6 fu x_29.1 x_47 x_51).bind fun x_58 =>
 (if false = true then some false else (aP8 x_29.2.1 a0 []).bind fun x_85 =>
 (Loop (bE9 fu (Int.tmod (IntKind.i64.wrap a1) 5) x_85.Input x_85.Input (x_85.Input.length : Int)) (x_58.2, [], 0)).bind fun o => (match o with
 | .brk (q_i5b_116, p6b_116) => (Loop (bE4 fu p6b_116 (G.mulI (x_85.Input.length : Int) (G.addI (Int.tmod (IntKind.i64.wrap a1) 5) 1))) (q_i5b_116, 0)).bind fun o => (match o with
 | .brk q_i5b_176 => (ab1 q_i5b_176).bind fun x_178 =>
 (if x_178.Done = true then (ae1 q_i5b_176).bind fun x_191 =>
 (if (x_178.Done && (decide (x_191 = p6b_116))) = true then (ab3 q_i5b_176).bind fun x_197 =>
 some ((x_178.Done && (decide (x_191 = p6b_116))) && (!x_197.2)) else some ((x_178.Done && (decide (x_191 = p6b_116))) && false)) else (if (x_178.Done && false) = true then (ab3 q_i5b_176).bind fun x_206 =>
 some ((x_178.Done && false) && (!x_206.2)) else some ((x_178.Done && false) && false)))
 | .ret r => some r)
 | .ret r => some r)))
 | .ret r => some r))
end
end Go.Proofs.YtbinfgmdamlkbaaGreatDoor
namespace Go.Proofs.YtbinfgmdamlkbaaGreatDoor
open Go.RowKit
noncomputable section
def aP7 (fu : Nat) (p3 : Int) : (D.o5 × D.ae4 × Int) → Option (Ctl (D.o5 × D.ae4 × Int) (D.o5 × D.ae4 × Int) (D.ae4 × Int)) := fun (q_i4, q_i1, p11) =>
 (if decide (p11 < p3) = true then (ab3 q_i4).bind fun x_20 =>
 (if ((decide (p11 < p3)) && x_20.2) = true then some (.nxt (x_20.1, q_i1, (G.addI p11 1))) else some (.brk (x_20.1, q_i1, p11))) else (if ((decide (p11 < p3)) && false) = true then some (.nxt (q_i4, q_i1, (G.addI p11 1))) else some (.brk (q_i4, q_i1, p11))))
def as5 (fu : Nat) (a0 : (Option D.ab9)) (a1 : (List (List UInt8))) (a2 : (List D.aj7)) (a3 : Int) : Option (D.ae4 × Int) :=
 (af5 a2).bind fun x_2 =>
 (ac6 fu a0 a1 x_2).bind fun x_8 =>
 (Loop (aP7 fu a3) (x_8.2, (D.ae4.mk [] [] 0), 0)).bind fun o => (match o with
 | .brk (q_i4b_31, q_i1b_31, p11b_31) => (ab1 q_i4b_31).bind fun x_32 =>
 (if (!x_32.Done) = true then some ((D.ae4.mk ((D.ae4.mk [] [] 0).Out) ((D.ae4.mk [] [] 0).Files) ((D.ae4.mk [] [] 0).Steps)), 21) else (ae1 q_i4b_31).bind fun x_48 =>
 (ac5 q_i4b_31).bind fun x_50 =>
 (ag8 x_50.2).bind fun x_57 =>
 some ((D.ae4.mk ((D.ae4.mk x_48 x_57 p11b_31).Out) ((D.ae4.mk x_48 x_57 p11b_31).Files) ((D.ae4.mk x_48 x_57 p11b_31).Steps)), 0))
 | .ret r => some r)
def ap3 (fu : Nat) (a0 : List UInt8) (a1 : D.ak3) (a2 : (List (List UInt8))) (a3 : Int) : Option (List UInt8 × Int × Int) :=
 (au9 a0 a1).bind fun x_4 =>
 (if x_4.2.2.2 ≠ 0 then some ([], x_4.2.2.1, x_4.2.2.2) else (as5 fu x_4.1 a2 [] a3).bind fun x_11 =>
 some (x_11.1.Out, 0, x_11.2))
end
end Go.Proofs.YtbinfgmdamlkbaaGreatDoor
namespace Go.Proofs.YtbinfgmdamlkbaaGreatDoor
open Go.RowKit
noncomputable section
def am6 (fu : Nat) (p0 : (List (List UInt8))) (p1 : Bool) (p6 : Int) (p24 : (List (List UInt8))) (p25 : Int) : (List UInt8 × Int) → Option (Ctl (List UInt8 × Int) (List UInt8) Bool) := fun (p5, p26) =>
 (if p26 < p25 then (G.idx p24 p26).bind fun x_18 =>
 (if (x_18.length : Int) > 100 then some (.ret true) else (G.catS x_18 [10]).bind fun x_21 =>
 (G.catS p5 x_21).bind fun x_23 =>
 some (.nxt (x_23, (G.addI p26 1)))) else some (.brk p5))
def am5 (fu : Nat) (p0 : (List (List UInt8))) (p1 : Bool) (p5 : List UInt8) (p39 : Int) : (Int × Int) → Option (Ctl (Int × Int) Int Bool) := fun (p6, p40) =>
 (if p40 < p39 then (G.idxS p5 p40).bind fun x_29 =>
 (if x_29 = 10 then some (.nxt ((G.addI p6 1), (G.addI p40 1))) else some (.nxt (p6, (G.addI p40 1)))) else some (.brk p6))
def ap1 (fu : Nat) (p0 : (List (List UInt8))) (p1 : Bool) (p5 : List UInt8) (p6 : Int) : Option Bool :=
 (G.app [] p0).bind fun x_42 =>
 (ap3 fu [] (D.ak3.mk false p1) x_42 p6).bind fun x_46 =>
 (G.app [] p0).bind fun x_54 =>
 (ap3 fu [] (D.ak3.mk false p1) x_54 (G.subI p6 1)).bind fun x_58 =>
 some ((((decide (x_46.1 = p5)) && (decide (x_46.2.1 = 0))) && (decide (x_46.2.2 = 0))) && (decide ((decide (x_58.2.2 = 21)) = (decide (p6 > 0))) != false))
def aa6 (fu : Nat) (a0 : (List (List UInt8))) (a1 : Bool) : Option Bool :=
 (aH7).bind fun x_1 =>
 (if ((!x_1) || (decide ((a0.length : Int) > 20))) = true then (aH7).bind fun x_13 =>
 some x_13 else (Loop (am6 fu a0 a1 0 a0 (a0.length : Int)) ([], 0)).bind fun o => (match o with
 | .brk p5b_27 => (Loop (am5 fu a0 a1 p5b_27 (p5b_27.length : Int)) (0, 0)).bind fun o => (match o with
 | .brk p6b_34 => (if a1 = true then ap1 fu a0 a1 [] p6b_34 else ap1 fu a0 a1 p5b_27 p6b_34)
 | .ret r => some r)
 | .ret r => some r))
end
end Go.Proofs.YtbinfgmdamlkbaaGreatDoor
namespace Go.Proofs.YtbinfgmdamlkbaaGreatDoor
end Go.Proofs.YtbinfgmdamlkbaaGreatDoor
namespace Go.Proofs.YtbinfgmdamlkbaaGreatDoor
open Go.RowKit
theorem Loop_ind {σ β ρ : Type} {body : σ → Option (Ctl σ β ρ)} (I : Nat → σ → Prop) (Q : Out β ρ → Prop)
  (h : ∀ k s, I k s → (∃ s' j, body s = some (.nxt s') ∧ j < k ∧ I j s') ∨ (∃ b, body s = some (.brk b) ∧ Q (.brk b)) ∨ (∃ r, body s = some (.ret r) ∧ Q (.ret r))) : ∀ k s, I k s → ∃ o, Loop body s = some o ∧ Q o := by
 intro k
 induction k using Nat.strongRecOn with
 | _ k ih =>
  intro s hI
  rcases h k s hI with ⟨s', j, h1, hj, h2⟩ | ⟨b, h1, h2⟩ | ⟨r, h1, h2⟩
  ·obtain ⟨o, k1, k2⟩ := ih j hj s' h2
   obtain ⟨n, hn⟩ := aO4.1 k1
   exact ⟨o, aO4.2 ⟨n + 1, by unfold bK3; rw [h1]; exact hn⟩, k2⟩
  ·exact ⟨_, aO4.2 ⟨1, by unfold bK3; rw [h1]⟩, h2⟩
  ·exact ⟨_, aO4.2 ⟨1, by unfold bK3; rw [h1]⟩, h2⟩
theorem bR8 {σ β ρ : Type} {body : σ → Option (Ctl σ β ρ)} (n : Nat) (I : Nat → σ → Prop) (Q : Out β ρ → Prop)
  (h : ∀ i s, i < n → I i s → (∃ s', body s = some (.nxt s') ∧ I (i + 1) s') ∨ (∃ b, body s = some (.brk b) ∧ Q (.brk b)) ∨ (∃ r, body s = some (.ret r) ∧ Q (.ret r)))
  (hn : ∀ s, I n s → (∃ b, body s = some (.brk b) ∧ Q (.brk b)) ∨ (∃ r, body s = some (.ret r) ∧ Q (.ret r))) {s : σ} (h0 : I 0 s) : ∃ o, Loop body s = some o ∧ Q o := by
 refine Loop_ind (fun k s => ∃ i, k = n - i ∧ i ≤ n ∧ I i s) Q ?_ n s ⟨0, rfl, Nat.zero_le _, h0⟩
 rintro k s ⟨i, rfl, hi, hI⟩
 rcases Nat.lt_or_ge i n with hlt | hge
 ·rcases h i s hlt hI with ⟨s', h1, h2⟩ | h1
  ·exact .inl ⟨s', n - (i + 1), h1, by omega, i + 1, rfl, hlt, h2⟩
  ·exact .inr h1
 ·obtain rfl : i = n := by omega
  exact .inr (hn s hI)
namespace G
theorem addI_eq {a b : Int} (h1 : -9223372036854775808 ≤ a + b) (h2 : a + b ≤ 9223372036854775807) : addI a b = a + b := wrap_i64 h1 h2
theorem c42 {a b : Int} (h1 : -9223372036854775808 ≤ a - b) (h2 : a - b ≤ 9223372036854775807) : subI a b = a - b := wrap_i64 h1 h2
theorem aW9 {i : Nat} (h : i < 9223372036854775807) : addI (i : Int) 1 = ((i + 1 : Nat) : Int) := by rw [addI_eq (by omega) (by omega)]; omega
theorem idx_nat {α : Type} (l : List α) (i : Nat) : idx l (i : Int) = l[i]? := by
 unfold idx
 rw [if_pos (by omega), Int.toNat_natCast]
theorem cZ8 {α : Type} (l : List α) (i : Nat) (h : i < l.length) : idx l (i : Int) = some l[i] := by rw [idx_nat, List.getElem?_eq_getElem h]
theorem cF2 {α : Type} {a b : List α} (h : a.length + b.length ≤ 1000000000) : app a b = some (a ++ b) := if_pos h
theorem c54 {a b : List UInt8} (h : a.length + b.length ≤ 9223372036854775807) : catS a b = some (a ++ b) := if_pos h
end G
theorem bF7 {α : Type} (l : List α) (i : Nat) (h : i < l.length) : l.take (i + 1) = l.take i ++ [l[i]] := by
 rw [List.take_add_one, List.getElem?_eq_getElem h]; rfl
end Go.Proofs.YtbinfgmdamlkbaaGreatDoor
namespace Go.Proofs.YtbinfgmdamlkbaaGreatDoor
open Go.RowKit
theorem cd3 : ∀ l : List UInt8, (cutL l).length ≤ l.length + 1
 | [] => Nat.le_refl _
 | c :: r => by
  have ih := cd3 r
  unfold cutL
  split
  ·simp only [List.length_cons]; omega
  ·split <;> rename_i h <;> rw [h] at ih <;> simp only [List.length_cons, List.length_nil] at * <;> omega
theorem ci9 : ∀ (l : List UInt8), ∀ s ∈ cutL l, s.length ≤ l.length
 | [], s, h => by simp [cutL] at h; subst h; exact Nat.le_refl _
 | c :: r, s, h => by
  have ih := ci9 r
  unfold cutL at h
  split at h
  ·rcases List.mem_cons.1 h with rfl | h
   ·simp
   ·have := ih s h; simp only [List.length_cons]; omega
  ·split at h <;> rename_i e <;> rw [e] at ih
   ·rename_i x t
    rcases List.mem_cons.1 h with rfl | h
    ·have := ih x (List.mem_cons_self ..); simp only [List.length_cons]; omega
    ·have := ih s (List.mem_cons_of_mem _ h); simp only [List.length_cons]; omega
   ·rcases List.mem_cons.1 h with rfl | h
    ·simp
    ·cases h
theorem idxS_at (l : List UInt8) (i : Nat) (h : i < l.length) : G.idxS l (i : Int) = some ((l[i].toNat : Nat) : Int) := by
 unfold G.idxS
 rw [if_pos (by omega), Int.toNat_natCast, List.getElem?_eq_getElem h]
 rfl
theorem cV0 (s : List UInt8) (hs : s.length ≤ 100000000) : am2 s = some (cutL s) := by
 unfold am2 strings_Split G.split
 rw [if_pos ⟨rfl, by omega⟩]
 rfl
end Go.Proofs.YtbinfgmdamlkbaaGreatDoor
namespace Go.Proofs.YtbinfgmdamlkbaaGreatDoor
open Go.RowKit
theorem bp7 {σ β ρ : Type} {body : σ → Option (Ctl σ β ρ)} {s : σ} {b : β} (h : body s = some (.brk b)) : Loop body s = some (.brk b) := aO4.2 ⟨1, by unfold bK3; rw [h]⟩
def told (l : List (List UInt8)) : List UInt8 := l.flatMap (· ++ [10])
theorem cj1 (l : List (List UInt8)) (i : Nat) (h : i < l.length) : told (l.take (i + 1)) = told (l.take i) ++ (l[i] ++ [10]) := by
 unfold told
 rw [bF7 l i h, List.flatMap_append]
 simp
def ag5 (a : List (List UInt8)) : List (List UInt8) := a.flatMap cutL
theorem all_next (a : List (List UInt8)) (i : Nat) (h : i < a.length) : ag5 (a.take (i + 1)) = ag5 (a.take i) ++ cutL a[i] := by
 unfold ag5
 rw [bF7 a i h, List.flatMap_append]
 simp
theorem cM9 (f : Option D.ab9) (rg : List (Option D.at6)) (ls : List (List UInt8)) (fl : D.y5) (out : List UInt8) (op : Int) (pat hold : List UInt8) (flag : Bool) (k : Nat) (hk : k < ls.length) (hl : ls.length ≤ 1000000) :
  aa7 (D.o5.mk f rg ls fl out (D.y7.mk op pat hold flag (k : Int) [] [] false)) = some (D.o5.mk f rg ls fl out (D.y7.mk 0 ls[k] hold false ((k + 1 : Nat) : Int) [] [] false)) := by
 unfold aa7 ab8 ad3
 simp only [Option.bind_some]
 have e : decide ((k : Int) = (ls.length : Int)) = false := decide_eq_false (by omega)
 rw [e, if_neg (by decide), G.aW9 (by omega), G.c42 (by omega) (by omega), show ((k + 1 : Nat) : Int) - 1 = (k : Int) by omega, G.cZ8 ls k hk]
 rfl
theorem c45 (f : Option D.ab9) (rg : List (Option D.at6)) (ls : List (List UInt8)) (fl : D.y5) (out : List UInt8) (op : Int) (pat hold : List UInt8) (flag : Bool) :
  aa7 (D.o5.mk f rg ls fl out (D.y7.mk op pat hold flag (ls.length : Int) [] [] false)) = some (D.o5.mk f rg ls fl out (D.y7.mk op pat hold flag (ls.length : Int) [] [] true)) := by
 unfold aa7 ab8 ad3
 simp only [Option.bind_some, decide_true, if_true]
 rfl
theorem cH6 (f : Option D.ab9) (rg : List (Option D.at6)) (ls : List (List UInt8)) (fl : D.y5) (out : List UInt8) (op : Int) (pat hold : List UInt8) (flag : Bool) (k : Int) (d : Bool) :
  ab1 (D.o5.mk f rg ls fl out (D.y7.mk op pat hold flag k [] [] d)) = some (D.y7.mk op pat hold flag k [] [] d) := by
 have h1 : ag6 [] = some [] := by decide +kernel
 have h2 : ab4 [] = some [] := by
  unfold ab4 G.clone
  exact G.cF2 (by simp)
 unfold ab1
 simp only
 rw [show G.emp ([] : List Int) = some () from rfl]
 simp only [Option.bind_some]
 rw [h1]
 simp only [Option.bind_some]
 rw [h2]
 rfl
theorem co6 (f : Option D.ab9) (rg : List (Option D.at6)) (ls : List (List UInt8)) (fl : D.y5) (out : List UInt8) (op : Int) (pat hold : List UInt8) (flag : Bool) (k : Int) :
  aa3 (D.o5.mk f rg ls fl out (D.y7.mk op pat hold flag k [] [] false)) = some (D.o5.mk f rg ls fl out (D.y7.mk op pat hold flag k [] [] false)) := by
 unfold aa3
 rw [bp7 (b := D.o5.mk f rg ls fl out (D.y7.mk op pat hold flag k [] [] false)) (by unfold aq3; simp)]
 rfl
end Go.Proofs.YtbinfgmdamlkbaaGreatDoor
namespace Go.Proofs.YtbinfgmdamlkbaaGreatDoor
open Go.RowKit
theorem cP2 : af5 [] = some (D.y5.mk []) := by
 unfold af5
 rw [bp7 (b := D.y5.mk []) (by unfold aR7; rfl)]
 rfl
theorem cG7 : ∃ a, ad6 (D.y5.mk []) = some (a, D.y5.mk []) := ⟨_, rfl⟩
theorem sort_nil (fu : Nat) : aa5 (fu + 1) [] = some () := by
 have h0 : af9 (IntKind.u64.wrap (([] : List (List UInt8)).length : Int)) = some 0 := by decide +kernel
 unfold aa5
 rw [h0]
 simp only [Option.bind_some]
 have h1 : o8 [] 0 0 = some () := by
  unfold o8
  rw [bp7 (b := ()) (by unfold ag7; rfl)]
  rfl
 have h2 : o9 (fu + 1) [] 0 (([] : List (List UInt8)).length : Int) 0 = some () := by
  show af8 fu _ [] 0 0 0 = _
  unfold af8
  have : Loop (ah2 fu (o9 fu) []) (0, 0, 0, true, true) = some (.ret ()) := aO4.2 ⟨1, by
   unfold bK3 ah2
   simp only
   rw [if_pos (by decide), h1]
   rfl⟩
  rw [this]
  rfl
 rw [h2]
 rfl
end Go.Proofs.YtbinfgmdamlkbaaGreatDoor
namespace Go.Proofs.YtbinfgmdamlkbaaGreatDoor
open Go.RowKit
theorem told_app (a b : List (List UInt8)) : told (a ++ b) = told a ++ told b := by unfold told; rw [List.flatMap_append]
theorem cE8 : ∀ s : List UInt8, told (cutL s) = s ++ [10]
 | [] => rfl
 | c :: r => by
  have ih := cE8 r
  unfold cutL
  split
  ·rename_i h; subst h
   show [] ++ [10] ++ told (cutL r) = _
   rw [ih]
   rfl
  ·split <;> rename_i h <;> rw [h] at ih
   ·rename_i x t
    have ih : (x ++ [10]) ++ told t = r ++ [10] := ih
    show ((c :: x) ++ [10]) ++ told t = _
    simp only [List.cons_append] at ih ⊢
    rw [ih]
   ·obtain ⟨x, t, e⟩ := cV5 r
    rw [h] at e
    cases e
theorem told_all (a : List (List UInt8)) : told (ag5 a) = told a := by
 induction a with
 | nil => rfl
 | cons s r ih =>
  show told (cutL s ++ ag5 r) = (s ++ [10]) ++ told r
  rw [told_app, cE8, ih]
def tens (l : List UInt8) : Nat := l.countP (· = 10)
theorem cF8 : ∀ s : List UInt8, (cutL s).length = tens s + 1
 | [] => rfl
 | c :: r => by
  have ih := cF8 r
  unfold cutL tens
  split
  ·rename_i h; subst h
   rw [List.length_cons, ih]
   simp [tens]
  ·rename_i hc
   split <;> rename_i h <;> rw [h] at ih
   ·rename_i x t
    simp only [List.length_cons] at ih ⊢
    rw [ih]
    simp [tens, hc]
   ·obtain ⟨x, t, e⟩ := cV5 r
    rw [h] at e
    cases e
theorem cP3 (a : List (List UInt8)) : tens (told a) = (ag5 a).length := by
 induction a with
 | nil => rfl
 | cons s r ih =>
  show tens ((s ++ [10]) ++ told r) = (cutL s ++ ag5 r).length
  rw [List.length_append, cF8, ← ih]
  simp [tens, List.countP_append]
  omega
structure cA2 (a : List (List UInt8)) : Prop where
 len : a.length ≤ 20
 each : ∀ s ∈ a, s.length ≤ 100
theorem bI0 {a : List (List UInt8)} (h : cA2 a) : (ag5 a).length ≤ 2020 ∧ ∀ s ∈ ag5 a, s.length ≤ 100 := by
 constructor
 ·have : ∀ l : List (List UInt8), (∀ s ∈ l, s.length ≤ 100) → (ag5 l).length ≤ 101 * l.length := by
   intro l
   induction l with
   | nil => intro _; simp [ag5]
   | cons x r ih =>
    intro h
    have h1 := h x (List.mem_cons_self ..)
    have h2 := cd3 x
    have := ih fun s hs => h s (List.mem_cons_of_mem _ hs)
    simp only [ag5, List.flatMap_cons, List.length_append, List.length_cons] at *
    omega
  have := this a h.each
  have := h.len
  omega
 ·intro s hs
  obtain ⟨x, hx, hs⟩ := List.mem_flatMap.1 hs
  have := ci9 x s hs
  have := h.each x hx
  omega
theorem c43 (a : List (List UInt8)) (h : cA2 a) (i : Nat) : (ag5 (a.take i)).length ≤ 2020 :=
 (bI0 ⟨Nat.le_trans (List.length_take_le' ..) h.len, fun s hs => h.each s (List.mem_of_mem_take hs)⟩).1
theorem bA8 (l : List (List UInt8)) (h : ∀ s ∈ l, s.length ≤ 100) : (told l).length ≤ 101 * l.length := by
 induction l with
 | nil => simp [told]
 | cons a r ih =>
  have h1 := h a (List.mem_cons_self ..)
  have := ih fun s hs => h s (List.mem_cons_of_mem _ hs)
  simp only [told, List.flatMap_cons, List.length_append, List.length_cons, List.length_nil] at *
  omega
def bQ9 (q : Bool) (l : List (List UInt8)) : List UInt8 := if q = true then [] else told l
inductive b85 (q : Bool) (ls : List (List UInt8)) : Nat → D.o5 → Prop
 | go {j : Nat} {rg : List (Option D.at6)} {hold : List UInt8} {flag : Bool} (hj : j < ls.length) : b85 q ls j (D.o5.mk (some (aU1 q)) rg ls (D.y5.mk []) (bQ9 q (ls.take j)) (D.y7.mk 0 ls[j] hold flag ((j + 1 : Nat) : Int) [] [] false))
 | done {rg : List (Option D.at6)} {op : Int} {pat hold : List UInt8} {flag : Bool} : b85 q ls ls.length (D.o5.mk (some (aU1 q)) rg ls (D.y5.mk []) (bQ9 q ls) (D.y7.mk op pat hold flag (ls.length : Int) [] [] true))
theorem ecycle (q : Bool) (ls : List (List UInt8)) (rg : List (Option D.at6)) (op : Int) (pat hold : List UInt8) (flag : Bool) (j : Nat) (hj : j ≤ ls.length) (hl : ls.length ≤ 1000000) :
  ∃ m, aa7 (D.o5.mk (some (aU1 q)) rg ls (D.y5.mk []) (bQ9 q (ls.take j)) (D.y7.mk op pat hold flag (j : Int) [] [] false)) = some m ∧ b85 q ls j m := by
 by_cases e : j = ls.length
 ·subst e
  refine ⟨_, c45 .., ?_⟩
  rw [List.take_length]
  exact .done
 ·exact ⟨_, cM9 _ _ _ _ _ _ _ _ _ j (by omega) hl, .go (by omega)⟩
theorem estate {q : Bool} {ls : List (List UInt8)} {j : Nat} {m : D.o5} (h : b85 q ls j m) : ∃ s, ab1 m = some s ∧ s.Done = decide (j = ls.length) := by
 cases h with
 | go hj => exact ⟨_, cH6 .., (decide_eq_false (by omega)).symm⟩
 | done => exact ⟨_, cH6 .., (decide_eq_true rfl).symm⟩
theorem estep {q : Bool} {ls : List (List UInt8)} {j : Nat} {m : D.o5} (h : b85 q ls j m) (hj : j < ls.length) (hl : ls.length ≤ 2020) (he : ∀ s ∈ ls, s.length ≤ 100) :
  ∃ m', ab3 m = some (m', true) ∧ b85 q ls (j + 1) m' := by
 cases h with
 | done => omega
 | @go _ rg hold flag _ =>
  unfold ab3
  rw [if_neg (by simp)]
  simp only [Option.bind_some]
  rw [if_pos (by exact Int.le_refl _)]
  have htl : (told (ls.take j)).length ≤ 300000 := by
   have := bA8 (ls.take j) fun s hs => he s (List.mem_of_mem_take hs)
   have := List.length_take_le j ls
   omega
  have h8 := he _ (List.getElem_mem hj)
  have hend : ac4 (D.o5.mk (some (aU1 q)) rg ls (D.y5.mk []) (bQ9 q (ls.take j)) (D.y7.mk 0 ls[j] hold flag ((j + 1 : Nat) : Int) [] [] false)) = some (D.o5.mk (some (aU1 q)) rg ls (D.y5.mk []) (bQ9 q (ls.take (j + 1))) (D.y7.mk 0 ls[j] hold flag ((j + 1 : Nat) : Int) [] [] false)) := by
   unfold ac4 ac7
   simp only [Option.bind_some]
   cases q with
   | true =>
    rw [if_neg (by decide), co6]
    rfl
   | false =>
    have e1 : bQ9 false (ls.take j) = told (ls.take j) := rfl
    have e2 : bQ9 false (ls.take (j + 1)) = told (ls.take (j + 1)) := rfl
    rw [if_pos (by rfl), e1, e2, G.cF2 (by omega)]
    simp only [Option.bind_some]
    unfold G.appB
    rw [if_pos ⟨by decide, by decide, by rw [List.length_append]; omega⟩]
    simp only [Option.bind_some]
    rw [co6, cj1 ls j hj]
    simp only [Option.bind_some]
    rw [List.append_assoc]
    rfl
  rw [hend]
  simp only [Option.bind_some]
  obtain ⟨m', k1, k2⟩ := ecycle q ls rg 0 ls[j] hold flag (j + 1) hj (by omega)
  rw [k1]
  exact ⟨m', rfl, k2⟩
theorem ewrites (fu : Nat) (q : Bool) : aa9 (fu + 1) (some (aU1 q)) = some [] := by
 unfold aa9
 simp only [Option.bind_some]
 rw [bp7 (b := []) (by unfold au2; rfl)]
 simp only [Option.bind_some]
 rw [sort_nil]
 simp only [Option.bind_some]
 unfold x9
 rw [if_pos (by decide)]
 rfl
theorem enew (fu : Nat) (q : Bool) (a : List (List UInt8)) (ha : cA2 a) : ∃ x m, ac6 (fu + 1) (some (aU1 q)) a (D.y5.mk []) = some (x, m) ∧ b85 q (ag5 a) 0 m := by
 obtain ⟨x0, hx0⟩ := cG7
 have hal := bI0 ha
 obtain ⟨m, hm1, hm2⟩ := ecycle q (ag5 a) [] 0 [] [] false 0 (Nat.zero_le _) (by omega)
 refine ⟨x0, m, ?_, hm2⟩
 unfold ac6
 rw [hx0]
 simp only [Option.bind_some]
 rw [bp7 (b := (D.o5.mk (some (aU1 q)) [] [] (D.y5.mk []) [] (D.y7.mk 0 [] [] false 0 [] [] false), x0)) (by unfold aW1; rfl)]
 simp only [Option.bind_some]
 obtain ⟨o, h1, h2⟩ := bR8 (body := az1 (fu + 1) (some (aU1 q)) a (a.length : Int)) a.length
  (fun i x => x = (D.o5.mk (some (aU1 q)) [] (ag5 (a.take i)) (D.y5.mk []) [] (D.y7.mk 0 [] [] false 0 [] [] false), x0, ((i : Nat) : Int)))
  (fun o => o = .brk (D.o5.mk (some (aU1 q)) [] (ag5 a) (D.y5.mk []) [] (D.y7.mk 0 [] [] false 0 [] [] false), x0))
  (by
   rintro i x hi rfl
   refine .inl ⟨_, ?_, rfl⟩
   have h8 := ha.each a[i] (List.getElem_mem hi)
   have h54 := c43 a ha i
   have hc := cd3 a[i]
   have hsix := ha.len
   unfold az1
   simp only
   rw [if_pos (by omega), G.cZ8 a i hi]
   simp only [Option.bind_some]
   rw [cV0 _ (by omega)]
   simp only [Option.bind_some]
   rw [G.cF2 (by omega)]
   simp only [Option.bind_some]
   rw [G.aW9 (by omega), all_next a i hi])
  (by
   rintro x rfl
   refine .inl ⟨_, ?_, rfl⟩
   unfold az1
   simp only
   rw [if_neg (by omega), List.take_length])
  rfl
 subst h2
 have h1 : Loop (az1 (fu + 1) (some (aU1 q)) a (a.length : Int)) (D.o5.mk (some (aU1 q)) [] [] (D.y5.mk []) [] (D.y7.mk 0 [] [] false 0 [] [] false), x0, 0) = _ := h1
 rw [h1]
 simp only [Option.bind_some]
 rw [ewrites fu q]
 simp only [Option.bind_some]
 rw [bp7 (b := (D.o5.mk (some (aU1 q)) [] (ag5 a) (D.y5.mk []) [] (D.y7.mk 0 [] [] false 0 [] [] false), x0)) (by unfold aW5; rfl)]
 simp only [Option.bind_some]
 have hmk : G.make (aU1 q).Ranges (0 : Int) = some [] := rfl
 rw [hmk]
 simp only [Option.bind_some]
 have ht : bQ9 q (List.take 0 (ag5 a)) = [] := by cases q <;> rfl
 rw [ht, show ((0 : Nat) : Int) = 0 from rfl] at hm1
 rw [hm1]
 rfl
theorem ego (fu : Nat) (q : Bool) (a : List (List UInt8)) (ha : cA2 a) (k : Int) (hk : k ≤ ((ag5 a).length : Int)) :
  ∃ r, as5 (fu + 1) (some (aU1 q)) a [] k = some r ∧ (k = ((ag5 a).length : Int) → r.1.Out = bQ9 q (ag5 a) ∧ r.2 = 0) ∧ (r.2 = 21 ↔ (k < ((ag5 a).length : Int) ∧ 0 < (ag5 a).length)) := by
 have hal := bI0 ha
 obtain ⟨x, m, hm1, hm2⟩ := enew fu q a ha
 unfold as5
 rw [cP2]
 simp only [Option.bind_some]
 rw [hm1]
 simp only [Option.bind_some]
 obtain ⟨o, h1, m', j, h2, h3, h4⟩ := bR8 (body := aP7 (fu + 1) k) k.toNat
  (fun i x => ∃ m, x = (m, D.ae4.mk [] [] 0, ((i : Nat) : Int)) ∧ b85 q (ag5 a) i m)
  (fun o => ∃ m' j, o = .brk (m', D.ae4.mk [] [] 0, ((j : Nat) : Int)) ∧ b85 q (ag5 a) j m' ∧ j = k.toNat)
  (by
   rintro i x hi ⟨m, rfl, hm⟩
   obtain ⟨m', k1, k2⟩ := estep hm (by omega) hal.1 hal.2
   refine .inl ⟨_, ?_, m', rfl, k2⟩
   unfold aP7
   simp only
   have e : decide ((i : Int) < k) = true := decide_eq_true (by omega)
   rw [e, if_pos rfl, k1]
   simp only [Option.bind_some, Bool.and_self, if_true]
   rw [G.aW9 (by omega)])
  (by
   rintro x ⟨m, rfl, hm⟩
   refine .inl ⟨_, ?_, m, k.toNat, rfl, hm, rfl⟩
   unfold aP7
   simp only
   have e : decide (((k.toNat : Nat) : Int) < k) = false := decide_eq_false (by omega)
   rw [e, if_neg (by decide), if_neg (by decide)])
  ⟨m, rfl, hm2⟩
 subst h2
 have h1 : Loop (aP7 (fu + 1) k) (m, D.ae4.mk [] [] 0, 0) = _ := h1
 rw [h1]
 simp only [Option.bind_some]
 obtain ⟨s, hs1, hs2⟩ := estate h3
 rw [hs1]
 simp only [Option.bind_some]
 by_cases hd : j = (ag5 a).length
 ·have hsd : s.Done = true := by rw [hs2]; exact decide_eq_true hd
  rw [hsd, if_neg (by decide)]
  have hout : m'.out = bQ9 q (ag5 a) ∧ m'.files = D.y5.mk [] := by
   generalize hL : (ag5 a).length = L at hd
   cases h3 with
   | go hj => omega
   | done => exact ⟨rfl, rfl⟩
  unfold ae1 ac5
  simp only [Option.bind_some]
  obtain ⟨x0, hx0⟩ := cG7
  rw [hout.2, hx0]
  simp only [Option.bind_some]
  have hl0 : ag8 (D.y5.mk []) = some [] := rfl
  rw [hl0]
  refine ⟨_, rfl, fun _ => ⟨hout.1, rfl⟩, ?_⟩
  simp only
  constructor
  ·intro h; cases h
  ·intro h; omega
 ·have hsd : s.Done = false := by rw [hs2]; exact decide_eq_false hd
  rw [hsd, if_pos (show (!false) = true from rfl)]
  refine ⟨_, rfl, fun e => ?_, ?_⟩
  ·omega
  ·simp only [true_iff]
   have : j < (ag5 a).length := by
    generalize hL : (ag5 a).length = L at hd hk
    omega
   omega
theorem load_eq (q : Bool) : au9 [] (D.ak3.mk false q) = some (some (aU1 q), [], 0, 0) := rfl
theorem cM6 (fu : Nat) (a0 : List (List UInt8)) (q : Bool) (w : List UInt8) (hw : w.length ≤ 1000000) : Loop (am5 fu a0 q w (w.length : Int)) (0, 0) = some (.brk ((tens w : Nat) : Int)) := by
 obtain ⟨o, h1, h2⟩ := bR8 (body := am5 fu a0 q w (w.length : Int)) w.length (fun i x => x = (((tens (w.take i) : Nat) : Int), ((i : Nat) : Int))) (fun o => o = .brk ((tens w : Nat) : Int))
  (by
   rintro i x hi rfl
   refine .inl ⟨_, ?_, rfl⟩
   have hle : tens (w.take i) ≤ w.length := Nat.le_trans List.countP_le_length (List.length_take_le' ..)
   unfold am5
   simp only
   rw [if_pos (by omega), idxS_at w i hi]
   simp only [Option.bind_some]
   have ht : tens (w.take (i + 1)) = tens (w.take i) + (if w[i] = 10 then 1 else 0) := by
    rw [bF7 w i hi]
    unfold tens
    rw [List.countP_append]
    congr 1
    by_cases h : w[i] = 10 <;> simp [h]
   by_cases h10 : w[i] = 10
   ·rw [if_pos (by rw [h10]; rfl), G.aW9 (by omega), G.aW9 (by omega), ht, if_pos h10]
   ·rw [if_neg (by
     intro e
     apply h10
     have : w[i].toNat = 10 := by omega
     exact UInt8.toNat_inj.1 this), G.aW9 (by omega), ht, if_neg h10]
    rfl)
  (by
   rintro x rfl
   refine .inl ⟨_, ?_, rfl⟩
   unfold am5
   simp only
   rw [if_neg (by omega), List.take_length])
  rfl
 subst h2
 exact h1
theorem cM3 (fu : Nat) (a : List (List UInt8)) (q : Bool) (ha : a.length ≤ 20) : ∃ o, Loop (am6 fu a q 0 a (a.length : Int)) ([], 0) = some o ∧ (o = .ret true ∨ (o = .brk (told a) ∧ cA2 a)) := by
 obtain ⟨o, h1, h2⟩ := bR8 (body := am6 fu a q 0 a (a.length : Int)) a.length (fun i x => x = (told (a.take i), ((i : Nat) : Int)) ∧ ∀ s ∈ a.take i, s.length ≤ 100) (fun o => o = .ret true ∨ ((o = .brk (told a)) ∧ cA2 a))
  (by
   rintro i x hi ⟨rfl, hs⟩
   unfold am6
   simp only
   rw [if_pos (by omega), G.cZ8 a i hi]
   simp only [Option.bind_some]
   by_cases hl : a[i].length ≤ 100
   ·rw [if_neg (by omega)]
    have htl : (told (a.take i)).length ≤ 300000 := by
     have := bA8 (a.take i) hs
     have := List.length_take_le i a
     omega
    rw [G.c54 (by simp only [List.length_cons, List.length_nil]; omega)]
    simp only [Option.bind_some]
    rw [G.c54 (by simp only [List.length_append, List.length_cons, List.length_nil]; omega)]
    simp only [Option.bind_some]
    rw [G.aW9 (by omega)]
    refine .inl ⟨_, rfl, by rw [cj1 a i hi], fun s hs' => ?_⟩
    rw [bF7 a i hi] at hs'
    rcases List.mem_append.1 hs' with hs' | hs'
    ·exact hs s hs'
    ·rw [List.mem_singleton.1 hs']; exact hl
   ·rw [if_pos (by omega)]
    exact .inr (.inr ⟨_, rfl, .inl rfl⟩))
  (by
   rintro x ⟨rfl, hs⟩
   refine .inl ⟨told a, ?_, .inr ⟨by trivial, ha, fun s hs' => hs s (by rwa [List.take_length])⟩⟩
   unfold am6
   simp only
   rw [if_neg (by omega), List.take_length])
  ⟨rfl, fun s hs => by simp at hs⟩
 exact ⟨o, h1, h2⟩
theorem j1_eq (fu : Nat) (a : List (List UInt8)) (ha : cA2 a) (q : Bool) : ap1 (fu + 1) a q (bQ9 q (ag5 a)) ((tens (told a) : Nat) : Int) = some true := by
 have hal := bI0 ha
 have hL := cP3 a
 generalize tens (told a) = n at hL
 obtain ⟨r1, k1, k2, k3⟩ := ego fu q a ha (n : Int) (by omega)
 obtain ⟨r2, l1, l2, l3⟩ := ego fu q a ha ((n : Int) - 1) (by omega)
 unfold ap1 ap3
 rw [G.cF2 (by have := ha.len; simp only [List.length_nil]; omega), load_eq]
 simp only [Option.bind_some, List.nil_append]
 rw [if_neg (by decide), k1]
 simp only [Option.bind_some]
 rw [G.c42 (by omega) (by omega), if_neg (by decide), l1]
 simp only [Option.bind_some]
 obtain ⟨e1, e2⟩ := k2 (by omega)
 rw [e1, e2]
 have e3 : decide (decide (r2.2 = 21) = decide ((n : Int) > 0)) = true := by
  refine decide_eq_true ?_
  rw [decide_eq_decide, l3]
  constructor
  ·intro h; omega
  ·intro h; exact ⟨by omega, by omega⟩
 rw [e3]
 simp
theorem cy6 (a : List (List UInt8)) (q : Bool) : aa6 1 a q = some true := by
 unfold aa6
 have hw : aH7 = some true := rfl
 rw [hw]
 simp only [Option.bind_some, Bool.not_true, Bool.false_or]
 by_cases hl : a.length ≤ 20
 ·have e : decide ((a.length : Int) > 20) = false := decide_eq_false (by omega)
  rw [e, if_neg (by decide)]
  obtain ⟨o, h1, h2⟩ := cM3 1 a q hl
  rw [h1]
  rcases h2 with rfl | ⟨rfl, ha⟩
  ·rfl
  ·have hal := bI0 ha
   have htl : (told a).length ≤ 1000000 := by
    have := bA8 a ha.each
    have := ha.len
    omega
   simp only [Option.bind_some]
   rw [cM6 1 a q (told a) htl]
   simp only [Option.bind_some]
   have hj := j1_eq 0 a ha q
   rw [Nat.zero_add] at hj
   cases q with
   | true =>
    rw [if_pos rfl]
    exact hj
   | false =>
    rw [if_neg (by decide)]
    have : bQ9 false (ag5 a) = told a := told_all a
    rw [this] at hj
    exact hj
 ·have e : decide ((a.length : Int) > 20) = true := decide_eq_true (by omega)
  rw [e, if_pos rfl]
end Go.Proofs.YtbinfgmdamlkbaaGreatDoor
namespace Go.Proofs.YtbinfgmdamlkbaaGreatDoor
open Go.RowKit
theorem bQ3 {P : Program} [hc : ae8 P] : S.strings_Split P strings_Split := hc.ext_strings_Split
end Go.Proofs.YtbinfgmdamlkbaaGreatDoor
namespace Go.Proofs.YtbinfgmdamlkbaaGreatDoor
open Go.RowKit
def S.ad6 (P : Program) (φ : D.y5 → Option (D.y5 × D.y5)) : Prop := ∀ (a0 : D.y5) (r : (D.y5 × D.y5)), φ a0 = some r → bd8 P F.ad6 [.o (.ptr 96 (o7 a0))] false [.o (.ptr 96 (o7 r.1))] [.o (.ptr 96 (o7 r.2))]
theorem aP0 {P : Program} [hc : ae8 P] : S.ad6 P (ad6) := by
 intro a0 r h
 refine al5 (b := K.ad6) rfl hc.ad6 rfl rfl rfl ?_
 rintro L S0 _ _ _ ⟨av0, _, F0, _, _, rfl, rfl, rfl, rfl, rfl, rfl⟩
 unfold ad6 at h
 refine (show GC P _ L (⟨F.ad6, (F0 ++ []), S0, true, false⟩ : Fr) (numE 0 [av0]) [.own true [] (.ptr 96 (o7 a0)) av0 F0] (RetO (⟨F.ad6, (F0 ++ []), S0, true, false⟩ : Fr) L false [av0] K.ad6.res [.o (.ptr 96 (o7 r.1))] [.o (.ptr 96 (o7 r.2))]) from ?_)
 generalize ((F0 ++ []) : List Loc) = W
 refine aK7 (Mv.opn rfl) ?_
 rintro _ ⟨p_1, g_2, _, _, rfl, ⟨w_3, _, F_4, _, rfl, rfl, rfl, rfl⟩, rfl⟩
 refine aa1 (aa2 (o6 (s_mv rfl) (aa4 (aa0 (aa1 (aa2 (o6 (s_mv rfl) ?_)))))))
 refine o6 (ag4 rfl) (o6 (s_fa (o' := 0) rfl rfl) (o6 (ar8 (i := 0) rfl rfl rfl) (aq4 (Mv.sub (.cons (i := 1) rfl .rfl (.cons (i := 0) rfl .rfl .nil)) rfl) ?_)))
 rintro _ rfl
 refine aN0 (A1 := [.own true [] (Mp.o Mp.ks (fun v => .sl 1 (List.map aa8 v)) a0.lines) w_3 F_4]) rfl rfl (show InC [.o (Mp.o Mp.ks (fun v => .sl 1 (List.map aa8 v)) a0.lines)] _ _ from ⟨rfl, rfl, rfl, rfl⟩) rfl rfl rfl rfl rfl (cy9 rfl Mp.ks (fun v => .sl 1 (List.map aa8 v)) a0.lines) ?_
 rintro w_5 _ _ J_6 ⟨F_7, _, rfl, rfl⟩ ⟨F_8, rfl⟩
 refine cT5 (i := 1) rfl rfl fun hc_9 ho_10 => ?_
 refine o6 (s_bdX (cs := [w_5]) (.cons rfl ho_10.1 rfl rfl (.nil rfl))) ?_
 refine g_co (i := 1) rfl fun hc_12 => ?_
 refine g_bxO rfl rfl ⟨hc_12, trivial⟩ rfl fun g_11 => ?_
 refine o6 (s_mv rfl) (aa4 (aa0 (ar4 ?_)))
 obtain rfl := Option.some.inj h
 refine g_mv (Mv.sub (.cons (i := 0) rfl .rfl (.cons (i := 2) rfl .rfl (.cons (i := 1) rfl .rfl (.cons (i := 3) rfl .rfl (.cons (i := 4) rfl .rfl .nil))))) rfl) ?_
 rintro _ rfl
 refine g_mv (Mv.sht (os := (o7 a0)) (N := [.own true [] (Mp.o Mp.ks (fun v => .sl 1 (List.map aa8 v)) a0.lines) w_5 F_8]) rfl ⟨rfl, rfl, rfl, rfl⟩) ?_
 rintro _ ⟨F_13, rfl⟩
 refine g_mv (Mv.sub (.cons (i := 3) rfl .rfl (.cons (i := 1) rfl .rfl (.cons (i := 0) rfl .rfl (.cons (i := 2) rfl .rfl .nil)))) rfl) ?_
 rintro _ rfl
 refine g_mv (Mv.sht (os := (o7 a0)) (N := [.own true [] (Mp.o Mp.ks (fun v => .sl 1 (List.map aa8 v)) a0.lines) w_3 F_7]) rfl ⟨rfl, rfl, rfl, rfl⟩) ?_
 rintro _ ⟨F_14, rfl⟩
 exact ak9 (A1 := [.own true [] (.ptr 96 (o7 a0)) (.ptr p_1 g_2 0 0) F_14]) (A2 := [.own true [9] (.ptr 96 (o7 a0)) (.ptr ⟨L + 1, 9, 0⟩ g_11 0 0) F_13]) (A3 := [.jnk true [] J_6]) rfl ⟨rfl, rfl, rfl, rfl⟩ (.l7 rfl .nil) rfl rfl
def S.am2 (P : Program) (φ : List UInt8 → Option (List (List UInt8))) : Prop := ∀ (a0 : List UInt8) (r : (List (List UInt8))), φ a0 = some r → ∀ (k0 : Nat) (args : List AV), RVN [.str a0] args → a15 P F.am2 args (ResC [.sl 1 (r.map aa8)])
theorem cr8 {P : Program} [hc : ae8 P] : S.am2 P (am2) := by
 intro a0 r h k0 args ha
 refine ao1 (b := K.am2) rfl hc.am2 (fun _ => rfl) rfl rfl ?_ ha
 rintro L _ ⟨_, _, rfl, rfl, rfl⟩
 unfold am2 at h
 show GC P _ L F.am2 [(0, .lit (.string (bs a0)))] [] (ae2 L K.am2.res [.sl 1 (r.map aa8)])
 refine aa1 (aa2 (o6 (s_mv rfl) (aa4 (aa0 (aa1 (aa2 (o6 (s_mv rfl) ?_)))))))
 obtain ⟨x_1, e_2, h⟩ := ae5 h
 refine ah6 (s_clB (rs := [.str a0, .str [10]]) (fun _ => rfl) rfl (RVL.toN (L := L + 1) ⟨_, _, rfl, rfl, _, _, rfl, rfl, rfl⟩) ((bQ3) _ _ _ e_2 (L + 1) _)) ?_
 rintro v_3 r_4
 replace r_4 := ResC.one r_4
 refine o6 (s_mv rfl) (aa4 (aa0 (ar4 ?_)))
 obtain rfl := Option.some.inj h
 exact br3 (.t rfl r_4.toS .nil)
def S.af5 (P : Program) (φ : (List D.aj7) → Option D.y5) : Prop := ∀ (a0 : (List D.aj7)) (r : D.y5), φ a0 = some r → bd8 P F.af5 [.r (.sl 2 (a0.map ai8))] false [.x] [.o (.ptr 96 (o7 r))]
def aJ7 (L : Nat) (W : List Loc) (S0 : AS) (a0 : (List D.aj7)) (av0 : AV) (p11 : (List D.aj7)) (p12 : Int) (G_i2 : Nat) (v11 : AV) : (D.y5 × Int) → BT → AS → Prop := fun (q_i2, p13) T S => ∃ (J_i3 : List Loc) (w_i1 : AV) (F_i1 : List Loc), Ag [(3, .ptr ⟨L + 1, 10, 0⟩ G_i2 0 0), (11, v11), (12, .lit (.int .i64 p12)), (13, .lit (.int .i64 p13))] T ∧ StA S L (⟨F.af5, W, S0, true, false⟩ : Fr) [.jnk false [] J_i3, .cel false [10] ⟨L + 1, 10, 0⟩ G_i2 96 [w_i1], .own false [8] (Mp.o Mp.ks (fun v => .sl 1 (List.map aa8 v)) q_i2.lines) w_i1 F_i1]
def aS7 (L : Nat) (W : List Loc) (S0 : AS) (a0 : (List D.aj7)) (av0 : AV) (p11 : (List D.aj7)) (p12 : Int) (G_i2 : Nat) (v11 : AV) : D.y5 → BT → AS → Prop := fun q_i2 T S => ∃ (J_i3 : List Loc) (w_i1 : AV) (F_i1 : List Loc), Ag [(3, .ptr ⟨L + 1, 10, 0⟩ G_i2 0 0)] T ∧ StA S L (⟨F.af5, W, S0, true, false⟩ : Fr) [.jnk false [] J_i3, .cel false [10] ⟨L + 1, 10, 0⟩ G_i2 96 [w_i1], .own false [8] (Mp.o Mp.ks (fun v => .sl 1 (List.map aa8 v)) q_i2.lines) w_i1 F_i1]
theorem bU5 {P : Program} [hc : ae8 P] {L : Nat} (W : List Loc) (S0 : AS) (a0 : (List D.aj7)) (av0 : AV) (p11 : (List D.aj7)) (p12 : Int) {G_i2 : Nat} {v11 : AV} (ar0 : RelC (.sl 2 (List.map ai8 a0)) av0) (r11 : RelC (.sl 2 (p11.map ai8)) v11) : ∀ (s : (D.y5 × Int)) (c : Ctl (D.y5 × Int) D.y5 D.y5), aR7 p11 p12 s = some c → ∀ T S, aJ7 L W S0 a0 av0 p11 p12 G_i2 v11 s T S → RunB P K.aY4 T S (at7 0 (aJ7 L W S0 a0 av0 p11 p12 G_i2 v11) (aS7 L W S0 a0 av0 p11 p12 G_i2 v11) (fun r => RetO (⟨F.af5, W, S0, true, false⟩ : Fr) L false [av0] K.af5.res [.x] [.o (.ptr 96 (o7 r))]) c) := by
 rintro ⟨q_i2, p13⟩ c h T S ⟨J_i3, w_i1, F_i1, hT, hS⟩
 unfold aR7 at h
 refine (show GC P K.aY4 L (⟨F.af5, W, S0, true, false⟩ : Fr) [(3, .ptr ⟨L + 1, 10, 0⟩ G_i2 0 0), (11, v11), (12, .lit (.int .i64 p12)), (13, .lit (.int .i64 p13))] [.jnk false [] J_i3, .cel false [10] ⟨L + 1, 10, 0⟩ G_i2 96 [w_i1], .own false [8] (Mp.o Mp.ks (fun v => .sl 1 (List.map aa8 v)) q_i2.lines) w_i1 F_i1] (at7 0 (aJ7 L W S0 a0 av0 p11 p12 G_i2 v11) (aS7 L W S0 a0 av0 p11 p12 G_i2 v11) (fun r => RetO (⟨F.af5, W, S0, true, false⟩ : Fr) L false [av0] K.af5.res [.x] [.o (.ptr 96 (o7 r))]) c) from ?_) T S hT hS
 refine aa1 (aa2 (o6 (s_ib rfl rfl rfl) (aa4 (aa0 (aa1 ?_)))))
 by_cases h_6 : p13 < p12
 ·replace h := iteT h h_6
  refine g_cT rfl (decide_eq_true h_6) (ai6 (aa0 (aa1 (ai7 (aa1 (aa2 ?_))))))
  obtain ⟨x_9, e_10, h⟩ := ae5 h
  refine ah6 (s_ia (c := ai8) rfl r11.toS rfl e_10) ?_
  rintro _ ⟨c_7, rfl, r_8⟩
  refine ah6 (cg8 (N := ai8 x_9) rfl r_8 rfl rfl) ?_
  rintro _ ⟨c_11, rfl, r_12⟩
  refine cf6 rfl rfl fun g_13 => ?_
  obtain ⟨_, hE_16, _, _, rfl, rfl, v_14, _, rfl, r_15, rfl⟩ := exL' r_12
  refine bY8 (i := 0) (b := .agg c_11) (cs' := [.lit (.string (bs x_9.Name)), v_14]) rfl rfl rfl (by rw [hE_16]; rfl) (ab6.ones r_12) (fun a ha => .c (ak6 (ab6.closed r_12) a ha)) rfl (by rw [hE_16]; rfl) rfl (aa4 (aa0 (aa1 (aa2 (o6 (s_mv rfl) (o6 (s_fa (o' := 0) rfl rfl) (o6 (aG7 (i := 0) rfl rfl rfl) ?_)))))))
  cases h
 ·replace h := iteF h h_6
  refine g_cF rfl (decide_eq_false h_6) (aO2 (aN9 ?_))
  obtain rfl := Option.some.inj h
  exact fun T S hT hS => ⟨rfl, ⟨J_i3, w_i1, F_i1, hT.sub (subE.cons rfl (subE.nil _)), hS.sub (.cons (i := 0) rfl (.jnk rfl rfl) (.cons (i := 1) rfl (.cel rfl rfl) (.cons (i := 2) rfl (.own rfl rfl) .nil))) rfl⟩⟩
theorem cs8 {P : Program} [hc : ae8 P] : S.af5 P (af5) := by
 intro a0 r h
 refine al5 (b := K.af5) rfl hc.af5 rfl rfl rfl ?_
 rintro L S0 _ _ _ ⟨av0, _, rfl, ar0, rfl, rfl, rfl⟩
 unfold af5 at h
 refine (show GC P _ L (⟨F.af5, [], S0, true, false⟩ : Fr) (numE 0 [av0]) [] (RetO (⟨F.af5, [], S0, true, false⟩ : Fr) L false [av0] K.af5.res [.x] [.o (.ptr 96 (o7 r))]) from ?_)
 generalize ([] : List Loc) = W
 refine aa1 (aa2 (o6 (s_mv rfl) (aa4 (aa0 (aa1 (aa2 ?_))))))
 refine g_mkM (κ := Mp.ks) (χ := (fun v => .sl 1 (List.map aa8 v))) rfl fun g_1 => ?_
 refine cT5 (i := 0) rfl rfl fun hc_2 ho_3 => ?_
 refine o6 (s_bdX (cs := [(.mref ⟨L + 1, 8, 0⟩ g_1)]) (.cons rfl ho_3.1 rfl rfl (.nil rfl))) ?_
 refine g_co (i := 0) rfl fun hc_5 => ?_
 refine g_bxO rfl rfl ⟨hc_5, trivial⟩ rfl fun g_4 => ?_
 refine o6 (s_mv rfl) (aa4 (aa0 (aa1 (aa1 (aa2 (o6 (s_mv rfl) (o6 (bX7 (c := ai8) rfl ar0) ?_)))))))
 refine o6 (s_mv rfl) (aa4 (aa0 (ai7 (aK7 Mv.newJ ?_))))
 rintro _ rfl
 obtain ⟨o_17, e_18, h⟩ := ae5 h
 refine aR0 (IN := aJ7 L W S0 a0 av0 a0 (a0.length : Int) g_4 av0) (IB := aS7 L W S0 a0 av0 a0 (a0.length : Int) g_4 av0) (IR := fun r => RetO (⟨F.af5, W, S0, true, false⟩ : Fr) L false [av0] K.af5.res [.x] [.o (.ptr 96 (o7 r))]) e_18 (bU5 W S0 a0 av0 a0 (a0.length : Int) (G_i2 := g_4) (v11 := av0) ar0 ar0) (fun T S hT hS => ⟨[], (.mref ⟨L + 1, 8, 0⟩ g_1), [⟨L + 1, 8, 0⟩], hT.sub (subE.cons rfl (subE.cons rfl (subE.cons rfl (subE.cons rfl (subE.nil _))))), hS.sub (.cons (i := 0) rfl (.jnk rfl rfl) (.cons (i := 1) rfl (.cel rfl rfl) (.cons (i := 2) rfl (.own rfl rfl) .nil))) rfl⟩) ?_
 rintro x T S hO
 cases o_17 with
 | brk q_i2b_19 =>
  obtain ⟨rfl, J_i3b_19, w_i1b_19, F_i1b_19, hT, hS⟩ := hO
  refine (show G (.exit 0) L (⟨F.af5, W, S0, true, false⟩ : Fr) [(3, .ptr ⟨L + 1, 10, 0⟩ g_4 0 0)] [.jnk false [] J_i3b_19, .cel false [10] ⟨L + 1, 10, 0⟩ g_4 96 [w_i1b_19], .own false [8] (Mp.o Mp.ks (fun v => .sl 1 (List.map aa8 v)) q_i2b_19.lines) w_i1b_19 F_i1b_19] (Blk 0 (Thn P K.bJ2 (RetO (⟨F.af5, W, S0, true, false⟩ : Fr) L false [av0] K.af5.res [.x] [.o (.ptr 96 (o7 r))]))) from ?_) T S hT hS
  refine aQ0 (aa0 (aa1 (aa2 (o6 (s_mv rfl) (o6 (s_mv rfl) (aa4 (aa0 ?_)))))))
  refine ar4 ?_
  obtain rfl := Option.some.inj h
  refine g_mv (Mv.sub (.cons (i := 1) rfl .rfl (.cons (i := 2) rfl .rfl (.cons (i := 0) rfl .rfl .nil))) rfl) ?_
  rintro _ rfl
  refine g_mv (Mv.sht (os := (o7 q_i2b_19)) (N := [.own false [8] (Mp.o Mp.ks (fun v => .sl 1 (List.map aa8 v)) q_i2b_19.lines) w_i1b_19 F_i1b_19]) rfl ⟨rfl, rfl, rfl, rfl⟩) ?_
  rintro _ ⟨F_20, rfl⟩
  exact ak9 (A1 := []) (A2 := [.own false [10, 8] (.ptr 96 (o7 q_i2b_19)) (.ptr ⟨L + 1, 10, 0⟩ g_4 0 0) F_20]) (A3 := [.jnk false [] J_i3b_19]) rfl ⟨rfl, rfl⟩ (.l7 rfl .nil) rfl rfl
 | ret r =>
  obtain rfl := Option.some.inj h
  obtain ⟨rfl, hO⟩ := hO
  exact hO
theorem by1 {P : Program} [hc : ae8 P] : S.ag8 P ag8 := hc.ext_files_Files_List
end Go.Proofs.YtbinfgmdamlkbaaGreatDoor
namespace Go.Proofs.YtbinfgmdamlkbaaGreatDoor
open Go.RowKit
def S.ae0 (P : Program) (φ : Int → Option Int) : Prop := ∀ (a0 : Int) (r : Int), φ a0 = some r → ∀ (k0 : Nat) (args : List AV), RVN [.int .u64 a0] args → a15 P F.ae0 args (ResC [.int .i64 r])
theorem aK2 {P : Program} [hc : ae8 P] {L : Nat} (p0 : Int) (p2 : Int)  : ∀ (r : Int), au7 p0 p2 = some r → G .normal L F.ae0 [(0, .lit (.int .u64 p0)), (2, .lit (.int .i64 p2))] [] (Thn P K.aR2 (ae2 L K.ae0.res [.int .i64 r])) := by
 intro r h
 unfold au7 at h
 refine aa0 (aa1 (aa1 (aa2 (o6 (s_mv rfl) (o6 (s_ib rfl rfl rfl) (aa4 (aa0 ?_)))))))
 by_cases h_7 : p0 ≥ 256
 ·replace h := iteT h h_7
  refine g_cT rfl (decide_eq_true h_7) (aa1 (aa2 (o6 (s_mv rfl) ?_)))
  obtain ⟨x_8, e_9, h⟩ := ae5 h
  refine o6 (s_ib rfl rfl (cz1 e_9)) (o6 (s_mv rfl) (aa4 (aa0 (aa2 (o6 (s_mv rfl) (o6 (s_ib rfl rfl rfl) (o6 (s_mv rfl) ?_)))))))
  refine aa4 (aa0 (aa1 (aa2 (o6 (s_mv rfl) (o6 (s_mv rfl) (o6 (cS8 rfl) ?_))))))
  obtain ⟨x_10, e_11, h⟩ := ae5 h
  refine o6 (s_xs rfl rfl e_11) (o6 (cS8 rfl) (o6 (s_ib rfl rfl rfl) (o6 (s_mv rfl) (aa4 (aa0 (ar4 ?_))))))
  obtain rfl := Option.some.inj h
  exact br3 (.t rfl rfl .nil)
 ·replace h := iteF h h_7
  refine g_cF rfl (decide_eq_false h_7) (ai6 (aa0 (aa1 (aa2 (o6 (s_mv rfl) (o6 (s_mv rfl) (o6 (cS8 rfl) ?_)))))))
  obtain ⟨x_12, e_13, h⟩ := ae5 h
  refine o6 (s_xs rfl rfl e_13) (o6 (cS8 rfl) (o6 (s_ib rfl rfl rfl) (o6 (s_mv rfl) (aa4 (aa0 (ar4 ?_))))))
  obtain rfl := Option.some.inj h
  exact br3 (.t rfl rfl .nil)
theorem aJ9 {P : Program} [hc : ae8 P] {L : Nat} (p0 : Int) (p2 : Int)  : ∀ (r : Int), au8 p0 p2 = some r → G .normal L F.ae0 [(0, .lit (.int .u64 p0)), (2, .lit (.int .i64 p2))] [] (Thn P K.aR9 (ae2 L K.ae0.res [.int .i64 r])) := by
 intro r h
 unfold au8 at h
 refine aa0 (aa1 (aa1 (aa2 (o6 (s_mv rfl) (o6 (s_ib rfl rfl rfl) (aa4 (aa0 ?_)))))))
 by_cases h_4 : p0 ≥ 65536
 ·replace h := iteT h h_4
  refine g_cT rfl (decide_eq_true h_4) (aa1 (aa2 (o6 (s_mv rfl) ?_)))
  obtain ⟨x_5, e_6, h⟩ := ae5 h
  refine o6 (s_ib rfl rfl (cz1 e_6)) (o6 (s_mv rfl) (aa4 (aa0 (aa2 (o6 (s_mv rfl) (o6 (s_ib rfl rfl rfl) (o6 (s_mv rfl) ?_)))))))
  refine aa4 ?_
  exact b57 (subE.cons rfl (subE.cons rfl (subE.nil _))) .nil rfl (aK2 x_5 (G.addI p2 16)   _ h)
 ·replace h := iteF h h_4
  refine g_cF rfl (decide_eq_false h_4) (ai6 ?_)
  exact b57 (subE.cons rfl (subE.cons rfl (subE.nil _))) .nil rfl (aK2 p0 p2   _ h)
theorem bG4 {P : Program} [hc : ae8 P] : S.ae0 P (ae0) := by
 intro a0 r h k0 args ha
 refine ao1 (b := K.ae0) rfl hc.ae0 (fun _ => rfl) rfl rfl ?_ ha
 rintro L _ ⟨_, _, rfl, rfl, rfl⟩
 unfold ae0 at h
 show GC P _ L F.ae0 [(0, .lit (.int .u64 a0))] [] (ae2 L K.ae0.res [.int .i64 r])
 refine aa1 (aa2 (o6 (s_mv rfl) (aa4 (aa0 (aa1 (aa1 (aa2 ?_)))))))
 refine o6 (s_mv rfl) (o6 (s_ib rfl rfl rfl) (aa4 (aa0 ?_)))
 by_cases h_1 : a0 ≥ 4294967296
 ·replace h := iteT h h_1
  refine g_cT rfl (decide_eq_true h_1) (aa1 (aa2 (o6 (s_mv rfl) ?_)))
  obtain ⟨x_2, e_3, h⟩ := ae5 h
  refine o6 (s_ib rfl rfl (cz1 e_3)) (o6 (s_mv rfl) (aa4 (aa0 (aa2 (o6 (s_mv rfl) (aa4 ?_))))))
  exact b57 (subE.cons rfl (subE.cons rfl (subE.nil _))) .nil rfl (aJ9 x_2 32   _ h)
 ·replace h := iteF h h_1
  refine g_cF rfl (decide_eq_false h_1) (ai6 ?_)
  exact b57 (subE.cons rfl (subE.cons rfl (subE.nil _))) .nil rfl (aJ9 a0 0   _ h)
def S.af9 (P : Program) (φ : Int → Option Int) : Prop := ∀ (a0 : Int) (r : Int), φ a0 = some r → ∀ (k0 : Nat) (args : List AV), RVN [.int .u64 a0] args → a15 P F.af9 args (ResC [.int .i64 r])
theorem bQ6 {P : Program} [hc : ae8 P] : S.af9 P (af9) := by
 intro a0 r h k0 args ha
 refine ao1 (b := K.af9) rfl hc.af9 (fun _ => rfl) rfl rfl ?_ ha
 rintro L _ ⟨_, _, rfl, rfl, rfl⟩
 unfold af9 at h
 show GC P _ L F.af9 [(0, .lit (.int .u64 a0))] [] (ae2 L K.af9.res [.int .i64 r])
 refine aa1 (aa2 (o6 (s_mv rfl) (aa4 (aa0 (aa1 (c35 rfl (ai6 ?_)))))))
 refine aa0 (aa1 (aa2 (o6 (s_mv rfl) ?_)))
 obtain ⟨x_1, e_2, h⟩ := ae5 h
 refine ah6 (bW7 (rs := [.int .u64 a0]) (fun _ => rfl) rfl (RVL.toN (L := L + 1) ⟨_, _, rfl, rfl, rfl⟩) ((bG4) _ _ e_2 (L + 1) _)) ?_
 rintro _ rfl
 refine o6 (s_mv rfl) (aa4 (aa0 (ar4 ?_)))
 obtain rfl := Option.some.inj h
 exact br3 (.t rfl rfl .nil)
end Go.Proofs.YtbinfgmdamlkbaaGreatDoor
namespace Go.Proofs.YtbinfgmdamlkbaaGreatDoor
open Go.RowKit
def S.o8 (P : Program) (φ : (List (List UInt8)) → Int → Int → Option Unit) : Prop := ∀ (a0 : (List (List UInt8))) (a1 : Int) (a2 : Int) (r : Unit), φ a0 a1 a2 = some r → ∀ (k0 : Nat) (args : List AV), RVN [.sl 1 (a0.map aa8), .int .i64 a1, .int .i64 a2] args → a15 P F.o8 args (ResC [])
def ab2 (L : Nat) (p0 : (List (List UInt8))) (p1 : Int) (p2 : Int) (v0 : AV)  : Int → BT → AS → Prop := fun p6 T S => Ag [(0, v0), (1, .lit (.int .i64 p1)), (2, .lit (.int .i64 p2)), (6, .lit (.int .i64 p6))] T ∧ StA S L F.o8 []
def ac3 (L : Nat) (p0 : (List (List UInt8))) (p1 : Int) (p2 : Int) (v0 : AV)  : Unit → BT → AS → Prop := fun _ T S => Ag [] T ∧ StA S L F.o8 []
def ag0 (L : Nat) (p0 : (List (List UInt8))) (p1 : Int) (p2 : Int) (p6 : Int) (v0 : AV)  : Int → BT → AS → Prop := fun p7 T S => Ag [(0, v0), (1, .lit (.int .i64 p1)), (2, .lit (.int .i64 p2)), (6, .lit (.int .i64 p6)), (7, .lit (.int .i64 p7))] T ∧ StA S L F.o8 []
def aj1 (L : Nat) (p0 : (List (List UInt8))) (p1 : Int) (p2 : Int) (p6 : Int) (v0 : AV)  : Unit → BT → AS → Prop := fun _ T S => Ag [(0, v0), (1, .lit (.int .i64 p1)), (2, .lit (.int .i64 p2)), (6, .lit (.int .i64 p6))] T ∧ StA S L F.o8 []
theorem av4 {P : Program} [hc : ae8 P] {L : Nat} (p0 : (List (List UInt8))) (p1 : Int) (p2 : Int) (p6 : Int) {v0 : AV} (r0 : RelC (.sl 1 (p0.map aa8)) v0) : ∀ (s : Int) (c : Ctl Int Unit (Ctl Int Unit Unit)), ak2 p0 p1 p2 p6 s = some c → ∀ T S, ag0 L p0 p1 p2 p6 v0 s T S → RunB P K.ak0 T S (at7 2 (ag0 L p0 p1 p2 p6 v0) (aj1 L p0 p1 p2 p6 v0) (fun r => at7 0 (ab2 L p0 p1 p2 v0) (ac3 L p0 p1 p2 v0) (fun r => ae2 L K.o8.res []) r) c) := by
 rintro p7 c h T S ⟨hT, hS⟩
 unfold ak2 at h
 refine (show GC P K.ak0 L F.o8 [(0, v0), (1, .lit (.int .i64 p1)), (2, .lit (.int .i64 p2)), (6, .lit (.int .i64 p6)), (7, .lit (.int .i64 p7))] [] (at7 2 (ag0 L p0 p1 p2 p6 v0) (aj1 L p0 p1 p2 p6 v0) (fun r => at7 0 (ab2 L p0 p1 p2 v0) (ac3 L p0 p1 p2 v0) (fun r => ae2 L K.o8.res []) r) c) from ?_) T S hT hS
 refine aa1 (aa1 (av3 (o6 (s_mv rfl) (o6 (s_mv rfl) (o6 (s_ib rfl rfl rfl) (o6 (s_mv rfl) ?_))))))
 refine ax9 (gb := (decide (p7 > p1))) (af := af0) (Q := fun u => u = v0) rfl (ag3 _) (fun hg => ?_) ?_
 ·exact s_mv rfl
 intro v_4 hv_2 hu_3
 refine ax9 (gb := (decide (p7 > p1))) (af := af0) (Q := fun u => u = .lit (.int .i64 p7)) rfl (ag3 _) (fun hg => ?_) ?_
 ·exact s_mv rfl
 intro v_7 hv_5 hu_6
 obtain ⟨x_10, e_11, h⟩ := ae5 h
 refine ax9 (gb := (decide (p7 > p1))) (af := af0) (Q := fun u => ∃ zs, u = .cref zs ∧ RelP (aa8 x_10) zs) rfl (ag3 _) (fun hg => ?_) ?_
 ·obtain rfl := (hv_2 hg).symm; obtain rfl := (hv_5 hg).symm; exact s_ia (c := aa8) rfl r0.toS rfl (whenT e_11 hg)
 intro v_14 hv_12 hu_13
 refine ax9 (gb := (decide (p7 > p1))) (af := af0) (Q := fun u => u = .lit (.string (bs x_10))) rfl (ag3 _) (fun hg => ?_) ?_
 ·obtain ⟨c_8, rfl, r_9⟩ := hv_12 hg; exact aO7 (v := .str x_10) (a := .lit (.string (bs x_10))) rfl r_9 rfl (fun _ => aw4)
 intro v_17 hv_15 hu_16
 refine ax9 (gb := (decide (p7 > p1))) (af := af0) (Q := fun u => u = v0) rfl (ag3 _) (fun hg => ?_) ?_
 ·exact s_mv rfl
 intro v_20 hv_18 hu_19
 refine ax9 (gb := (decide (p7 > p1))) (af := af0) (Q := fun u => u = .lit (.int .i64 p7)) rfl (ag3 _) (fun hg => ?_) ?_
 ·exact s_mv rfl
 intro v_23 hv_21 hu_22
 refine ax9 (gb := (decide (p7 > p1))) (af := af0) (Q := fun u => u = .lit (.int .i64 (G.subI p7 1))) rfl (ag3 _) (fun hg => ?_) ?_
 ·obtain rfl := (hv_21 hg).symm; exact s_ib rfl rfl rfl
 intro v_26 hv_24 hu_25
 obtain ⟨x_29, e_30, h⟩ := ae5 h
 refine ax9 (gb := (decide (p7 > p1))) (af := af0) (Q := fun u => ∃ zs, u = .cref zs ∧ RelP (aa8 x_29) zs) rfl (ag3 _) (fun hg => ?_) ?_
 ·obtain rfl := (hv_18 hg).symm; obtain rfl := (hv_24 hg).symm; exact s_ia (c := aa8) rfl r0.toS rfl (whenT e_30 hg)
 intro v_33 hv_31 hu_32
 refine ax9 (gb := (decide (p7 > p1))) (af := af0) (Q := fun u => u = .lit (.string (bs x_29))) rfl (ag3 _) (fun hg => ?_) ?_
 ·obtain ⟨c_27, rfl, r_28⟩ := hv_31 hg; exact aO7 (v := .str x_29) (a := .lit (.string (bs x_29))) rfl r_28 rfl (fun _ => aw4)
 intro v_36 hv_34 hu_35
 by_cases h_37 : decide (p7 > p1) = true
 ·replace h := iteT h h_37
  refine cq6 rfl ((ag3 _).trans h_37) ?_
  cases h
 ·replace h := iteF h h_37
  replace h_37 := Bool.eq_false_iff.2 h_37
  refine cv4 rfl ((ag3 _).trans h_37) (o6 (cK7 (b := false) rfl rfl (fun hq => by have hz := hq; first | (rw [h_37] at hz; cases hz) | simp [h_37] at hz <;> rfl)) (aG1 rfl (aa0 ?_)))
  by_cases h_38 : ((decide (p7 > p1)) && false) = true
  ·replace h := iteT h h_38
   refine g_cT rfl h_38 (ai6 (aa0 (aa1 (ai7 (av3 (o6 (s_mv rfl) (o6 (s_mv rfl) ?_)))))))
   refine o6 (s_mv rfl) (o6 (s_mv rfl) (o6 (s_ib rfl rfl rfl) (o6 (s_mv rfl) (o6 (s_mv rfl) (o6 (s_ib rfl rfl rfl) ?_)))))
   obtain ⟨x_41, e_42, h⟩ := ae5 h
   refine ah6 (s_ia (c := aa8) rfl r0.toS rfl e_42) ?_
   rintro _ ⟨c_39, rfl, r_40⟩
   refine o6 (aO7 (v := .str x_41) (a := .lit (.string (bs x_41))) rfl r_40 rfl (fun _ => aw4)) (o6 (s_mv rfl) (o6 (s_mv rfl) ?_))
   obtain ⟨x_45, e_46, h⟩ := ae5 h
   refine ah6 (s_ia (c := aa8) rfl r0.toS rfl e_46) ?_
   rintro _ ⟨c_43, rfl, r_44⟩
   refine o6 (aO7 (v := .str x_45) (a := .lit (.string (bs x_45))) rfl r_44 rfl (fun _ => aw4)) ?_
   obtain ⟨x_49, e_50, h⟩ := ae5 h
   refine ah6 (s_ia (c := aa8) rfl r0.toS rfl e_50) ?_
   rintro _ ⟨c_47, rfl, r_48⟩
   cases h
  ·replace h := iteF h h_38
   refine g_cF rfl (Bool.eq_false_iff.2 h_38) (aO2 (aN9 ?_))
   obtain rfl := Option.some.inj h
   exact fun T S hT hS => ⟨rfl, ⟨hT.sub (subE.cons rfl (subE.cons rfl (subE.cons rfl (subE.cons rfl (subE.nil _))))), hS.sub .nil rfl⟩⟩
theorem av5 {P : Program} [hc : ae8 P] {L : Nat} (p0 : (List (List UInt8))) (p1 : Int) (p2 : Int) {v0 : AV} (r0 : RelC (.sl 1 (p0.map aa8)) v0) : ∀ (s : Int) (c : Ctl Int Unit Unit), ag7 p0 p1 p2 s = some c → ∀ T S, ab2 L p0 p1 p2 v0 s T S → RunB P K.ak1 T S (at7 0 (ab2 L p0 p1 p2 v0) (ac3 L p0 p1 p2 v0) (fun r => ae2 L K.o8.res []) c) := by
 rintro p6 c h T S ⟨hT, hS⟩
 unfold ag7 at h
 refine (show GC P K.ak1 L F.o8 [(0, v0), (1, .lit (.int .i64 p1)), (2, .lit (.int .i64 p2)), (6, .lit (.int .i64 p6))] [] (at7 0 (ab2 L p0 p1 p2 v0) (ac3 L p0 p1 p2 v0) (fun r => ae2 L K.o8.res []) c) from ?_) T S hT hS
 refine aa1 (aa1 (aa2 (o6 (s_mv rfl) (o6 (s_mv rfl) (o6 (s_ib rfl rfl rfl) (aa4 (aa0 ?_)))))))
 by_cases h_1 : p6 < p2
 ·replace h := iteT h h_1
  refine g_cT rfl (decide_eq_true h_1) (ai6 (aa0 (aa1 (ai7 (aa1 (aa2 (o6 (s_mv rfl) ?_)))))))
  refine o6 (s_mv rfl) (aa4 (aa0 (ai7 ?_)))
  obtain ⟨o_51, e_52, h⟩ := ae5 h
  refine aR0 (IN := ag0 L p0 p1 p2 p6 v0) (IB := aj1 L p0 p1 p2 p6 v0) (IR := fun r => at7 0 (ab2 L p0 p1 p2 v0) (ac3 L p0 p1 p2 v0) (fun r => ae2 L K.o8.res []) r) e_52 (av4 p0 p1 p2 p6 (v0 := v0) r0) (fun T S hT hS => ⟨hT.sub (subE.cons rfl (subE.cons rfl (subE.cons rfl (subE.cons rfl (subE.cons rfl (subE.nil _)))))), hS.sub .nil rfl⟩) ?_
  rintro x T S hO
  cases o_51 with
  | brk s =>
   obtain ⟨rfl, hT, hS⟩ := hO
   refine (show G (.exit 2) L F.o8 [(0, v0), (1, .lit (.int .i64 p1)), (2, .lit (.int .i64 p2)), (6, .lit (.int .i64 p6))] [] (Blk 2 (Blk 1 (Thn P K.ao3 (at7 0 (ab2 L p0 p1 p2 v0) (ac3 L p0 p1 p2 v0) (fun r => ae2 L K.o8.res []) c)))) from ?_) T S hT hS
   refine aQ0 (ak8 (aa0 (aa2 (o6 (s_mv rfl) (o6 (s_ib rfl rfl rfl) (o6 (s_mv rfl) (aa4 ?_)))))))
   obtain rfl := Option.some.inj h
   exact fun T S hT hS => ⟨rfl, ⟨hT.sub (subE.cons rfl (subE.cons rfl (subE.cons rfl (subE.cons rfl (subE.nil _))))), hS.sub .nil rfl⟩⟩
  | ret r =>
   obtain rfl := Option.some.inj h
   obtain ⟨rfl, hO⟩ := hO
   exact hO
 ·replace h := iteF h h_1
  refine g_cF rfl (decide_eq_false h_1) (aO2 (aN9 ?_))
  obtain rfl := Option.some.inj h
  exact fun T S hT hS => ⟨rfl, ⟨hT.sub (subE.nil _), hS.sub .nil rfl⟩⟩
theorem ax4 {P : Program} [hc : ae8 P] : S.o8 P (o8) := by
 intro a0 a1 a2 r h k0 args ha
 refine ao1 (b := K.o8) rfl hc.o8 (fun _ => rfl) rfl rfl ?_ ha
 rintro L _ ⟨av0, _, rfl, ar0, _, _, rfl, rfl, _, _, rfl, rfl, rfl⟩
 unfold o8 at h
 show GC P _ L F.o8 [(0, av0), (1, .lit (.int .i64 a1)), (2, .lit (.int .i64 a2))] [] (ae2 L K.o8.res [])
 refine aa1 (aa2 (o6 (s_mv rfl) (o6 (s_ib rfl rfl rfl) (o6 (s_mv rfl) (aa4 (aa0 (ai7 ?_)))))))
 obtain ⟨o_54, e_55, h⟩ := ae5 h
 refine aR0 (IN := ab2 L a0 a1 a2 av0) (IB := ac3 L a0 a1 a2 av0) (IR := fun r => ae2 L K.o8.res []) e_55 (av5 a0 a1 a2 (v0 := av0) ar0) (fun T S hT hS => ⟨hT.sub (subE.cons rfl (subE.cons rfl (subE.cons rfl (subE.cons rfl (subE.nil _))))), hS.sub .nil rfl⟩) ?_
 rintro x T S hO
 cases o_54 with
 | brk s =>
  obtain ⟨rfl, hT, hS⟩ := hO
  refine (show G (.exit 0) L F.o8 [] [] (Blk 0 (ae2 L K.o8.res [])) from ?_) T S hT hS
  refine aQ0 ?_
  obtain rfl := Option.some.inj h
  exact br3 .nil
 | ret r =>
  obtain rfl := Option.some.inj h
  obtain ⟨rfl, hO⟩ := hO
  exact hO
def S.o9 (P : Program) (φ : (List (List UInt8)) → Int → Int → Int → Option Unit) : Prop := ∀ (a0 : (List (List UInt8))) (a1 : Int) (a2 : Int) (a3 : Int) (r : Unit), φ a0 a1 a2 a3 = some r → ∀ (k0 : Nat) (args : List AV), RVN [.sl 1 (a0.map aa8), .int .i64 a1, .int .i64 a2, .int .i64 a3] args → a15 P F.o9 args (ResC [])
def ag1 (L : Nat) (p0 : (List (List UInt8))) (v0 : AV)  : (Int × Int × Int × Bool × Bool) → BT → AS → Prop := fun (p1, p2, p3, p8, p9) T S => Ag [(0, v0), (1, .lit (.int .i64 p1)), (2, .lit (.int .i64 p2)), (3, .lit (.int .i64 p3)), (8, .lit (.bool p8)), (9, .lit (.bool p9))] T ∧ StA S L F.o9 []
def ai4 (L : Nat) (p0 : (List (List UInt8))) (v0 : AV)  : Unit → BT → AS → Prop := fun _ T S => Ag [] T ∧ StA S L F.o9 []
theorem aA6 {P : Program} [hc : ae8 P] (fu : Nat) (rec_slices_pdqsortOrdered_string : (List (List UInt8)) → Int → Int → Int → Option Unit) (hr_slices_pdqsortOrdered_string : S.o9 P rec_slices_pdqsortOrdered_string) {L : Nat} (p0 : (List (List UInt8))) (p1 : Int) (p2 : Int) (p3 : Int) (p8 : Bool) (p9 : Bool) (p10 : Int) {v0 : AV} (r0 : RelC (.sl 1 (p0.map aa8)) v0) : ∀ (c : Ctl (Int × Int × Int × Bool × Bool) Unit Unit), am8 fu rec_slices_pdqsortOrdered_string p0 p1 p2 p3 p8 p9 p10 = some c → G .normal L F.o9 [(0, v0), (1, .lit (.int .i64 p1)), (2, .lit (.int .i64 p2)), (3, .lit (.int .i64 p3)), (8, .lit (.bool p8)), (9, .lit (.bool p9)), (10, .lit (.int .i64 p10))] [] (Thn P K.aq8 (Blk 1 (at7 0 (ag1 L p0 v0) (ai4 L p0 v0) (fun r => ae2 L K.o9.res []) c))) := by
 intro c h
 unfold am8 at h
 refine aa0 (aa1 (aa2 (o6 (s_mv rfl) (o6 (s_mv rfl) (o6 (s_mv rfl) ?_)))))
 cases h
theorem aA7 {P : Program} [hc : ae8 P] (fu : Nat) (rec_slices_pdqsortOrdered_string : (List (List UInt8)) → Int → Int → Int → Option Unit) (hr_slices_pdqsortOrdered_string : S.o9 P rec_slices_pdqsortOrdered_string) {L : Nat} (p0 : (List (List UInt8))) {v0 : AV} (r0 : RelC (.sl 1 (p0.map aa8)) v0) : ∀ (s : (Int × Int × Int × Bool × Bool)) (c : Ctl (Int × Int × Int × Bool × Bool) Unit Unit), ah2 fu rec_slices_pdqsortOrdered_string p0 s = some c → ∀ T S, ag1 L p0 v0 s T S → RunB P K.am0 T S (at7 0 (ag1 L p0 v0) (ai4 L p0 v0) (fun r => ae2 L K.o9.res []) c) := by
 rintro ⟨p1, p2, p3, p8, p9⟩ c h T S ⟨hT, hS⟩
 unfold ah2 at h
 refine (show GC P K.am0 L F.o9 [(0, v0), (1, .lit (.int .i64 p1)), (2, .lit (.int .i64 p2)), (3, .lit (.int .i64 p3)), (8, .lit (.bool p8)), (9, .lit (.bool p9))] [] (at7 0 (ag1 L p0 v0) (ai4 L p0 v0) (fun r => ae2 L K.o9.res []) c) from ?_) T S hT hS
 refine ai7 (aa1 (aa2 (o6 (s_mv rfl) (o6 (s_mv rfl) (o6 (s_ib rfl rfl rfl) (o6 (s_mv rfl) (aa4 ?_)))))))
 refine aa0 (aa1 (aa1 (aa2 (o6 (s_mv rfl) (o6 (s_ib rfl rfl rfl) (aa4 (aa0 ?_)))))))
 by_cases h_1 : (G.subI p2 p1) ≤ 12
 ·replace h := iteT h h_1
  refine g_cT rfl (decide_eq_true h_1) (aa1 (aa2 (o6 (s_mv rfl) (o6 (s_mv rfl) (o6 (s_mv rfl) ?_)))))
  obtain ⟨x_2, e_3, h⟩ := ae5 h
  refine ah6 (bW7 (rs := [.sl 1 (p0.map aa8), .int .i64 p1, .int .i64 p2]) (fun _ => rfl) rfl (RVL.toN (L := L + 1) ⟨_, _, rfl, r0.toS, _, _, rfl, rfl, _, _, rfl, rfl, rfl⟩) ((ax4) _ _ _ _ e_3 (L + 1) _)) ?_
  rintro _ ⟨_, rfl, rfl⟩
  refine aa4 (aa0 (ar4 (aY6 (cR5 ?_))))
  obtain rfl := Option.some.inj h
  exact fun T S hT hS => ⟨rfl, (br3 (x := .ret) (rs := []) .nil) T S hT hS⟩
 ·replace h := iteF h h_1
  refine g_cF rfl (decide_eq_false h_1) (ai6 (aa0 (aa1 (aa1 (aa2 (o6 (s_mv rfl) (o6 (s_ib rfl rfl rfl) ?_)))))))
  refine aa4 (aa0 ?_)
  by_cases h_4 : p3 = 0
  ·replace h := iteT h h_4
   refine g_cT rfl (decide_eq_true h_4) (aa1 (aa2 (o6 (s_mv rfl) (o6 (s_mv rfl) (o6 (s_mv rfl) ?_)))))
   cases h
  ·replace h := iteF h h_4
   refine g_cF rfl (decide_eq_false h_4) (ai6 (aa0 (aa1 (aa1 (aa2 (o6 (s_mv rfl) (o6 (s_nt rfl) ?_)))))))
   refine aa4 (aa0 ?_)
   by_cases h_5 : (!p8) = true
   ·replace h := iteT h h_5
    refine g_cT rfl h_5 (aa1 (aa2 (o6 (s_mv rfl) (o6 (s_mv rfl) (o6 (s_mv rfl) ?_)))))
    cases h
   ·replace h := iteF h h_5
    refine g_cF rfl (Bool.eq_false_iff.2 h_5) (ai6 ?_)
    exact b57 (subE.cons rfl (subE.cons rfl (subE.cons rfl (subE.cons rfl (subE.cons rfl (subE.cons rfl (subE.cons rfl (subE.nil _)))))))) .nil rfl (aA6 fu rec_slices_pdqsortOrdered_string hr_slices_pdqsortOrdered_string p0 p1 p2 p3 p8 p9 (G.subI p2 p1) (v0 := v0) r0 _ h)
theorem ax7 {P : Program} [hc : ae8 P] (fu : Nat) (rec_slices_pdqsortOrdered_string : (List (List UInt8)) → Int → Int → Int → Option Unit) (hr_slices_pdqsortOrdered_string : S.o9 P rec_slices_pdqsortOrdered_string) : S.o9 P (af8 fu rec_slices_pdqsortOrdered_string) := by
 intro a0 a1 a2 a3 r h k0 args ha
 refine ao1 (b := K.o9) rfl hc.o9 (fun _ => rfl) rfl rfl ?_ ha
 rintro L _ ⟨av0, _, rfl, ar0, _, _, rfl, rfl, _, _, rfl, rfl, _, _, rfl, rfl, rfl⟩
 unfold af8 at h
 show GC P _ L F.o9 [(0, av0), (1, .lit (.int .i64 a1)), (2, .lit (.int .i64 a2)), (3, .lit (.int .i64 a3))] [] (ae2 L K.o9.res [])
 refine aa1 (aa2 (o6 (s_mv rfl) (aa4 (aa0 (aa1 (aa2 (o6 (s_mv rfl) ?_)))))))
 refine aa4 (aa0 (ai7 ?_))
 obtain ⟨o_6, e_7, h⟩ := ae5 h
 refine aR0 (IN := ag1 L a0 av0) (IB := ai4 L a0 av0) (IR := fun r => ae2 L K.o9.res []) e_7 (aA7 fu rec_slices_pdqsortOrdered_string hr_slices_pdqsortOrdered_string a0 (v0 := av0) ar0) (fun T S hT hS => ⟨hT.sub (subE.cons rfl (subE.cons rfl (subE.cons rfl (subE.cons rfl (subE.cons rfl (subE.cons rfl (subE.nil _))))))), hS.sub .nil rfl⟩) ?_
 rintro x T S hO
 cases o_6 with
 | brk s =>
  obtain ⟨rfl, hT, hS⟩ := hO
  refine (show G (.exit 0) L F.o9 [] [] (Blk 0 (ae2 L K.o9.res [])) from ?_) T S hT hS
  refine aQ0 ?_
  obtain rfl := Option.some.inj h
  exact br3 .nil
 | ret r =>
  obtain rfl := Option.some.inj h
  obtain ⟨rfl, hO⟩ := hO
  exact hO
theorem az5 {P : Program} [hc : ae8 P] : ∀ fu : Nat, S.o9 P (o9 fu) := by
 intro fu
 induction fu with
 | zero =>
  refine ?_
  ·intro a0 a1 a2 a3 r h
   simp [o9] at h
 | succ fu ih =>
  have i0 := ih
  refine ?_
  ·intro a0 a1 a2 a3 r h
   rw [o9] at h
   exact ax7 fu (o9 fu) i0 a0 a1 a2 a3 r h
theorem aI9 {P : Program} [hc : ae8 P] (fu : Nat) : S.o9 P (o9 fu) := (az5 fu)
def S.aa5 (P : Program) (φ : (List (List UInt8)) → Option Unit) : Prop := ∀ (a0 : (List (List UInt8))) (r : Unit), φ a0 = some r → ∀ (k0 : Nat) (args : List AV), RVN [.sl 1 (a0.map aa8)] args → a15 P F.aa5 args (ResC [])
theorem aN2 {P : Program} [hc : ae8 P] (fu : Nat) : S.aa5 P (aa5 fu) := by
 intro a0 r h k0 args ha
 refine ao1 (b := K.aa5) rfl hc.aa5 (fun _ => rfl) rfl rfl ?_ ha
 rintro L _ ⟨av0, _, rfl, ar0, rfl⟩
 unfold aa5 at h
 show GC P _ L F.aa5 [(0, av0)] [] (ae2 L K.aa5.res [])
 refine aa1 (aa2 (o6 (s_mv rfl) (o6 (bX7 (c := aa8) rfl ar0) (o6 (s_mv rfl) (aa4 (aa0 (aa2 ?_)))))))
 refine o6 (s_mv rfl) (o6 (s_mv rfl) (o6 (s_mv rfl) (o6 (cS8 rfl) ?_)))
 obtain ⟨x_1, e_2, h⟩ := ae5 h
 refine ah6 (bW7 (rs := [.int .u64 (IntKind.u64.wrap (a0.length : Int))]) (fun _ => rfl) rfl (RVL.toN (L := L + 1) ⟨_, _, rfl, rfl, rfl⟩) ((bQ6) _ _ e_2 (L + 1) _)) ?_
 rintro _ rfl
 obtain ⟨x_3, e_4, h⟩ := ae5 h
 refine ah6 (bW7 (rs := [.sl 1 (a0.map aa8), .int .i64 0, .int .i64 (a0.length : Int), .int .i64 x_1]) (fun _ => rfl) rfl (RVL.toN (L := L + 1) ⟨_, _, rfl, ar0.toS, _, _, rfl, rfl, _, _, rfl, rfl, _, _, rfl, rfl, rfl⟩) ((aI9 fu) _ _ _ _ _ e_4 (L + 1) _)) ?_
 rintro _ ⟨_, rfl, rfl⟩
 refine aa4 ?_
 obtain rfl := Option.some.inj h
 exact br3 .nil
def S.x9 (P : Program) (φ : (List (List UInt8)) → Option (List (List UInt8))) : Prop := ∀ (a0 : (List (List UInt8))) (r : (List (List UInt8))), φ a0 = some r → ∀ (k0 : Nat) (args : List AV), RVN [.sl 1 (a0.map aa8)] args → a15 P F.x9 args (ResC [.sl 1 (r.map aa8)])
def ad1 (L : Nat) (p0 : (List (List UInt8))) (v0 : AV)  : Int → BT → AS → Prop := fun p3 T S => Ag [(0, v0), (3, .lit (.int .i64 p3))] T ∧ StA S L F.x9 []
def ae3 (L : Nat) (p0 : (List (List UInt8))) (v0 : AV)  : Unit → BT → AS → Prop := fun _ T S => Ag [(0, v0)] T ∧ StA S L F.x9 []
def ai3 (L : Nat) (p0 : (List (List UInt8))) (p4 : (List (List UInt8))) (v0 : AV) (v4 : AV)  : (Int × Int) → BT → AS → Prop := fun (p3, p5) T S => Ag [(0, v0), (3, .lit (.int .i64 p3)), (4, v4), (5, .lit (.int .i64 p5))] T ∧ StA S L F.x9 []
def al1 (L : Nat) (p0 : (List (List UInt8))) (p4 : (List (List UInt8))) (v0 : AV) (v4 : AV)  : Int → BT → AS → Prop := fun p3 T S => Ag [(0, v0), (3, .lit (.int .i64 p3))] T ∧ StA S L F.x9 []
theorem aA5 {P : Program} [hc : ae8 P] {L : Nat} (p0 : (List (List UInt8))) (p4 : (List (List UInt8))) {v0 : AV} {v4 : AV} (r0 : RelC (.sl 1 (p0.map aa8)) v0) (r4 : RelS (L + 1) (.sl 1 (p4.map aa8)) v4) : ∀ (s : (Int × Int)) (c : Ctl (Int × Int) Int (Ctl Int Unit (List (List UInt8)))), am4 p0 p4 s = some c → ∀ T S, ai3 L p0 p4 v0 v4 s T S → RunB P K.am3 T S (at7 2 (ai3 L p0 p4 v0 v4) (al1 L p0 p4 v0 v4) (fun r => at7 0 (ad1 L p0 v0) (ae3 L p0 v0) (fun r => ae2 L K.x9.res [.sl 1 (r.map aa8)]) r) c) := by
 rintro ⟨p3, p5⟩ c h T S ⟨hT, hS⟩
 unfold am4 at h
 refine (show GC P K.am3 L F.x9 [(0, v0), (3, .lit (.int .i64 p3)), (4, v4), (5, .lit (.int .i64 p5))] [] (at7 2 (ai3 L p0 p4 v0 v4) (al1 L p0 p4 v0 v4) (fun r => at7 0 (ad1 L p0 v0) (ae3 L p0 v0) (fun r => ae2 L K.x9.res [.sl 1 (r.map aa8)]) r) c) from ?_) T S hT hS
 refine aa1 (aa1 (aa2 (o6 (s_mv rfl) (o6 (s_mv rfl) (o6 (s_ll (c := aa8) rfl r4) (o6 (s_ib rfl rfl rfl) (aa4 ?_)))))))
 refine aa0 ?_
 by_cases h_16 : p5 < (p4.length : Int)
 ·replace h := iteT h h_16
  refine g_cT rfl (decide_eq_true h_16) (ai6 (aa0 (aa1 (ai7 (aa1 (av3 (o6 (s_mv rfl) ?_)))))))
  refine o6 (s_mv rfl) ?_
  obtain ⟨x_19, e_20, h⟩ := ae5 h
  refine ah6 (s_ia (c := aa8) rfl r4 rfl e_20) ?_
  rintro _ ⟨c_17, rfl, r_18⟩
  refine o6 (aO7 (v := .str x_19) (a := .lit (.string (bs x_19))) rfl r_18 rfl (fun _ => aw4)) (o6 (s_mv rfl) (o6 (s_mv rfl) (o6 (s_ib rfl rfl rfl) ?_)))
  obtain ⟨x_23, e_24, h⟩ := ae5 h
  refine ah6 (s_ia (c := aa8) rfl r4 rfl e_24) ?_
  rintro _ ⟨c_21, rfl, r_22⟩
  refine o6 (aO7 (v := .str x_23) (a := .lit (.string (bs x_23))) rfl r_22 rfl (fun _ => aw4)) (o6 (s_sne rfl rfl) (aG1 rfl (aa0 ?_)))
  by_cases h_25 : x_19 ≠ x_23
  ·replace h := iteT h h_25
   refine g_cT rfl (decide_eq_true h_25) (aa1 (aa2 (o6 (s_mv rfl) (o6 (s_mv rfl) (o6 (s_mv rfl) (o6 (s_mv rfl) ?_))))))
   obtain ⟨x_28, e_29, h⟩ := ae5 h
   refine ah6 (s_ia (c := aa8) rfl r4 rfl e_29) ?_
   rintro _ ⟨c_26, rfl, r_27⟩
   refine o6 (aO7 (v := .str x_28) (a := .lit (.string (bs x_28))) rfl r_27 rfl (fun _ => aw4)) ?_
   obtain ⟨x_32, e_33, h⟩ := ae5 h
   refine ah6 (s_ia (c := aa8) rfl r0.toS rfl e_33) ?_
   rintro _ ⟨c_30, rfl, r_31⟩
   cases h
  ·replace h := iteF h h_25
   refine g_cF rfl (decide_eq_false h_25) (ai6 (ak8 (aa0 (aa2 (o6 (s_mv rfl) (o6 (s_ib rfl rfl rfl) (o6 (s_mv rfl) ?_)))))))
   refine aa4 ?_
   obtain rfl := Option.some.inj h
   exact fun T S hT hS => ⟨rfl, ⟨hT.sub (subE.cons rfl (subE.cons rfl (subE.cons rfl (subE.cons rfl (subE.nil _))))), hS.sub .nil rfl⟩⟩
 ·replace h := iteF h h_16
  refine g_cF rfl (decide_eq_false h_16) (aO2 (aN9 ?_))
  obtain rfl := Option.some.inj h
  exact fun T S hT hS => ⟨rfl, ⟨hT.sub (subE.cons rfl (subE.cons rfl (subE.nil _))), hS.sub .nil rfl⟩⟩
theorem aA8 {P : Program} [hc : ae8 P] {L : Nat} (p0 : (List (List UInt8))) {v0 : AV} (r0 : RelC (.sl 1 (p0.map aa8)) v0) : ∀ (s : Int) (c : Ctl Int Unit (List (List UInt8))), am9 p0 s = some c → ∀ T S, ad1 L p0 v0 s T S → RunB P K.al9 T S (at7 0 (ad1 L p0 v0) (ae3 L p0 v0) (fun r => ae2 L K.x9.res [.sl 1 (r.map aa8)]) c) := by
 rintro p3 c h T S ⟨hT, hS⟩
 unfold am9 at h
 refine (show GC P K.al9 L F.x9 [(0, v0), (3, .lit (.int .i64 p3))] [] (at7 0 (ad1 L p0 v0) (ae3 L p0 v0) (fun r => ae2 L K.x9.res [.sl 1 (r.map aa8)]) c) from ?_) T S hT hS
 refine aa1 (aa1 (aa2 (o6 (s_mv rfl) (o6 (s_mv rfl) (o6 (bX7 (c := aa8) rfl r0) (o6 (s_ib rfl rfl rfl) (aa4 ?_)))))))
 refine aa0 ?_
 by_cases h_2 : p3 < (p0.length : Int)
 ·replace h := iteT h h_2
  refine g_cT rfl (decide_eq_true h_2) (ai6 (aa0 (aa1 (ai7 (aa1 (av3 (o6 (s_mv rfl) ?_)))))))
  refine o6 (s_mv rfl) ?_
  obtain ⟨x_5, e_6, h⟩ := ae5 h
  refine ah6 (s_ia (c := aa8) rfl r0.toS rfl e_6) ?_
  rintro _ ⟨c_3, rfl, r_4⟩
  refine o6 (aO7 (v := .str x_5) (a := .lit (.string (bs x_5))) rfl r_4 rfl (fun _ => aw4)) (o6 (s_mv rfl) (o6 (s_mv rfl) (o6 (s_ib rfl rfl rfl) ?_)))
  obtain ⟨x_9, e_10, h⟩ := ae5 h
  refine ah6 (s_ia (c := aa8) rfl r0.toS rfl e_10) ?_
  rintro _ ⟨c_7, rfl, r_8⟩
  refine o6 (aO7 (v := .str x_9) (a := .lit (.string (bs x_9))) rfl r_8 rfl (fun _ => aw4)) (o6 (s_seq1 rfl rfl) (aG1 rfl (aa0 ?_)))
  by_cases h_11 : x_5 = x_9
  ·replace h := iteT h h_11
   refine g_cT rfl (decide_eq_true h_11) (aa1 (aa2 (o6 (s_mv rfl) (o6 (s_mv rfl) ?_))))
   obtain ⟨x_12, e_13, h⟩ := ae5 h
   refine ah6 (s_slL (c := aa8) rfl r0.toS rfl e_13) ?_
   rintro v_14 r_15
   refine o6 (s_mv rfl) (aa4 (aa0 (aa1 (aa1 (aa2 (o6 (s_mv rfl) (aa4 ?_)))))))
   refine aa0 (ai7 ?_)
   obtain ⟨o_34, e_35, h⟩ := ae5 h
   refine aR0 (IN := ai3 L p0 x_12 v0 v_14) (IB := al1 L p0 x_12 v0 v_14) (IR := fun r => at7 0 (ad1 L p0 v0) (ae3 L p0 v0) (fun r => ae2 L K.x9.res [.sl 1 (r.map aa8)]) r) e_35 (aA5 p0 x_12 (v0 := v0) (v4 := v_14) r0 r_15) (fun T S hT hS => ⟨hT.sub (subE.cons rfl (subE.cons rfl (subE.cons rfl (subE.cons rfl (subE.nil _))))), hS.sub .nil rfl⟩) ?_
   rintro x T S hO
   cases o_34 with
   | brk p3b_36 =>
    obtain ⟨rfl, hT, hS⟩ := hO
    refine (show G (.exit 2) L F.x9 [(0, v0), (3, .lit (.int .i64 p3b_36))] [] (Blk 2 (Thn P K.ar7 (Blk 1 (Thn P K.as2 (at7 0 (ad1 L p0 v0) (ae3 L p0 v0) (fun r => ae2 L K.x9.res [.sl 1 (r.map aa8)]) c))))) from ?_) T S hT hS
    refine aQ0 (aa0 (aa1 (aa2 (o6 (s_mv rfl) (o6 (s_mv rfl) ?_)))))
    obtain ⟨x_37, e_38, h⟩ := ae5 h
    refine ah6 (s_slL (c := aa8) rfl r0.toS rfl e_38) ?_
    rintro v_39 r_40
    cases h
   | ret r =>
    obtain rfl := Option.some.inj h
    obtain ⟨rfl, hO⟩ := hO
    exact hO
  ·replace h := iteF h h_11
   refine g_cF rfl (decide_eq_false h_11) (ai6 (ak8 (aa0 (aa2 (o6 (s_mv rfl) (o6 (s_ib rfl rfl rfl) (o6 (s_mv rfl) ?_)))))))
   refine aa4 ?_
   obtain rfl := Option.some.inj h
   exact fun T S hT hS => ⟨rfl, ⟨hT.sub (subE.cons rfl (subE.cons rfl (subE.nil _))), hS.sub .nil rfl⟩⟩
 ·replace h := iteF h h_2
  refine g_cF rfl (decide_eq_false h_2) (aO2 (aN9 ?_))
  obtain rfl := Option.some.inj h
  exact fun T S hT hS => ⟨rfl, ⟨hT.sub (subE.cons rfl (subE.nil _)), hS.sub .nil rfl⟩⟩
theorem aH8 {P : Program} [hc : ae8 P] : S.x9 P (x9) := by
 intro a0 r h k0 args ha
 refine ao1 (b := K.x9) rfl hc.x9 (fun _ => rfl) rfl rfl ?_ ha
 rintro L _ ⟨av0, _, rfl, ar0, rfl⟩
 unfold x9 at h
 show GC P _ L F.x9 [(0, av0)] [] (ae2 L K.x9.res [.sl 1 (r.map aa8)])
 refine aa1 (aa2 (o6 (s_mv rfl) (aa4 (aa0 (aa1 (aa1 (aa2 ?_)))))))
 refine o6 (s_mv rfl) (o6 (bX7 (c := aa8) rfl ar0) (o6 (s_ib rfl rfl rfl) (aa4 (aa0 ?_))))
 by_cases h_1 : (a0.length : Int) < 2
 ·replace h := iteT h h_1
  refine g_cT rfl (decide_eq_true h_1) (aa1 (aa2 (o6 (s_mv rfl) (o6 (s_mv rfl) (aa4 (aa0 (ar4 ?_)))))))
  refine aY6 ?_
  obtain rfl := Option.some.inj h
  exact br3 (.t rfl ar0.toS .nil)
 ·replace h := iteF h h_1
  refine g_cF rfl (decide_eq_false h_1) (ai6 (aa0 (aa1 (aa1 (aa2 (o6 (s_mv rfl) (aa4 ?_)))))))
  refine aa0 (ai7 ?_)
  obtain ⟨o_41, e_42, h⟩ := ae5 h
  refine aR0 (IN := ad1 L a0 av0) (IB := ae3 L a0 av0) (IR := fun r => ae2 L K.x9.res [.sl 1 (r.map aa8)]) e_42 (aA8 a0 (v0 := av0) ar0) (fun T S hT hS => ⟨hT.sub (subE.cons rfl (subE.cons rfl (subE.nil _))), hS.sub .nil rfl⟩) ?_
  rintro x T S hO
  cases o_41 with
  | brk s =>
   obtain ⟨rfl, hT, hS⟩ := hO
   refine (show G (.exit 0) L F.x9 [(0, av0)] [] (Blk 0 (Thn P K.aq7 (ae2 L K.x9.res [.sl 1 (r.map aa8)]))) from ?_) T S hT hS
   refine aQ0 (aa0 (aa1 (aa2 (o6 (s_mv rfl) (o6 (s_mv rfl) (aa4 (aa0 ?_)))))))
   refine ar4 ?_
   obtain rfl := Option.some.inj h
   exact br3 (.t rfl ar0.toS .nil)
  | ret r =>
   obtain rfl := Option.some.inj h
   obtain ⟨rfl, hO⟩ := hO
   exact hO
theorem aW4 {P : Program} [hc : ae8 P] : S.ag6 P ag6 := hc.ext_slices_Clone_int_int
theorem az0 {P : Program} [hc : ae8 P] : S.ab4 P ab4 := hc.ext_slices_Clone_mach_Item_mach_Item
end Go.Proofs.YtbinfgmdamlkbaaGreatDoor
namespace Go.Proofs.YtbinfgmdamlkbaaGreatDoor
open Go.RowKit
def S.aa9 (P : Program) (φ : (Option D.ab9) → Option (List (List UInt8))) : Prop := ∀ (a0 : (Option D.ab9)) (r : (List (List UInt8))), φ a0 = some r → ∀ (k0 : Nat) (args : List AV), RVN [.v (vref ac2 a0)] args → a15 P F.aa9 args (ResC [.sl 1 (r.map aa8)])
def ap9 (L : Nat) (p10 : (List D.ao2)) (p11 : Int) (v10 : AV)  : ((List (List UInt8)) × Int) → BT → AS → Prop := fun (p3, p12) T S => ∃ (v3 : AV), RelS (L + 1) (.sl 1 (p3.map aa8)) v3 ∧ Ag [(3, v3), (10, v10), (11, .lit (.int .i64 p11)), (12, .lit (.int .i64 p12))] T ∧ StA S L F.aa9 [.tok [26, 37] 1 9 v3]
def aw0 (L : Nat) (p10 : (List D.ao2)) (p11 : Int) (v10 : AV)  : (List (List UInt8)) → BT → AS → Prop := fun p3 T S => ∃ (v3 : AV), RelS (L + 1) (.sl 1 (p3.map aa8)) v3 ∧ Ag [(3, v3)] T ∧ StA S L F.aa9 [.tok [26, 37] 1 9 v3]
theorem bb7 {P : Program} [hc : ae8 P] (fu : Nat) {L : Nat} (p10 : (List D.ao2)) (p11 : Int) {v10 : AV} (r10 : RelC (.sl 26 (p10.map ae9)) v10) : ∀ (s : ((List (List UInt8)) × Int)) (c : Ctl ((List (List UInt8)) × Int) (List (List UInt8)) (List (List UInt8))), au2 fu p10 p11 s = some c → ∀ T S, ap9 L p10 p11 v10 s T S → RunB P K.ax0 T S (at7 0 (ap9 L p10 p11 v10) (aw0 L p10 p11 v10) (fun r => ae2 L K.aa9.res [.sl 1 (r.map aa8)]) c) := by
 rintro ⟨p3, p12⟩ c h T S ⟨v3, r3, hT, hS⟩
 unfold au2 at h
 refine (show GC P K.ax0 L F.aa9 [(3, v3), (10, v10), (11, .lit (.int .i64 p11)), (12, .lit (.int .i64 p12))] [.tok [26, 37] 1 9 v3] (at7 0 (ap9 L p10 p11 v10) (aw0 L p10 p11 v10) (fun r => ae2 L K.aa9.res [.sl 1 (r.map aa8)]) c) from ?_) T S hT hS
 refine aa1 (aa2 (o6 (s_ib rfl rfl rfl) (aa4 (aa0 (aa1 ?_)))))
 by_cases h_9 : p12 < p11
 ·replace h := iteT h h_9
  refine g_cT rfl (decide_eq_true h_9) (ai6 (aa0 (aa1 (ai7 (aa1 (aa2 ?_))))))
  obtain ⟨x_12, e_13, h⟩ := ae5 h
  refine ah6 (s_ia (c := ae9) rfl r10.toS rfl e_13) ?_
  rintro _ ⟨c_10, rfl, r_11⟩
  refine ah6 (cg8 (N := ae9 x_12) rfl r_11 rfl rfl) ?_
  rintro _ ⟨c_14, rfl, r_15⟩
  refine g_al rfl fun g_16 => ?_
  refine g_stC (Xs := ae9 x_12) (M' := ae9 x_12) rfl rfl rfl rfl cQ2 r_15 rfl rfl rfl fun d_17 s_18 q_19 => ?_
  refine aa4 (aa0 (aa1 (aa2 (o6 (s_fa rfl rfl) (ah6 (c61 (off := 0) (N := aM1 x_12.Command) rfl rfl s_18 rfl rfl) ?_)))))
  rintro _ ⟨c_20, rfl, r_21⟩
  refine g_al rfl fun g_22 => ?_
  refine g_stC (Xs := aM1 x_12.Command) (M' := aM1 x_12.Command) rfl rfl rfl rfl b68 r_21 rfl rfl rfl fun d_23 s_24 q_25 => ?_
  refine aa4 (aa0 (ai7 (aa1 (aa2 (o6 (s_fa rfl rfl) (o6 (cu8 (off := 10) (v := .int .u8 x_12.Command.Name) (a := .lit (.int .u8 x_12.Command.Name)) rfl rfl (s_24).toS rfl (fun _ => relS_int)) (o6 (s_ib rfl rfl rfl) ?_)))))))
  refine o6 (s_mv rfl) (aa4 (aa0 ?_))
  by_cases h_26 : x_12.Command.Name = 119
  ·replace h := iteT h h_26
   refine g_cT rfl (decide_eq_true h_26) (aa2 (o6 (s_mv rfl) (o6 (s_fa rfl rfl) (o6 (cu8 (off := 11) (v := .str x_12.Command.Arg) (a := .lit (.string (bs x_12.Command.Arg))) rfl rfl (s_24).toS rfl (fun _ => bR7)) (ah6 (cE4 (es' := List.map aa8 [x_12.Command.Arg]) rfl (.cons (Xs := [.str x_12.Command.Arg]) rfl (bk3 _) rfl .nil) rfl) ?_)))))
   rintro v_27 ⟨r_28, k_29⟩
   obtain ⟨x_30, e_31, h⟩ := ae5 h
   refine g_apC (i := 0) (c := aa8) rfl rfl rfl rfl r3 r_28 rfl rfl e_31 fun v_32 r_33 => ?_
   refine o6 (s_mv rfl) (aa4 (ak8 (ak8 (aa0 (aa2 (o6 (s_ib rfl rfl rfl) (o6 (s_mv rfl) ?_)))))))
   refine aa4 ?_
   obtain rfl := Option.some.inj h
   exact fun T S hT hS => ⟨rfl, ⟨v_32, r_33, hT.sub (subE.cons rfl (subE.cons rfl (subE.cons rfl (subE.cons rfl (subE.nil _))))), hS.sub (.cons (i := 0) rfl .rfl .nil) rfl⟩⟩
  ·replace h := iteF h h_26
   refine g_cF rfl (decide_eq_false h_26) (aa1 (aa2 (o6 (s_fa rfl rfl) (o6 (s_fa rfl rfl) (o6 (cu8 (off := 18) (v := .str x_12.Command.Sub.File) (a := .lit (.string (bs x_12.Command.Sub.File))) rfl rfl (s_24).toS rfl (fun _ => bR7)) (o6 (s_sne rfl rfl) (o6 (s_mv rfl) ?_)))))))
   refine aa4 (aa0 ?_)
   by_cases h_34 : x_12.Command.Sub.File ≠ []
   ·replace h := iteT h h_34
    refine g_cT rfl (decide_eq_true h_34) (aa2 (o6 (s_mv rfl) (o6 (s_fa rfl rfl) (o6 (s_fa rfl rfl) (o6 (cu8 (off := 18) (v := .str x_12.Command.Sub.File) (a := .lit (.string (bs x_12.Command.Sub.File))) rfl rfl (s_24).toS rfl (fun _ => bR7)) (ah6 (cE4 (es' := List.map aa8 [x_12.Command.Sub.File]) rfl (.cons (Xs := [.str x_12.Command.Sub.File]) rfl (bk3 _) rfl .nil) rfl) ?_))))))
    rintro v_35 ⟨r_36, k_37⟩
    obtain ⟨x_38, e_39, h⟩ := ae5 h
    refine g_apC (i := 0) (c := aa8) rfl rfl rfl rfl r3 r_36 rfl rfl e_39 fun v_40 r_41 => ?_
    refine o6 (s_mv rfl) (aa4 (ak8 (ak8 (aa0 (aa2 (o6 (s_ib rfl rfl rfl) (o6 (s_mv rfl) ?_)))))))
    refine aa4 ?_
    obtain rfl := Option.some.inj h
    exact fun T S hT hS => ⟨rfl, ⟨v_40, r_41, hT.sub (subE.cons rfl (subE.cons rfl (subE.cons rfl (subE.cons rfl (subE.nil _))))), hS.sub (.cons (i := 0) rfl .rfl .nil) rfl⟩⟩
   ·replace h := iteF h h_34
    refine g_cF rfl (decide_eq_false h_34) (ai6 (ak8 (ak8 (aa0 (aa2 (o6 (s_ib rfl rfl rfl) (o6 (s_mv rfl) ?_)))))))
    refine aa4 ?_
    obtain rfl := Option.some.inj h
    exact fun T S hT hS => ⟨rfl, ⟨v3, r3, hT.sub (subE.cons rfl (subE.cons rfl (subE.cons rfl (subE.cons rfl (subE.nil _))))), hS.sub (.cons (i := 0) rfl .rfl .nil) rfl⟩⟩
 ·replace h := iteF h h_9
  refine g_cF rfl (decide_eq_false h_9) (aO2 (aN9 ?_))
  obtain rfl := Option.some.inj h
  exact fun T S hT hS => ⟨rfl, ⟨v3, r3, hT.sub (subE.cons rfl (subE.nil _)), hS.sub (.cons (i := 0) rfl .rfl .nil) rfl⟩⟩
theorem bz9 {P : Program} [hc : ae8 P] (fu : Nat) : S.aa9 P (aa9 fu) := by
 intro a0 r h k0 args ha
 refine ao1 (b := K.aa9) rfl hc.aa9 (fun _ => rfl) rfl rfl ?_ ha
 rintro L _ ⟨av0, _, rfl, ar0, rfl⟩
 unfold aa9 at h
 show GC P _ L F.aa9 [(0, av0)] [] (ae2 L K.aa9.res [.sl 1 (r.map aa8)])
 refine aa1 (aa2 (o6 (s_mv rfl) (aa4 (aa0 (aa1 (aa2 (o6 (s_mv rfl) ?_)))))))
 refine aa4 (aa0 (aa1 (aa1 (aa2 (o6 (s_mv rfl) ?_)))))
 obtain ⟨x_3, e_4, h⟩ := ae5 h
 refine ah6 (cJ8 (c := ac2) rfl ar0 e_4) ?_
 rintro _ ⟨c_1, rfl, r_2⟩
 refine ah6 (cI6 rfl r_2) ?_
 rintro _ ⟨c_5, rfl, r_6⟩
 refine ah6 (cX8 (v := .sl 26 (x_3.Ops.map ae9)) rfl r_6 rfl) ?_
 rintro v_7 r_8
 refine o6 (bX7 (c := ae9) rfl r_8) (o6 (s_mv rfl) (aa4 (aa0 (ai7 (g_addC (ks := [26, 37]) (n := 1) (e := 9) (x := (.lit (.slice none 0 0))) (.inl ⟨_, rfl⟩) ?_)))))
 obtain ⟨o_42, e_43, h⟩ := ae5 h
 refine aR0 (IN := ap9 L x_3.Ops (x_3.Ops.length : Int) v_7) (IB := aw0 L x_3.Ops (x_3.Ops.length : Int) v_7) (IR := fun r => ae2 L K.aa9.res [.sl 1 (r.map aa8)]) e_43 (bb7 fu x_3.Ops (x_3.Ops.length : Int) (v10 := v_7) r_8) (fun T S hT hS => ⟨(.lit (.slice none 0 0)), (RelC.nil 1 _).toS, hT.sub (subE.cons rfl (subE.cons rfl (subE.cons rfl (subE.cons rfl (subE.nil _))))), hS.sub (.cons (i := 0) rfl .rfl .nil) rfl⟩) ?_
 rintro x T S hO
 cases o_42 with
 | brk p3b_44 =>
  obtain ⟨rfl, v3b_44, r3b_44, hT, hS⟩ := hO
  refine (show G (.exit 0) L F.aa9 [(3, v3b_44)] [.tok [26, 37] 1 9 v3b_44] (Blk 0 (Thn P K.aL7 (ae2 L K.aa9.res [.sl 1 (r.map aa8)]))) from ?_) T S hT hS
  refine aQ0 (aa0 (aa1 (aa2 (o6 (s_mv rfl) ?_))))
  obtain ⟨x_45, e_46, h⟩ := ae5 h
  refine ah6 (bW7 (rs := [.sl 1 (p3b_44.map aa8)]) (fun _ => rfl) rfl (RVL.toN (L := L + 1) ⟨_, _, rfl, r3b_44, rfl⟩) ((aN2 fu) _ _ e_46 (L + 1) _)) ?_
  rintro _ ⟨_, rfl, rfl⟩
  refine aa4 (aa0 (aa1 (aa2 (o6 (s_mv rfl) ?_))))
  obtain ⟨x_47, e_48, h⟩ := ae5 h
  refine ah6 (bW7 (rs := [.sl 1 (p3b_44.map aa8)]) (fun _ => rfl) rfl (RVL.toN (L := L + 1) ⟨_, _, rfl, r3b_44, rfl⟩) ((aH8) _ _ e_48 (L + 1) _)) ?_
  rintro v_49 r_50
  replace r_50 := ResC.one r_50
  refine o6 (s_mv rfl) (aa4 (aa0 (ar4 ?_)))
  obtain rfl := Option.some.inj h
  exact br3 (.t rfl r_50.toS .nil)
 | ret r =>
  obtain rfl := Option.some.inj h
  obtain ⟨rfl, hO⟩ := hO
  exact hO
end Go.Proofs.YtbinfgmdamlkbaaGreatDoor
