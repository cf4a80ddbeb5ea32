/-
  A part of the proof: packed by a program.
-/
import Derived.Test.YtdcfkmgnkhkoeaaGreatDoorQM4
import Derived.KernelRfl
import Derived.ProofKit
import Derived.OpenShut
import Derived.Test.YtdcfkmgnkhkoeaaGreatDoorCards
import Derived.Test.YtdcfkmgnkhkoeaaGreatDoorTie
import Derived.Deep.DeepHandedRow
import Derived.SizedLaws
import Derived.Test.YtdcfkmgnkhkoeaaGreatDoorRows
import Derived.JoinedCond
import GoSem.ClaimGoes
set_option maxRecDepth 100000
set_option maxHeartbeats 4000000
set_option linter.unusedVariables false
set_option linter.unusedSimpArgs false
namespace Go.Proofs.YtdcfkmgnkhkoeaaGreatDoor
open Go.RowKit
instance (n : Nat) : OfNat X n:=⟨.t n⟩
@[reducible] def b0 (d : Nat) (o : BO) : BI:=⟨some d,none,.none,o⟩
@[reducible] def i0 (n : Int) : X:=.c (.lit (.int .i64 n))
def K.bT8 : BC:=.seq (.ops [⟨some 16,none,(.at 2),.ldn 4 2⟩,⟨none,none,(.at 4),.st 4 4 16⟩]) .ret
def K.b34 : BC:=.seq (.ops [b0 5 (.mv 1),b0 6 (.ib .quo 5 (.c (.lit (.int .u8 64)))),b0 7 (.mv 1),b0 8 (.ib .quo 7 (.c (.lit (.int .u8 64)))),b0 9 (.iaa 4 1 2 8),⟨some 10,none,(.at 9),.ld1 9⟩,b0 11 (.mv 1),b0 12 (.ib .rem 11 (.c (.lit (.int .u8 64)))),b0 13 (.ib .shl (.c (.lit (.int .u64 1))) 12),b0 14 (.ib .or 10 13),b0 15 (.iaa 4 1 2 6),⟨none,none,(.at 15),.st 1 15 14⟩]) K.bT8
def K.al4 : BFn:=⟨17,[.cn 4 4],.seq (.ops [⟨some 2,none,.here,.bx 26 0⟩,⟨some 4,none,.here,.al 26 [(.lit (.int .u64 0)),(.lit (.int .u64 0)),(.lit (.int .u64 0)),(.lit (.int .u64 0))]⟩]) K.b34⟩
def K.bY8 : BC:=.cond 12 .skip (.exit 0)
def K.bY4 : BC:=.ops [b0 13 (.mv 6),b0 14 (.ib .add 13 (i0 1)),b0 6 (.mv 14)]
def K.bU3 : BC:=.seq (.block 1 (.ops [⟨some 15,none,(.at 5),.ldn 4 5⟩,b0 16 (.mv 6),⟨some 17,none,(.at 16),.cvi .u8 16⟩,b0 18 (.cl 20 [15,17]),⟨none,none,(.at 5),.st 4 5 18⟩])) K.bY4
def K.bZ6 : BC:=.seq (.seq (.ops [b0 9 (.mv 6),b0 10 (.mv 1),⟨some 11,none,(.at 10),.cvi .i64 10⟩,b0 12 (.ib .leq 9 11)]) K.bY8) K.bU3
def K.bZ3 : BC:=.block 0 (.loop K.bZ6)
def K.bZ7 : BC:=.seq (.ops [⟨some 19,none,(.at 5),.ldn 4 5⟩,⟨none,none,(.at 4),.st 4 4 19⟩]) .ret
def K.bU8 : BC:=.seq (.seq (.ops [b0 7 (.mv 0),⟨some 8,none,(.at 7),.cvi .i64 7⟩,b0 6 (.mv 8)]) K.bZ3) K.bZ7
def K.bS6 : BC:=.seq (.ops [⟨some 5,none,.here,.al 26 [(.lit (.int .u64 0)),(.lit (.int .u64 0)),(.lit (.int .u64 0)),(.lit (.int .u64 0))]⟩]) K.bU8
def K.al7 : BFn:=⟨20,[.cn 4 4],.seq (.ops [⟨some 4,none,.here,.al 26 [(.lit (.int .u64 0)),(.lit (.int .u64 0)),(.lit (.int .u64 0)),(.lit (.int .u64 0))]⟩]) K.bS6⟩
def K.b36 : BC:=.seq (.ops [b0 3 (.mv 0),b0 4 (.mv 0),b0 5 (.cl 13 [3,4]),b0 6 (.bd [(.lit (.int .i64 0)),(.lit (.int .u64 0)),(.lit (.int .u64 0)),(.lit (.int .u64 0)),(.lit (.int .u64 0)),(.lit (.slice none 0 0)),(.lit (.int .i64 0)),(.lit (.int .i64 0)),(.lit (.int .i64 0))] [(0,1,(i0 1)),(1,4,5)]),⟨none,none,(.at 2),.st 9 2 6⟩]) .ret
def K.al9 : BFn:=⟨7,[.cn 2 9],.seq (.ops [⟨some 2,none,.here,.al 28 [(.lit (.int .i64 0)),(.lit (.int .u64 0)),(.lit (.int .u64 0)),(.lit (.int .u64 0)),(.lit (.int .u64 0)),(.lit (.slice none 0 0)),(.lit (.int .i64 0)),(.lit (.int .i64 0)),(.lit (.int .i64 0))]⟩]) K.b36⟩
def K.b51 : BC:=.seq (.ops [b0 11 (.fa 0 3),⟨some 12,none,(.at 11),.ld1 11⟩,b0 2 (.mv 12)]) .ret
def K.b67 : BC:=.seq (.ops [⟨some 3,none,.here,.al 81 [(.lit (.slice none 0 0))]⟩,⟨none,none,(.at 3),.st 1 3 10⟩]) K.b51
def K.b84 : BC:=.seq (.ops [b0 16 (.fa 0 4),⟨some 17,none,(.at 16),.ld1 16⟩,b0 2 (.mv 17)]) .ret
def K.b48 : BC:=.seq (.ops [⟨some 4,none,.here,.al 82 [(.lit (.slice none 0 0))]⟩,⟨none,none,(.at 4),.st 1 4 15⟩]) K.b84
def K.cb9 : BC:=.seq (.ops [b0 21 (.fa 0 5),⟨some 22,none,(.at 21),.ld1 21⟩,⟨some 23,none,.here,.bsl 52 1 [22]⟩,b0 2 (.mv 23)]) .ret
def K.b66 : BC:=.seq (.ops [⟨some 5,none,.here,.al 84 [(.lit .nilIface),(.lit (.int .i64 0)),(.lit (.int .i64 0))]⟩,⟨none,none,(.at 5),.st 3 5 20⟩]) K.cb9
def K.b52 : BC:=.seq (.ops [b0 27 (.fa 1 6),⟨some 28,none,(.at 27),.ld1 27⟩,⟨some 29,none,.here,.bsl 52 1 [28]⟩,b0 2 (.mv 29)]) .ret
def K.b91 : BC:=.seq (.ops [⟨some 6,none,.here,.al 86 [(.lit (.int .i64 0)),(.lit .nilIface)]⟩,⟨none,none,(.at 6),.st 2 6 26⟩]) K.b52
def K.b58 : BC:=.cond 25 K.b91 .skip
def K.cc7 : BC:=.seq (.ops [b0 24 (.gen (.typeAssert (.tmp 7) 52 86 true) 0),b0 25 (.ex 24 1),b0 26 (.ex 24 0)]) K.b58
def K.bY9 : BC:=.cond 19 K.b66 K.cc7
def K.bY7 : BC:=.seq (.ops [b0 18 (.gen (.typeAssert (.tmp 7) 52 84 true) 0),b0 19 (.ex 18 1),b0 20 (.ex 18 0)]) K.bY9
def K.bW0 : BC:=.cond 14 K.b48 K.bY7
def K.bX6 : BC:=.seq (.ops [b0 13 (.gen (.typeAssert (.tmp 7) 52 82 true) 0),b0 14 (.ex 13 1),b0 15 (.ex 13 0)]) K.bW0
def K.bW7 : BC:=.cond 9 K.b67 K.bX6
def K.bV0 : BC:=.block 0 (.seq (.ops [b0 8 (.gen (.typeAssert (.tmp 7) 52 81 true) 0),b0 9 (.ex 8 1),b0 10 (.ex 8 0)]) K.bW7)
def K.b35 : BC:=.seq (.ops [b0 2 (.mv (.c (.lit (.slice none 0 0))))]) .ret
def K.bT9 : BC:=.seq (.seq (.ops [b0 7 (.mv 0)]) K.bV0) K.b35
def K.ab7 : BFn:=⟨30,[.t 2],.seq (.ops [b0 2 (.mv (.c (.lit (.slice none 0 0))))]) K.bT9⟩
def K.cd1 : BC:=.seq (.ops [b0 5 (.bd [] []),b0 6 (.mi 92 5),b0 2 (.mv 6)]) .ret
def K.b68 : BC:=.cond 4 K.cd1 .skip
def K.cb6 : BC:=.seq (.ops [b0 7 (.mv 0),b0 2 (.mv 7)]) .ret
def K.b60 : BC:=.seq (.seq (.ops [b0 3 (.mv 0),b0 4 (.gen (.binOp .eql 52 (.tmp 3) (.const .nilIface) 52) 4)]) K.b68) K.cb6
def K.ar1 : BFn:=⟨8,[.t 2],.seq (.ops [b0 2 (.mv (.c (.lit .nilIface)))]) K.b60⟩
def K.b03 : BC:=.seq (.ops [b0 2 (.mv (.c (.lit (.bool false))))]) .ret
def K.bT7 : BC:=.cond 15 K.b03 .skip
def K.bZ5 : BC:=.block 0 (.seq (.ops [b0 5 (.gen (.typeAssert (.tmp 4) 52 92 true) 0),b0 6 (.ex 5 1),b0 7 (.ex 5 0),b0 8 (.gen (.typeAssert (.tmp 4) 52 81 true) 0),b0 9 (.ex 8 1),b0 10 (.ex 8 0),b0 11 (.gen (.typeAssert (.tmp 4) 52 82 true) 0),b0 12 (.ex 11 1),b0 13 (.ex 11 0),b0 14 (.pk 9 (.c (.lit (.bool true))) 12),b0 15 (.pk 6 (.c (.lit (.bool true))) 14)]) K.bT7)
def K.bX8 : BC:=.seq (.ops [b0 2 (.mv (.c (.lit (.bool true))))]) .ret
def K.bW2 : BC:=.seq (.seq (.ops [b0 3 (.mv 0),b0 4 (.cl 98 [3])]) K.bZ5) K.bX8
def K.an8 : BFn:=⟨16,[.t 2],.seq (.ops [b0 2 (.mv (.c (.lit (.bool false))))]) K.bW2⟩
def K.aL0 : BC:=.seq (.ops [b0 3 (.mv 0),b0 4 (.cl 81 [3]),b0 5 (.nt 4),b0 2 (.mv 5)]) .ret
def K.ab2 : BFn:=⟨6,[.t 2],.seq (.ops [b0 2 (.mv (.c (.lit (.bool false))))]) K.aL0⟩
def K.aj6 : BC:=.seq (.ops [b0 17 (.mv 5),b0 4 (.mv 17)]) .ret
def K.ai9 : BC:=.cond 16 K.aj6 .skip
def K.aj0 : BC:=.seq (.ops [b0 11 (.mv 1),b0 12 (.mv 0),b0 13 (.mv 5),b0 14 (.ia 1 12 13),⟨some 15,none,(.at 14),.ld1 14⟩,b0 16 (.cd 11 [15])]) K.ai9
def K.ak0 : BC:=.ops [b0 18 (.ib .add 8 (i0 1)),b0 8 (.mv 18)]
def K.aj7 : BC:=.seq (.block 1 (.seq (.ops [b0 10 (.mv 8),b0 5 (.mv 10)]) K.aj0)) K.ak0
def K.ak4 : BC:=.seq (.cond 9 .skip (.exit 0)) K.aj7
def K.aj9 : BC:=.seq (.ops [b0 9 (.ib .lss 8 7)]) K.ak4
def K.ak1 : BC:=.block 0 (.loop K.aj9)
def K.aj1 : BC:=.seq (.ops [b0 4 (.mv (.c (.lit (.int .i64 (-1)))))]) .ret
def K.ak5 : BC:=.seq (.seq (.ops [b0 6 (.mv 0),⟨some 7,none,(.at 6),.ll 6⟩,b0 8 (.mv (i0 0))]) K.ak1) K.aj1
def K.o9 : BFn:=⟨19,[.t 4],.seq (.ops [b0 4 (.mv (i0 0))]) K.ak5⟩
def K.ai4 : BC:=.seq (.ops [b0 5 (.mv 0),b0 6 (.mv 1),b0 7 (.cl 97 [5,6]),b0 8 (.ib .geq 7 (i0 0)),b0 4 (.mv 8)]) .ret
def K.o8 : BFn:=⟨9,[.t 4],.seq (.ops [b0 4 (.mv (.c (.lit (.bool false))))]) K.ai4⟩
def K.cl1 : BC:=.seq (.ops [b0 10 (.mv 4),b0 2 (.mv 10)]) .ret
def K.cj7 : BC:=.seq (.ops [b0 6 (.mv 0),b0 7 (.gen (.typeAssert (.tmp 6) 52 82 true) 176),b0 5 (.mv 7),b0 8 (.ex 5 0),b0 9 (.ex 5 1),⟨some 3,none,.here,.al 82 [(.lit (.slice none 0 0))]⟩,⟨none,none,(.at 3),.st 1 3 8⟩,b0 4 (.mv 9)]) K.cl1
def K.at7 : BFn:=⟨11,[.t 2],.seq (.ops [b0 2 (.mv (.c (.lit (.bool false))))]) K.cj7⟩
def K.ap2 : BC:=.seq (.ops [b0 17 (.mv 5),b0 4 (.mv 17)]) .ret
def K.ap3 : BC:=.cond 16 K.ap2 .skip
def K.ao7 : BC:=.seq (.ops [b0 11 (.mv 1),b0 12 (.mv 0),b0 13 (.mv 5),b0 14 (.ia 1 12 13),⟨some 15,none,(.at 14),.ld1 14⟩,b0 16 (.cd 11 [15])]) K.ap3
def K.ao4 : BC:=.ops [b0 18 (.ib .add 8 (i0 1)),b0 8 (.mv 18)]
def K.ap5 : BC:=.seq (.block 1 (.seq (.ops [b0 10 (.mv 8),b0 5 (.mv 10)]) K.ao7)) K.ao4
def K.ap6 : BC:=.seq (.cond 9 .skip (.exit 0)) K.ap5
def K.ap4 : BC:=.seq (.ops [b0 9 (.ib .lss 8 7)]) K.ap6
def K.ao2 : BC:=.block 0 (.loop K.ap4)
def K.ap0 : BC:=.seq (.ops [b0 4 (.mv (.c (.lit (.int .i64 (-1)))))]) .ret
def K.ao5 : BC:=.seq (.seq (.ops [b0 6 (.mv 0),⟨some 7,none,(.at 6),.ll 6⟩,b0 8 (.mv (i0 0))]) K.ao2) K.ap0
def K.aa0 : BFn:=⟨19,[.t 4],.seq (.ops [b0 4 (.mv (i0 0))]) K.ao5⟩
def K.an5 : BC:=.seq (.ops [b0 5 (.mv 0),b0 6 (.mv 1),b0 7 (.cl 97 [5,6]),b0 8 (.ib .geq 7 (i0 0)),b0 4 (.mv 8)]) .ret
def K.y9 : BFn:=⟨9,[.t 4],.seq (.ops [b0 4 (.mv (.c (.lit (.bool false))))]) K.an5⟩
def K.aQ0 : BC:=.seq (.ops [b0 14 (.fa 0 5),⟨some 15,none,(.at 14),.ld1 14⟩,⟨some 16,none,(.at 15),.ll 15⟩,b0 17 (.ib .gtr 16 (i0 1)),b0 18 (.mv 17),⟨some 19,(some (18,true)),.none,.fa 0 5⟩,⟨some 20,(some (18,true)),(.at 19),.ld1 19⟩,⟨some 21,(some (18,true)),.none,.cl 79 [20,(.c (.lit (.func (.func 80) #[] #[])))]⟩,⟨some 22,(some (18,true)),.none,.nt 21⟩,b0 23 (.pk 18 22 (.c (.lit (.bool false)))),b0 4 (.mv 23)]) .ret
def K.aU7 : BC:=.seq (.ops [⟨some 5,none,.here,.al 81 [(.lit (.slice none 0 0))]⟩,⟨none,none,(.at 5),.st 1 5 13⟩]) K.aQ0
def K.aZ3 : BC:=.seq (.ops [b0 27 (.fa 0 6),⟨some 28,none,(.at 27),.ld1 27⟩,⟨some 29,none,(.at 28),.ll 28⟩,b0 30 (.ib .gtr 29 (i0 1)),b0 31 (.mv 30),⟨some 32,(some (31,true)),.none,.fa 0 6⟩,⟨some 33,(some (31,true)),(.at 32),.ld1 32⟩,⟨some 34,(some (31,true)),.none,.cl 79 [33,(.c (.lit (.func (.func 82) #[] #[])))]⟩,⟨some 35,(some (31,true)),.none,.nt 34⟩,b0 36 (.pk 31 35 (.c (.lit (.bool false)))),b0 4 (.mv 36)]) .ret
def K.aW3 : BC:=.seq (.ops [⟨some 6,none,.here,.al 82 [(.lit (.slice none 0 0))]⟩,⟨none,none,(.at 6),.st 1 6 26⟩]) K.aZ3
def K.aV9 : BC:=.seq (.ops [b0 40 (.fa 0 7),⟨some 41,none,(.at 40),.ld1 40⟩,b0 42 (.cl 83 [41]),b0 43 (.mv 42),⟨some 44,(some (43,true)),.none,.fa 1 7⟩,⟨some 45,(some (43,true)),(.at 44),.ld1 44⟩,⟨some 46,(some (43,true)),.none,.ib .geq 45 (i0 0)⟩,b0 47 (.pk 43 46 (.c (.lit (.bool false)))),b0 48 (.mv 47),⟨some 49,(some (48,true)),.none,.fa 1 7⟩,⟨some 50,(some (48,true)),(.at 49),.ld1 49⟩,⟨some 51,(some (48,true)),.none,.ib .leq 50 (i0 255)⟩,b0 52 (.pk 48 51 (.c (.lit (.bool false)))),b0 53 (.mv 52),⟨some 54,(some (53,true)),.none,.fa 2 7⟩,⟨some 55,(some (53,true)),(.at 54),.ld1 54⟩,⟨some 56,(some (53,true)),.none,.ib .eql 55 (.c (.lit (.int .i64 (-1))))⟩,⟨some 57,(some (53,true)),.none,.mv 56⟩,⟨some 58,(some (57,false)),.none,.fa 2 7⟩,⟨some 59,(some (57,false)),(.at 58),.ld1 58⟩,⟨some 60,(some (57,false)),.none,.fa 1 7⟩,⟨some 61,(some (57,false)),(.at 60),.ld1 60⟩,⟨some 62,(some (57,false)),.none,.ib .geq 59 61⟩,⟨some 63,(some (57,false)),.none,.mv 62⟩,⟨some 64,(some (63,true)),.none,.fa 2 7⟩,⟨some 65,(some (63,true)),(.at 64),.ld1 64⟩,⟨some 66,(some (63,true)),.none,.ib .leq 65 (i0 255)⟩,⟨some 67,(some (57,false)),.none,.pk 63 66 (.c (.lit (.bool false)))⟩,⟨some 68,(some (53,true)),.none,.pk 57 (.c (.lit (.bool true))) 67⟩,b0 69 (.pk 53 68 (.c (.lit (.bool false)))),b0 4 (.mv 69)]) .ret
def K.aU4 : BC:=.seq (.ops [⟨some 7,none,.here,.al 84 [(.lit .nilIface),(.lit (.int .i64 0)),(.lit (.int .i64 0))]⟩,⟨none,none,(.at 7),.st 3 7 39⟩]) K.aV9
def K.aT1 : BC:=.seq (.draw [b0 80 (.fa 0 8),⟨some 81,none,(.at 80),.ld1 80⟩,b0 82 (.mv 0),b0 83 (.nc 82),b0 84 (.fa 0 83),⟨some 85,none,(.at 84),.ld1 84⟩,b0 86 (.ib .eql 81 85),b0 4 (.mv 86)] []) .ret
def K.aV5 : BC:=.seq (.ops [b0 73 (.mv 0),b0 74 (.nc 73),b0 75 (.fa 0 74),⟨some 76,none,(.at 75),.ld1 75⟩,b0 77 (.ib .add 76 (i0 1)),b0 78 (.nc 73),b0 79 (.fa 0 78),⟨none,none,(.at 79),.st 1 79 77⟩]) K.aT1
def K.a04 : BC:=.seq (.ops [⟨some 8,none,.here,.al 86 [(.lit (.int .i64 0)),(.lit .nilIface)]⟩,⟨none,none,(.at 8),.st 2 8 72⟩]) K.aV5
def K.aV2 : BC:=.seq (.draw [b0 90 (.mv 0),b0 91 (.nc 90),b0 92 (.fa 1 91),⟨some 93,none,(.at 92),.ld1 92⟩,b0 94 (.fa 0 9),⟨some 95,none,(.at 94),.ld1 94⟩,b0 96 (.cl 32 [93,95]),b0 4 (.mv 96)] []) .ret
def K.aP1 : BC:=.seq (.ops [⟨some 9,none,.here,.al 88 [(.lit (.int .i64 0))]⟩,⟨none,none,(.at 9),.st 1 9 89⟩]) K.aV2
def K.aP5 : BC:=.cond 88 K.aP1 .skip
def K.aO7 : BC:=.seq (.ops [b0 87 (.gen (.typeAssert (.tmp 10) 52 88 true) 0),b0 88 (.ex 87 1),b0 89 (.ex 87 0)]) K.aP5
def K.aO1 : BC:=.cond 71 K.a04 K.aO7
def K.aP7 : BC:=.seq (.ops [b0 70 (.gen (.typeAssert (.tmp 10) 52 86 true) 0),b0 71 (.ex 70 1),b0 72 (.ex 70 0)]) K.aO1
def K.aP4 : BC:=.cond 38 K.aU4 K.aP7
def K.aO2 : BC:=.seq (.ops [b0 37 (.gen (.typeAssert (.tmp 10) 52 84 true) 0),b0 38 (.ex 37 1),b0 39 (.ex 37 0)]) K.aP4
def K.aP3 : BC:=.cond 25 K.aW3 K.aO2
def K.aO0 : BC:=.seq (.ops [b0 24 (.gen (.typeAssert (.tmp 10) 52 82 true) 0),b0 25 (.ex 24 1),b0 26 (.ex 24 0)]) K.aP3
def K.aO5 : BC:=.cond 12 K.aU7 K.aO0
def K.aP0 : BC:=.block 0 (.seq (.ops [b0 11 (.gen (.typeAssert (.tmp 10) 52 81 true) 0),b0 12 (.ex 11 1),b0 13 (.ex 11 0)]) K.aO5)
def K.aO8 : BC:=.seq (.ops [b0 4 (.mv (.c (.lit (.bool true))))]) .ret
def K.aP2 : BC:=.seq (.seq (.ops [b0 10 (.mv 1)]) K.aP0) K.aO8
def K.o7 : BFn:=⟨97,[.t 4],.seq (.ops [b0 4 (.mv (.c (.lit (.bool false))))]) K.aP2⟩
def K.bf4 : BC:=.seq (.ops [b0 4 (.mv (.c (.lit (.bool false))))]) .ret
def K.bd4 : BC:=.cond 12 K.bf4 .skip
def K.bd7 : BC:=.seq (.ops [b0 4 (.mv (.c (.lit (.bool false))))]) .ret
def K.be9 : BC:=.cond 23 K.bd7 .skip
def K.bc7 : BC:=.seq (.ops [b0 20 (.mv 0),b0 21 (.mv 6),b0 22 (.cl 36 [20,21]),b0 23 (.nt 22)]) K.be9
def K.bf3 : BC:=.ops [b0 24 (.ib .add 16 (i0 1)),b0 16 (.mv 24)]
def K.be3 : BC:=.seq (.block 1 (.seq (.ops [b0 18 (.ia 1 14 16),⟨some 19,none,(.at 18),.ld1 18⟩,b0 6 (.mv 19)]) K.bc7)) K.bf3
def K.bf6 : BC:=.seq (.cond 17 .skip (.exit 0)) K.be3
def K.bf9 : BC:=.seq (.ops [b0 17 (.ib .lss 16 15)]) K.bf6
def K.be6 : BC:=.block 0 (.loop K.bf9)
def K.aU1 : BC:=.draw [b0 31 (.mv 0),b0 32 (.mv 0),b0 33 (.nc 32),b0 34 (.fa 1 33),⟨some 35,none,(.at 34),.ld1 34⟩,b0 36 (.fa 0 7),⟨some 37,none,(.at 36),.ld1 36⟩,⟨some 38,none,.here,.bsl 3 1 [37]⟩,⟨some 39,none,(.app 35 38),.ap 3 1 8 35 38⟩,b0 40 (.nc 31),b0 41 (.fa 1 40),⟨none,none,(.at 41),.st 1 41 39⟩] [(4,7)]
def K.aW7 : BC:=.cond 30 K.aU1 .skip
def K.aY0 : BC:=.seq (.ops [b0 30 (.mv 8)]) K.aW7
def K.a13 : BC:=.seq (.ops [b0 4 (.mv (.c (.lit (.bool true))))]) .ret
def K.aV8 : BC:=.seq (.seq (.ops [b0 26 (.mv 1),b0 27 (.gen (.typeAssert (.tmp 26) 52 86 true) 111),b0 25 (.mv 27),b0 28 (.ex 25 0),b0 29 (.ex 25 1),⟨some 7,none,.here,.al 86 [(.lit (.int .i64 0)),(.lit .nilIface)]⟩,⟨none,none,(.at 7),.st 2 7 28⟩,b0 8 (.mv 29)]) K.aY0) K.a13
def K.aX5 : BC:=.seq (.seq (.ops [b0 13 (.mv 1),b0 14 (.cl 37 [13]),⟨some 15,none,(.at 14),.ll 14⟩,b0 16 (.mv (i0 0))]) K.be6) K.aV8
def K.aY3 : BC:=.seq (.seq (.ops [b0 9 (.mv 0),b0 10 (.mv 1),b0 11 (.cl 55 [9,10]),b0 12 (.nt 11)]) K.bd4) K.aX5
def K.y5 : BFn:=⟨42,[.t 4],.seq (.ops [b0 4 (.mv (.c (.lit (.bool false))))]) K.aY3⟩
def K.b38 : BC:=.seq (.ops [b0 3 (.bd [(.lit (.int .i64 0)),(.lit (.slice none 0 0))] []),⟨some 4,none,.here,.bx 110 3⟩,b0 5 (.mv 0),b0 6 (.cl 36 [4,5]),b0 2 (.mv 6)]) .ret
def K.al8 : BFn:=⟨7,[.t 2],.seq (.ops [b0 2 (.mv (.c (.lit (.bool false))))]) K.b38⟩
def K.bL3 : BC:=.ops [b0 14 (.mv 3),b0 15 (.ib .add 14 (i0 1)),b0 3 (.mv 15)]
def K.bM7 : BC:=.cond 13 K.bL3 .skip
def K.bI5 : BC:=.seq (.ops [b0 13 (.mv 5)]) K.bM7
def K.bN9 : BC:=.ops [b0 23 (.mv 3),b0 24 (.mv 7),b0 25 (.cl 22 [24]),b0 26 (.ib .add 23 25),b0 3 (.mv 26)]
def K.bN6 : BC:=.ops [b0 27 (.ib .add 19 (i0 1)),b0 19 (.mv 27)]
def K.bI6 : BC:=.seq (.block 1 (.seq (.ops [b0 21 (.ia 1 17 19),⟨some 22,none,(.at 21),.ld1 21⟩,b0 7 (.mv 22)]) K.bN9)) K.bN6
def K.bI0 : BC:=.seq (.cond 20 .skip (.exit 0)) K.bI6
def K.bL2 : BC:=.seq (.ops [b0 20 (.ib .lss 19 18)]) K.bI0
def K.bN2 : BC:=.block 0 (.loop K.bL2)
def K.bH3 : BC:=.seq (.ops [b0 28 (.mv 3),b0 2 (.mv 28)]) .ret
def K.bG0 : BC:=.seq (.seq (.ops [b0 16 (.mv 0),b0 17 (.cl 37 [16]),⟨some 18,none,(.at 17),.ll 17⟩,b0 19 (.mv (i0 0))]) K.bN2) K.bH3
def K.bA8 : BC:=.seq (.seq (.ops [b0 9 (.mv 0),b0 10 (.gen (.typeAssert (.tmp 9) 52 86 true) 111),b0 8 (.mv 10),b0 11 (.ex 8 0),b0 12 (.ex 8 1),⟨some 4,none,.here,.al 86 [(.lit (.int .i64 0)),(.lit .nilIface)]⟩,⟨none,none,(.at 4),.st 2 4 11⟩,b0 5 (.mv 12)]) K.bI5) K.bG0
def K.bG5 : BC:=.seq (.ops [b0 3 (.mv (i0 0))]) K.bA8
def K.ac9 : BFn:=⟨29,[.t 2],.seq (.ops [b0 2 (.mv (i0 0))]) K.bG5⟩
def K.bm5 : BC:=.seq (.ops [b0 4 (.mv (i0 0))]) .ret
def K.bm2 : BC:=.seq (.ops [b0 12 (.mv 0),b0 13 (.nc 12),b0 14 (.fa 4 13),⟨none,none,(.at 14),.st 1 14 (.c (.lit (.bool true)))⟩]) K.bm5
def K.bj6 : BC:=.cond 11 K.bm2 .skip
def K.bk7 : BC:=.seq (.ops [b0 27 (.mv 0),b0 28 (.nc 27),b0 29 (.fa 0 28),b0 30 (.fa 0 29),⟨some 31,none,(.at 30),.ld1 30⟩,⟨some 32,none,(.at 31),.ll 31⟩,b0 33 (.ib .sub 32 (i0 1)),b0 4 (.mv 33)]) .ret
def K.bl8 : BC:=.seq (.draw [b0 15 (.mv 0),b0 16 (.mv 0),b0 17 (.nc 16),b0 18 (.fa 0 17),b0 19 (.fa 0 18),⟨some 20,none,(.at 19),.ld1 19⟩,⟨some 21,none,(.at 3),.ldn 7 3⟩,⟨some 22,none,.here,.bsl 74 7 [21]⟩,⟨some 23,none,(.app 20 22),.ap 74 7 56 20 22⟩,b0 24 (.nc 15),b0 25 (.fa 0 24),b0 26 (.fa 0 25),⟨none,none,(.at 26),.st 1 26 23⟩] [(5,7)]) K.bk7
def K.bj2 : BC:=.seq (.seq (.ops [b0 5 (.mv 0),b0 6 (.nc 5),b0 7 (.fa 0 6),b0 8 (.fa 0 7),⟨some 9,none,(.at 8),.ld1 8⟩,⟨some 10,none,(.at 9),.ll 9⟩,b0 11 (.ib .geq 10 (i0 3000))]) K.bj6) K.bl8
def K.aa6 : BFn:=⟨34,[.t 4],.seq (.ops [⟨some 3,none,.here,.bx 74 1⟩,b0 4 (.mv (i0 0))]) K.bj2⟩
def K.bc6 : BC:=.cond 17 .ret .skip
def K.bd9 : BC:=.ops [b0 22 (.mv 0),b0 23 (.fa 0 4),⟨some 24,none,(.at 23),.ldn 4 23⟩,b0 25 (.bd [(.lit (.int .i64 0)),(.lit (.int .u64 0)),(.lit (.int .u64 0)),(.lit (.int .u64 0)),(.lit (.int .u64 0)),(.lit (.int .i64 0)),(.lit (.int .i64 0))] [(0,1,(i0 0)),(1,4,24)]),b0 26 (.cl 23 [22,25])]
def K.bg0 : BC:=.seq (.ops [⟨some 4,none,.here,.al 79 [(.lit (.int .u64 0)),(.lit (.int .u64 0)),(.lit (.int .u64 0)),(.lit (.int .u64 0))]⟩,⟨none,none,(.at 4),.st 4 4 21⟩]) K.bd9
def K.bg9 : BC:=.ops [b0 30 (.mv 0),b0 31 (.bd [(.lit (.int .i64 0)),(.lit (.int .u64 0)),(.lit (.int .u64 0)),(.lit (.int .u64 0)),(.lit (.int .u64 0)),(.lit (.int .i64 0)),(.lit (.int .i64 0))] [(0,1,(i0 5))]),b0 32 (.cl 23 [30,31])]
def K.bh4 : BC:=.seq (.ops [⟨some 5,none,.here,.al 90 []⟩,⟨none,none,(.at 5),.st 0 5 29⟩]) K.bg9
def K.bg4 : BC:=.ops [b0 36 (.mv 0),b0 37 (.bd [(.lit (.int .i64 0)),(.lit (.int .u64 0)),(.lit (.int .u64 0)),(.lit (.int .u64 0)),(.lit (.int .u64 0)),(.lit (.int .i64 0)),(.lit (.int .i64 0))] [(0,1,(i0 6))]),b0 38 (.cl 23 [36,37])]
def K.bf2 : BC:=.seq (.ops [⟨some 6,none,.here,.al 91 []⟩,⟨none,none,(.at 6),.st 0 6 35⟩]) K.bg4
def K.be5 : BC:=.ops [b0 47 (.mv 0),b0 48 (.nc 47),b0 49 (.fa 0 48),b0 50 (.fa 3 49),⟨none,none,(.at 50),.st 1 50 (.c (.lit (.bool true)))⟩]
def K.bh2 : BC:=.seq (.ops [b0 42 (.mv 0),b0 43 (.fa 0 7),⟨some 44,none,(.at 43),.ld1 43⟩,b0 45 (.bd [(.lit (.int .i64 0)),(.lit (.int .u64 0)),(.lit (.int .u64 0)),(.lit (.int .u64 0)),(.lit (.int .u64 0)),(.lit (.int .i64 0)),(.lit (.int .i64 0))] [(0,1,(i0 4)),(5,1,44)]),b0 46 (.cl 23 [42,45])]) K.be5
def K.bd6 : BC:=.seq (.ops [⟨some 7,none,.here,.al 88 [(.lit (.int .i64 0))]⟩,⟨none,none,(.at 7),.st 1 7 41⟩]) K.bh2
def K.aR3 : BC:=.ops [b0 61 (.mv 0),b0 62 (.mv 10),b0 63 (.cl 24 [61,62])]
def K.aW0 : BC:=.ops [b0 64 (.ib .add 57 (i0 1)),b0 57 (.mv 64)]
def K.aV1 : BC:=.seq (.block 2 (.seq (.ops [b0 59 (.ia 1 55 57),⟨some 60,none,(.at 59),.ld1 59⟩,b0 10 (.mv 60)]) K.aR3)) K.aW0
def K.aS6 : BC:=.seq (.cond 58 .skip (.exit 1)) K.aV1
def K.aQ8 : BC:=.seq (.ops [b0 58 (.ib .lss 57 56)]) K.aS6
def K.aS7 : BC:=.block 1 (.loop K.aQ8)
def K.aX6 : BC:=.seq (.ops [b0 54 (.fa 0 8),⟨some 55,none,(.at 54),.ld1 54⟩,⟨some 56,none,(.at 55),.ll 55⟩,b0 57 (.mv (i0 0))]) K.aS7
def K.a05 : BC:=.seq (.ops [⟨some 8,none,.here,.al 81 [(.lit (.slice none 0 0))]⟩,⟨none,none,(.at 8),.st 1 8 53⟩]) K.aX6
def K.aX9 : BC:=.ops [b0 68 (.mv 0),⟨some 69,none,(.at 11),.ldn 1 11⟩,b0 70 (.cl 38 [68,69])]
def K.aZ4 : BC:=.seq (.ops [⟨some 11,none,.here,.al 82 [(.lit (.slice none 0 0))]⟩,⟨none,none,(.at 11),.st 1 11 67⟩]) K.aX9
def K.aR1 : BC:=.ops [b0 84 (.mv 0),b0 85 (.fa 0 12),⟨some 86,none,(.at 85),.ld1 85⟩,b0 87 (.ib .mul (i0 2) 86),b0 88 (.ib .add 87 (i0 1)),b0 89 (.bd [(.lit (.int .i64 0)),(.lit (.int .u64 0)),(.lit (.int .u64 0)),(.lit (.int .u64 0)),(.lit (.int .u64 0)),(.lit (.int .i64 0)),(.lit (.int .i64 0))] [(0,1,(i0 3)),(5,1,88)]),b0 90 (.cl 23 [84,89])]
def K.a00 : BC:=.seq (.ops [b0 80 (.mv 0),b0 81 (.fa 1 12),⟨some 82,none,(.at 81),.ld1 81⟩,b0 83 (.cl 24 [80,82])]) K.aR1
def K.aX7 : BC:=.seq (.ops [b0 74 (.mv 0),b0 75 (.fa 0 12),⟨some 76,none,(.at 75),.ld1 75⟩,b0 77 (.ib .mul (i0 2) 76),b0 78 (.bd [(.lit (.int .i64 0)),(.lit (.int .u64 0)),(.lit (.int .u64 0)),(.lit (.int .u64 0)),(.lit (.int .u64 0)),(.lit (.int .i64 0)),(.lit (.int .i64 0))] [(0,1,(i0 3)),(5,1,77)]),b0 79 (.cl 23 [74,78])]) K.a00
def K.aU5 : BC:=.seq (.ops [⟨some 12,none,.here,.al 86 [(.lit (.int .i64 0)),(.lit .nilIface)]⟩,⟨none,none,(.at 12),.st 2 12 73⟩]) K.aX7
def K.aY4 : BC:=.ops [b0 94 (.mv 0),⟨some 95,none,(.at 13),.ldn 3 13⟩,b0 96 (.cl 39 [94,95])]
def K.aU9 : BC:=.seq (.ops [⟨some 13,none,.here,.al 84 [(.lit .nilIface),(.lit (.int .i64 0)),(.lit (.int .i64 0))]⟩,⟨none,none,(.at 13),.st 3 13 93⟩]) K.aY4
def K.aX2 : BC:=.cond 92 K.aU9 .skip
def K.aY7 : BC:=.seq (.ops [b0 91 (.gen (.typeAssert (.tmp 18) 52 84 true) 0),b0 92 (.ex 91 1),b0 93 (.ex 91 0)]) K.aX2
def K.aS4 : BC:=.cond 72 K.aU5 K.aY7
def K.a06 : BC:=.seq (.ops [b0 71 (.gen (.typeAssert (.tmp 18) 52 86 true) 0),b0 72 (.ex 71 1),b0 73 (.ex 71 0)]) K.aS4
def K.aT7 : BC:=.cond 66 K.aZ4 K.a06
def K.aQ3 : BC:=.seq (.ops [b0 65 (.gen (.typeAssert (.tmp 18) 52 82 true) 0),b0 66 (.ex 65 1),b0 67 (.ex 65 0)]) K.aT7
def K.aU8 : BC:=.cond 52 K.a05 K.aQ3
def K.aT9 : BC:=.seq (.ops [b0 51 (.gen (.typeAssert (.tmp 18) 52 81 true) 0),b0 52 (.ex 51 1),b0 53 (.ex 51 0)]) K.aU8
def K.aQ6 : BC:=.cond 40 K.bd6 K.aT9
def K.a90 : BC:=.seq (.ops [b0 39 (.gen (.typeAssert (.tmp 18) 52 88 true) 0),b0 40 (.ex 39 1),b0 41 (.ex 39 0)]) K.aQ6
def K.a88 : BC:=.cond 34 K.bf2 K.a90
def K.a14 : BC:=.seq (.ops [b0 33 (.gen (.typeAssert (.tmp 18) 52 91 true) 0),b0 34 (.ex 33 1),b0 35 (.ex 33 0)]) K.a88
def K.aU3 : BC:=.cond 28 K.bh4 K.a14
def K.a07 : BC:=.seq (.ops [b0 27 (.gen (.typeAssert (.tmp 18) 52 90 true) 0),b0 28 (.ex 27 1),b0 29 (.ex 27 0)]) K.aU3
def K.a18 : BC:=.cond 20 K.bg0 K.a07
def K.aS9 : BC:=.block 0 (.seq (.ops [b0 19 (.gen (.typeAssert (.tmp 18) 52 79 true) 0),b0 20 (.ex 19 1),b0 21 (.ex 19 0)]) K.a18)
def K.aP8 : BC:=.seq (.ops [b0 18 (.mv 1)]) K.aS9
def K.o6 : BFn:=⟨97,[],.seq (.seq (.ops [b0 14 (.mv 0),b0 15 (.nc 14),b0 16 (.fa 4 15),⟨some 17,none,(.at 16),.ld1 16⟩]) K.bc6) K.aP8⟩
def K.bF8 : BC:=.seq (.ops [b0 8 (.bd [(.lit (.slice none 0 0)),(.lit (.int .i64 0)),(.lit (.int .i64 0)),(.lit (.bool false))] []),⟨none,none,(.at 2),.st 4 2 8⟩,b0 3 (.mv (i0 2))]) .ret
def K.bD3 : BC:=.cond 7 K.bF8 .skip
def K.bE6 : BC:=.seq (.ops [b0 30 (.bd [(.lit (.slice none 0 0)),(.lit (.int .i64 0)),(.lit (.int .i64 0)),(.lit (.bool false))] []),⟨none,none,(.at 2),.st 4 2 30⟩,b0 3 (.mv (i0 3))]) .ret
def K.bC8 : BC:=.cond 29 K.bE6 .skip
def K.bE4 : BC:=.seq (.ops [b0 31 (.mv 4),b0 32 (.nc 31),b0 33 (.fa 0 32),⟨some 34,none,(.at 33),.ldn 4 33⟩,⟨none,none,(.at 2),.st 4 2 34⟩,b0 3 (.mv (i0 0))]) .ret
def K.bF5 : BC:=.seq (.seq (.ops [b0 26 (.mv 4),b0 27 (.nc 26),b0 28 (.fa 4 27),⟨some 29,none,(.at 28),.ld1 28⟩]) K.bC8) K.bE4
def K.bE3 : BC:=.seq (.ops [b0 23 (.mv 4),b0 24 (.bd [(.lit (.int .i64 0)),(.lit (.int .u64 0)),(.lit (.int .u64 0)),(.lit (.int .u64 0)),(.lit (.int .u64 0)),(.lit (.int .i64 0)),(.lit (.int .i64 0))] [(0,1,(i0 9))]),b0 25 (.cl 23 [23,24])]) K.bF5
def K.bA2 : BC:=.seq (.ops [b0 20 (.mv 4),b0 21 (.bd [(.lit (.int .i64 0)),(.lit (.int .u64 0)),(.lit (.int .u64 0)),(.lit (.int .u64 0)),(.lit (.int .u64 0)),(.lit (.int .i64 0)),(.lit (.int .i64 0))] [(0,1,(i0 3)),(5,1,(i0 1))]),b0 22 (.cl 23 [20,21])]) K.bE3
def K.bz8 : BC:=.seq (.ops [b0 17 (.mv 4),b0 18 (.mv 0),b0 19 (.cl 24 [17,18])]) K.bA2
def K.bD8 : BC:=.seq (.ops [b0 14 (.mv 4),b0 15 (.bd [(.lit (.int .i64 0)),(.lit (.int .u64 0)),(.lit (.int .u64 0)),(.lit (.int .u64 0)),(.lit (.int .u64 0)),(.lit (.int .i64 0)),(.lit (.int .i64 0))] [(0,1,(i0 3))]),b0 16 (.cl 23 [14,15])]) K.bz8
def K.by0 : BC:=.seq (.ops [b0 9 (.mv 0),b0 10 (.cl 22 [9]),b0 11 (.bd [(.lit (.slice none 0 0)),(.lit (.int .i64 0)),(.lit (.int .i64 0)),(.lit (.bool false))] [(1,1,10)]),b0 12 (.bd [(.lit (.slice none 0 0)),(.lit (.int .i64 0)),(.lit (.int .i64 0)),(.lit (.bool false)),(.lit (.bool false))] [(0,4,11)]),⟨some 13,none,.here,.bx 69 12⟩,b0 4 (.mv 13)]) K.bD8
def K.by2 : BC:=.seq (.seq (.ops [b0 5 (.mv 0),b0 6 (.cl 21 [5]),b0 7 (.nt 6)]) K.bD3) K.by0
def K.ag8 : BFn:=⟨35,[.cn 2 4,.t 3],.seq (.ops [⟨some 2,none,.here,.al 47 [(.lit (.slice none 0 0)),(.lit (.int .i64 0)),(.lit (.int .i64 0)),(.lit (.bool false))]⟩,b0 3 (.mv (i0 0))]) K.by2⟩
def K.cg1 : BC:=.seq (.ops [b0 7 (.bd [(.lit (.int .i64 0)),(.lit (.int .u64 0)),(.lit (.int .u64 0)),(.lit (.int .u64 0)),(.lit (.int .u64 0)),(.lit (.slice none 0 0)),(.lit (.int .i64 0)),(.lit (.int .i64 0)),(.lit (.int .i64 0))] []),⟨none,none,(.at 2),.st 9 2 7⟩]) .ret
def K.cf0 : BC:=.cond 6 K.cg1 .skip
def K.ch2 : BC:=.seq (.ops [b0 8 (.fa 5 1),⟨some 9,none,(.at 8),.ld1 8⟩,b0 10 (.ia 9 9 (i0 0)),⟨some 11,none,(.at 10),.ldn 9 10⟩,⟨none,none,(.at 2),.st 9 2 11⟩]) .ret
def K.cf2 : BC:=.seq (.seq (.ops [b0 3 (.fa 5 1),⟨some 4,none,(.at 3),.ld1 3⟩,⟨some 5,none,(.at 4),.ll 4⟩,b0 6 (.ib .eql 5 (i0 0))]) K.cf0) K.ch2
def K.aq8 : BFn:=⟨12,[.cn 2 9],.seq (.ops [⟨some 1,none,.here,.bx 28 0⟩,⟨some 2,none,.here,.al 28 [(.lit (.int .i64 0)),(.lit (.int .u64 0)),(.lit (.int .u64 0)),(.lit (.int .u64 0)),(.lit (.int .u64 0)),(.lit (.slice none 0 0)),(.lit (.int .i64 0)),(.lit (.int .i64 0)),(.lit (.int .i64 0))]⟩]) K.cf2⟩
def K.bW5 : BC:=.ops [b0 7 (.ib .eql 4 (i0 3)),b0 5 (.mv 7)]
def K.bY1 : BC:=.cond 5 .skip K.bW5
def K.bV8 : BC:=.seq (.ops [b0 8 (.fa 5 1),⟨some 9,none,(.at 8),.ld1 8⟩,b0 2 (.mv 9)]) .ret
def K.bZ2 : BC:=.ops [b0 12 (.ib .eql 4 (i0 5)),b0 10 (.mv 12)]
def K.bW4 : BC:=.cond 10 .skip K.bZ2
def K.bZ1 : BC:=.seq (.ops [⟨some 13,none,(.at 1),.ldn 9 1⟩,b0 14 (.cl 40 [13]),⟨some 15,none,.here,.bsl 28 9 [14]⟩,b0 2 (.mv 15)]) .ret
def K.bX1 : BC:=.cond 10 K.bZ1 .skip
def K.b21 : BC:=.seq (.seq (.ops [b0 11 (.ib .eql 4 (i0 4)),b0 10 (.mv 11)]) K.bW4) K.bX1
def K.bX4 : BC:=.cond 5 K.bV8 K.b21
def K.bY2 : BC:=.block 0 (.seq (.seq (.ops [b0 6 (.ib .eql 4 (i0 2)),b0 5 (.mv 6)]) K.bY1) K.bX4)
def K.bH5 : BC:=.seq (.ops [b0 2 (.mv (.c (.lit (.slice none 0 0))))]) .ret
def K.bK5 : BC:=.seq (.seq (.ops [b0 3 (.fa 0 1),⟨some 4,none,(.at 3),.ld1 3⟩]) K.bY2) K.bH5
def K.ak8 : BFn:=⟨16,[.t 2],.seq (.ops [⟨some 1,none,.here,.bx 28 0⟩,b0 2 (.mv (.c (.lit (.slice none 0 0))))]) K.bK5⟩
def K.bU4 : BC:=.ops [b0 13 (.mv 3),⟨some 14,none,(.at 5),.ldn 9 5⟩,b0 15 (.cl 15 [14]),⟨some 16,none,.here,.bsl 52 1 [15]⟩,⟨some 17,none,(.app 13 16),.ap 52 1 16 13 16⟩,b0 3 (.mv 17)]
def K.bT0 : BC:=.ops [b0 18 (.ib .add 9 (i0 1)),b0 9 (.mv 18)]
def K.bX9 : BC:=.seq (.block 1 (.seq (.ops [b0 11 (.ia 9 7 9),⟨some 12,none,(.at 11),.ldn 9 11⟩,⟨some 5,none,.here,.al 28 [(.lit (.int .i64 0)),(.lit (.int .u64 0)),(.lit (.int .u64 0)),(.lit (.int .u64 0)),(.lit (.int .u64 0)),(.lit (.slice none 0 0)),(.lit (.int .i64 0)),(.lit (.int .i64 0)),(.lit (.int .i64 0))]⟩,⟨none,none,(.at 5),.st 9 5 12⟩]) K.bU4)) K.bT0
def K.b31 : BC:=.seq (.cond 10 .skip (.exit 0)) K.bX9
def K.bT4 : BC:=.seq (.ops [b0 10 (.ib .lss 9 8)]) K.b31
def K.b09 : BC:=.block 0 (.loop K.bT4)
def K.bT2 : BC:=.seq (.ops [b0 23 (.fa 1 1),⟨some 24,none,(.at 23),.ldn 4 23⟩,b0 25 (.bd [(.lit (.int .u64 0)),(.lit (.int .u64 0)),(.lit (.int .u64 0)),(.lit (.int .u64 0))] [(0,4,24)]),b0 26 (.mi 79 25),b0 2 (.mv 26)]) .ret
def K.bZ4 : BC:=.seq (.ops [b0 29 (.mv 3),b0 30 (.bd [(.lit (.slice none 0 0))] [(0,1,29)]),b0 31 (.mi 81 30),b0 2 (.mv 31)]) .ret
def K.bV3 : BC:=.seq (.ops [b0 34 (.mv 3),b0 35 (.bd [(.lit (.slice none 0 0))] [(0,1,34)]),b0 36 (.mi 82 35),b0 2 (.mv 36)]) .ret
def K.bY6 : BC:=.seq (.draw [b0 39 (.mv 3),b0 40 (.ia 1 39 (i0 0)),⟨some 41,none,(.at 40),.ld1 40⟩,b0 42 (.fa 6 1),⟨some 43,none,(.at 42),.ld1 42⟩,b0 44 (.fa 7 1),⟨some 45,none,(.at 44),.ld1 44⟩,b0 46 (.bd [(.lit .nilIface),(.lit (.int .i64 0)),(.lit (.int .i64 0))] [(0,1,41),(1,1,43),(2,1,45)]),b0 47 (.mi 84 46),b0 2 (.mv 47)] []) .ret
def K.bJ6 : BC:=.seq (.draw [b0 50 (.fa 8 1),⟨some 51,none,(.at 50),.ld1 50⟩,b0 52 (.mv 3),b0 53 (.ia 1 52 (i0 0)),⟨some 54,none,(.at 53),.ld1 53⟩,b0 55 (.bd [(.lit (.int .i64 0)),(.lit .nilIface)] [(0,1,51),(1,1,54)]),b0 56 (.mi 86 55),b0 2 (.mv 56)] []) .ret
def K.bI2 : BC:=.seq (.ops [b0 59 (.fa 8 1),⟨some 60,none,(.at 59),.ld1 59⟩,b0 61 (.bd [(.lit (.int .i64 0))] [(0,1,60)]),b0 62 (.mi 88 61),b0 2 (.mv 62)]) .ret
def K.bM9 : BC:=.seq (.ops [b0 65 (.bd [] []),b0 66 (.mi 90 65),b0 2 (.mv 66)]) .ret
def K.bH6 : BC:=.seq (.ops [b0 69 (.bd [] []),b0 70 (.mi 91 69),b0 2 (.mv 70)]) .ret
def K.bK1 : BC:=.cond 67 K.bH6 .skip
def K.bJ8 : BC:=.seq (.ops [b0 68 (.ib .eql 20 (i0 8)),b0 67 (.mv 68)]) K.bK1
def K.bM4 : BC:=.cond 63 K.bM9 K.bJ8
def K.bH2 : BC:=.seq (.ops [b0 64 (.ib .eql 20 (i0 7)),b0 63 (.mv 64)]) K.bM4
def K.bN7 : BC:=.cond 57 K.bI2 K.bH2
def K.bI3 : BC:=.seq (.ops [b0 58 (.ib .eql 20 (i0 6)),b0 57 (.mv 58)]) K.bN7
def K.bH9 : BC:=.cond 48 K.bJ6 K.bI3
def K.bN8 : BC:=.seq (.ops [b0 49 (.ib .eql 20 (i0 5)),b0 48 (.mv 49)]) K.bH9
def K.bH7 : BC:=.cond 37 K.bY6 K.bN8
def K.bJ2 : BC:=.seq (.ops [b0 38 (.ib .eql 20 (i0 4)),b0 37 (.mv 38)]) K.bH7
def K.bL0 : BC:=.cond 32 K.bV3 K.bJ2
def K.bK9 : BC:=.seq (.ops [b0 33 (.ib .eql 20 (i0 3)),b0 32 (.mv 33)]) K.bL0
def K.bM3 : BC:=.cond 27 K.bZ4 K.bK9
def K.bM1 : BC:=.seq (.ops [b0 28 (.ib .eql 20 (i0 2)),b0 27 (.mv 28)]) K.bM3
def K.bL4 : BC:=.cond 21 K.bT2 K.bM1
def K.bK8 : BC:=.block 2 (.seq (.ops [b0 22 (.ib .eql 20 (i0 1)),b0 21 (.mv 22)]) K.bL4)
def K.bN1 : BC:=.seq (.ops [b0 71 (.bd [] []),b0 72 (.mi 92 71),b0 2 (.mv 72)]) .ret
def K.bJ1 : BC:=.seq (.seq (.ops [b0 19 (.fa 0 1),⟨some 20,none,(.at 19),.ld1 19⟩]) K.bK8) K.bN1
def K.bL1 : BC:=.seq (.seq (.ops [⟨some 6,none,(.at 1),.ldn 9 1⟩,b0 7 (.cl 25 [6]),⟨some 8,none,(.at 7),.ll 7⟩,b0 9 (.mv (i0 0))]) K.b09) K.bJ1
def K.bM2 : BC:=.seq (.ops [b0 3 (.mv (.c (.lit (.slice none 0 0))))]) K.bL1
def K.aa9 : BFn:=⟨73,[.t 2],.seq (.ops [⟨some 1,none,.here,.bx 28 0⟩,b0 2 (.mv (.c (.lit .nilIface)))]) K.bM2⟩
def K.bb9 : BC:=.seq (.ops [⟨some 7,none,(.at 1),.ldn 4 1⟩,⟨none,none,(.at 2),.st 4 2 7⟩]) .ret
def K.bc5 : BC:=.seq (.ops [b0 3 (.fa 0 1),⟨some 4,none,(.at 3),.ld1 3⟩,b0 5 (.cl 41 [4]),b0 6 (.fa 0 1),⟨none,none,(.at 6),.st 1 6 5⟩]) K.bb9
def K.ac6 : BFn:=⟨8,[.cn 2 4],.seq (.ops [⟨some 1,none,.here,.bx 47 0⟩,⟨some 2,none,.here,.al 47 [(.lit (.slice none 0 0)),(.lit (.int .i64 0)),(.lit (.int .i64 0)),(.lit (.bool false))]⟩]) K.bc5⟩
def K.b88 : BC:=.seq (.ops [⟨some 3,none,(.at 1),.ldn 4 1⟩,b0 4 (.cl 26 [3]),b0 5 (.bd [(.lit (.slice none 0 0)),(.lit (.int .i64 0)),(.lit (.int .i64 0)),(.lit (.bool false))] [(0,4,4)]),⟨some 6,none,.here,.bx 57 5⟩,b0 2 (.mv 6)]) .ret
def K.ao9 : BFn:=⟨7,[.t 2],.seq (.ops [⟨some 1,none,.here,.bx 47 0⟩,b0 2 (.mv (.c (.lit (.pointer none))))]) K.b88⟩
def K.b06 : BC:=.seq (.ops [b0 2 (.mv (.c (.lit (.pointer none)))),b0 3 (.mv (.c (.lit (.bool false))))]) .ret
def K.bT1 : BC:=.cond 20 K.b06 .skip
def K.bS9 : BC:=.seq (.ops [b0 23 (.mv 6),b0 24 (.mv 6),b0 25 (.gen (.binOp .neq 30 (.tmp 24) (.const (.pointer none)) 30) 4),b0 2 (.mv 23),b0 3 (.mv 25)]) .ret
def K.bY5 : BC:=.seq (.ops [⟨some 21,none,(.at 4),.ldn 4 4⟩,b0 22 (.cl 16 [21]),b0 6 (.mv 22)]) K.bS9
def K.bU9 : BC:=.seq (.seq (.ops [b0 13 (.mv 5),b0 14 (.ib .neq 13 (i0 0)),b0 15 (.mv 14),⟨some 16,(some (15,false)),.none,.fa 0 4⟩,⟨some 17,(some (15,false)),(.at 16),.ld1 16⟩,⟨some 18,(some (15,false)),(.at 17),.ll 17⟩,⟨some 19,(some (15,false)),.none,.ib .eql 18 (i0 0)⟩,b0 20 (.pk 15 (.c (.lit (.bool true))) 19)]) K.bT1) K.bY5
def K.b08 : BC:=.seq (.ops [⟨some 8,none,(.at 1),.ldn 9 1⟩,b0 9 (.cl 15 [8]),b0 10 (.cl 14 [9]),b0 7 (.mv 10),b0 11 (.ex 7 0),b0 12 (.ex 7 1),⟨some 4,none,.here,.al 47 [(.lit (.slice none 0 0)),(.lit (.int .i64 0)),(.lit (.int .i64 0)),(.lit (.bool false))]⟩,⟨none,none,(.at 4),.st 4 4 11⟩,b0 5 (.mv 12)]) K.bU9
def K.ae2 : BFn:=⟨26,[.t 2,.t 3],.seq (.ops [⟨some 1,none,.here,.bx 28 0⟩,b0 2 (.mv (.c (.lit (.pointer none)))),b0 3 (.mv (.c (.lit (.bool false))))]) K.b08⟩
def K.bT6 : BC:=.ops [b0 26 (.mv 3),b0 27 (.mv 0),b0 28 (.mv 4),b0 29 (.ia 9 27 28),b0 30 (.fa 5 29),⟨some 31,none,(.at 30),.ld1 30⟩,⟨some 32,none,(.app 26 31),.ap 28 9 88 26 31⟩,b0 3 (.mv 32)]
def K.bV6 : BC:=.ops [b0 15 (.mv 3),b0 16 (.mv 0),b0 17 (.mv 4),b0 18 (.ia 9 16 17),⟨some 19,none,(.at 18),.ldn 9 18⟩,⟨some 20,none,.here,.bsl 28 9 [19]⟩,⟨some 21,none,(.app 15 20),.ap 28 9 88 15 20⟩,b0 3 (.mv 21)]
def K.b29 : BC:=.cond 24 K.bT6 K.bV6
def K.bW3 : BC:=.seq (.ops [b0 25 (.ib .eql 14 (i0 2)),b0 24 (.mv 25)]) K.b29
def K.bT5 : BC:=.cond 22 .skip K.bW3
def K.bU7 : BC:=.block 2 (.seq (.ops [b0 23 (.ib .eql 14 (i0 0)),b0 22 (.mv 23)]) K.bT5)
def K.bZ8 : BC:=.seq (.ops [b0 10 (.mv 0),b0 11 (.mv 4),b0 12 (.ia 9 10 11),b0 13 (.fa 0 12),⟨some 14,none,(.at 13),.ld1 13⟩]) K.bU7
def K.b33 : BC:=.ops [b0 33 (.ib .add 7 (i0 1)),b0 7 (.mv 33)]
def K.b07 : BC:=.seq (.block 1 (.seq (.ops [b0 9 (.mv 7),b0 4 (.mv 9)]) K.bZ8)) K.b33
def K.bR9 : BC:=.seq (.cond 8 .skip (.exit 0)) K.b07
def K.bM5 : BC:=.seq (.ops [b0 8 (.ib .lss 7 6)]) K.bR9
def K.bL6 : BC:=.block 0 (.loop K.bM5)
def K.bI4 : BC:=.seq (.ops [b0 37 (.bd [(.lit (.int .i64 0)),(.lit (.int .u64 0)),(.lit (.int .u64 0)),(.lit (.int .u64 0)),(.lit (.int .u64 0)),(.lit (.slice none 0 0)),(.lit (.int .i64 0)),(.lit (.int .i64 0)),(.lit (.int .i64 0))] []),⟨none,none,(.at 2),.st 9 2 37⟩]) .ret
def K.bJ7 : BC:=.cond 36 K.bI4 .skip
def K.bI9 : BC:=.seq (.ops [b0 41 (.mv 3),b0 42 (.ia 9 41 (i0 0)),⟨some 43,none,(.at 42),.ldn 9 42⟩,⟨none,none,(.at 2),.st 9 2 43⟩]) .ret
def K.bK0 : BC:=.cond 40 K.bI9 .skip
def K.bJ0 : BC:=.seq (.ops [b0 44 (.mv 3),b0 45 (.bd [(.lit (.int .i64 0)),(.lit (.int .u64 0)),(.lit (.int .u64 0)),(.lit (.int .u64 0)),(.lit (.int .u64 0)),(.lit (.slice none 0 0)),(.lit (.int .i64 0)),(.lit (.int .i64 0)),(.lit (.int .i64 0))] [(0,1,(i0 2)),(5,1,44)]),⟨none,none,(.at 2),.st 9 2 45⟩]) .ret
def K.bJ5 : BC:=.seq (.seq (.ops [b0 38 (.mv 3),⟨some 39,none,(.at 38),.ll 38⟩,b0 40 (.ib .eql 39 (i0 1))]) K.bK0) K.bJ0
def K.bJ9 : BC:=.seq (.seq (.ops [b0 34 (.mv 3),⟨some 35,none,(.at 34),.ll 34⟩,b0 36 (.ib .eql 35 (i0 0))]) K.bJ7) K.bJ5
def K.bM6 : BC:=.seq (.seq (.ops [b0 5 (.mv 0),⟨some 6,none,(.at 5),.ll 5⟩,b0 7 (.mv (i0 0))]) K.bL6) K.bJ9
def K.bJ3 : BC:=.seq (.ops [b0 3 (.mv (.c (.lit (.slice none 0 0))))]) K.bM6
def K.ae1 : BFn:=⟨46,[.cn 2 9],.seq (.ops [⟨some 2,none,.here,.al 28 [(.lit (.int .i64 0)),(.lit (.int .u64 0)),(.lit (.int .u64 0)),(.lit (.int .u64 0)),(.lit (.int .u64 0)),(.lit (.slice none 0 0)),(.lit (.int .i64 0)),(.lit (.int .i64 0)),(.lit (.int .i64 0))]⟩]) K.bJ3⟩
def K.aO4 : BC:=.ops [b0 20 (.mv 0),b0 21 (.mv 0),b0 22 (.nc 21),b0 23 (.fa 5 22),⟨some 24,none,(.at 23),.ld1 23⟩,b0 25 (.cl 31 [24]),b0 26 (.nc 20),b0 27 (.fa 8 26),⟨none,none,(.at 27),.st 1 27 25⟩]
def K.aO9 : BC:=.cond 19 K.aO4 .skip
def K.ab6 : BFn:=⟨28,[],.seq (.ops [b0 4 (.mv 0),b0 5 (.nc 4),b0 6 (.fa 8 5),⟨some 7,none,(.at 6),.ld1 6⟩,⟨some 8,none,(.at 7),.ll 7⟩,b0 9 (.ib .eql 8 (i0 0)),b0 10 (.mv 9),⟨some 11,(some (10,false)),.none,.mv 1⟩,⟨some 12,(some (10,false)),.none,.mv 0⟩,⟨some 13,(some (10,false)),.none,.nc 12⟩,⟨some 14,(some (10,false)),.none,.fa 8 13⟩,⟨some 15,(some (10,false)),(.at 14),.ld1 14⟩,⟨some 16,(some (10,false)),.none,.ia 1 15 (i0 1)⟩,⟨some 17,(some (10,false)),(.at 16),.ld1 16⟩,⟨some 18,(some (10,false)),.none,.ib .gtr 11 17⟩,b0 19 (.pk 10 (.c (.lit (.bool true))) 18)]) K.aO9⟩
def K.by7 : BC:=.seq (.ops [b0 5 (.mv 1),b0 6 (.ib .quo 5 (.c (.lit (.int .u8 64)))),b0 7 (.iaa 4 1 2 6),⟨some 8,none,(.at 7),.ld1 7⟩,b0 9 (.mv 1),b0 10 (.ib .rem 9 (.c (.lit (.int .u8 64)))),b0 11 (.ib .shr 8 10),b0 12 (.ib .and 11 (.c (.lit (.int .u64 1)))),b0 13 (.ib .eql 12 (.c (.lit (.int .u64 1)))),b0 4 (.mv 13)]) .ret
def K.af7 : BFn:=⟨14,[.t 4],.seq (.ops [⟨some 2,none,.here,.bx 72 0⟩,b0 4 (.mv (.c (.lit (.bool false))))]) K.by7⟩
def K.aT8 : BC:=.seq (.draw [b0 12 (.mv 2),b0 13 (.ib .add 12 (i0 1)),b0 14 (.mv 2),b0 15 (.mv 0),b0 16 (.nc 15),b0 17 (.fa 4 16),⟨some 18,none,(.at 17),.ld1 17⟩,⟨some 19,none,(.at 18),.ls 18⟩,b0 20 (.ib .lss 14 19),b0 21 (.mv 20),⟨some 22,(some (21,true)),.none,.fa 1 4⟩,⟨some 23,(some (21,true)),(.at 22),.ldn 4 22⟩,⟨some 24,(some (21,true)),.none,.mv 0⟩,⟨some 25,(some (21,true)),.none,.nc 24⟩,⟨some 26,(some (21,true)),.none,.fa 4 25⟩,⟨some 27,(some (21,true)),(.at 26),.ld1 26⟩,⟨some 28,(some (21,true)),.none,.mv 2⟩,⟨some 29,(some (21,true)),.none,.xs 27 28⟩,⟨some 30,(some (21,true)),.none,.cl 48 [23,29]⟩,b0 31 (.pk 21 30 (.c (.lit (.bool false)))),b0 6 (.mv 13),b0 7 (.mv 31)] [(6,18)]) .ret
def K.aW4 : BC:=.seq (.ops [b0 34 (.mv 2),b0 35 (.mv 2),b0 36 (.ib .eql 35 (i0 0)),b0 6 (.mv 34),b0 7 (.mv 36)]) .ret
def K.aR2 : BC:=.seq (.draw [b0 39 (.mv 2),b0 40 (.mv 2),b0 41 (.mv 0),b0 42 (.nc 41),b0 43 (.fa 4 42),⟨some 44,none,(.at 43),.ld1 43⟩,⟨some 45,none,(.at 44),.ls 44⟩,b0 46 (.ib .eql 40 45),b0 6 (.mv 39),b0 7 (.mv 46)] []) .ret
def K.aS1 : BC:=.seq (.draw [b0 49 (.mv 2),b0 50 (.mv 0),b0 51 (.nc 50),b0 52 (.fa 6 51),⟨some 53,none,(.at 52),.ld1 52⟩,b0 54 (.fa 5 4),⟨some 55,none,(.at 54),.ld1 54⟩,b0 56 (.cl 32 [53,55]),b0 57 (.nt 56),b0 6 (.mv 49),b0 7 (.mv 57)] []) .ret
def K.aZ6 : BC:=.cond 47 K.aS1 .skip
def K.aY8 : BC:=.seq (.ops [b0 48 (.ib .eql 9 (i0 8)),b0 47 (.mv 48)]) K.aZ6
def K.aT5 : BC:=.cond 37 K.aR2 K.aY8
def K.aY1 : BC:=.seq (.ops [b0 38 (.ib .eql 9 (i0 6)),b0 37 (.mv 38)]) K.aT5
def K.a08 : BC:=.cond 32 K.aW4 K.aY1
def K.a09 : BC:=.seq (.ops [b0 33 (.ib .eql 9 (i0 5)),b0 32 (.mv 33)]) K.a08
def K.aP6 : BC:=.cond 10 K.aT8 K.a09
def K.aN8 : BC:=.block 0 (.seq (.ops [b0 11 (.ib .eql 9 (i0 0)),b0 10 (.mv 11)]) K.aP6)
def K.aO3 : BC:=.seq (.ops [b0 58 (.mv 0),b0 59 (.fa 5 4),⟨some 60,none,(.at 59),.ld1 59⟩,b0 61 (.mv 2),b0 62 (.cl 49 [58,60,61]),b0 63 (.ex 62 0),b0 64 (.ex 62 1),b0 6 (.mv 63),b0 7 (.mv 64)]) .ret
def K.aN9 : BC:=.seq (.seq (.ops [b0 8 (.fa 0 4),⟨some 9,none,(.at 8),.ld1 8⟩]) K.aN8) K.aO3
def K.ab9 : BFn:=⟨65,[.t 6,.t 7],.seq (.ops [⟨some 4,none,.here,.bx 74 1⟩,b0 6 (.mv (i0 0)),b0 7 (.mv (.c (.lit (.bool false))))]) K.aN9⟩
def K.bf0 : BC:=.seq (.ops [⟨some 50,none,(.at 3),.ld1 3⟩,b0 51 (.mv 2),b0 52 (.cl 29 [50,51])]) .ret
def K.bg3 : BC:=.cond 58 .ret .skip
def K.bg8 : BC:=.ops [b0 64 (.fa 6 8),⟨some 65,none,(.at 64),.ld1 64⟩,b0 1 (.mv 65)]
def K.bb6 : BC:=.seq (.ops [⟨some 59,none,(.at 3),.ld1 3⟩,b0 60 (.fa 5 8),⟨some 61,none,(.at 60),.ld1 60⟩,b0 62 (.mv 2),b0 63 (.cl 18 [59,61,62])]) K.bg8
def K.bg1 : BC:=.seq (.seq (.ops [⟨some 55,none,(.at 3),.ld1 3⟩,b0 56 (.mv 1),b0 57 (.mv 2),b0 58 (.cl 30 [55,56,57])]) K.bg3) K.bb6
def K.be8 : BC:=.ops [b0 68 (.fa 5 8),⟨some 69,none,(.at 68),.ld1 68⟩,b0 1 (.mv 69)]
def K.bg5 : BC:=.draw [⟨some 80,none,(.at 3),.ld1 3⟩,b0 81 (.nc 80),b0 82 (.fa 5 81),⟨some 83,none,(.at 82),.ld1 82⟩,b0 84 (.fa 5 8),⟨some 85,none,(.at 84),.ld1 84⟩,b0 86 (.mv 2),b0 87 (.ia 1 83 85),⟨none,none,(.at 87),.st 1 87 86⟩] []
def K.bf5 : BC:=.seq (.draw [⟨some 72,none,(.at 3),.ld1 3⟩,⟨some 73,none,(.at 3),.ld1 3⟩,b0 74 (.nc 73),b0 75 (.fa 5 74),⟨some 76,none,(.at 75),.ld1 75⟩,b0 77 (.cl 31 [76]),b0 78 (.nc 72),b0 79 (.fa 5 78),⟨none,none,(.at 79),.st 1 79 77⟩] [(0,5),(1,5)]) K.bg5
def K.bf7 : BC:=.ops [⟨some 110,none,(.at 3),.ld1 3⟩,b0 111 (.nc 110),b0 112 (.fa 6 111),⟨some 113,none,(.at 112),.ld1 112⟩,b0 114 (.cl 33 [113])]
def K.bc9 : BC:=.seq (.draw [⟨some 98,none,(.at 3),.ld1 3⟩,⟨some 99,none,(.at 3),.ld1 3⟩,b0 100 (.nc 99),b0 101 (.fa 6 100),⟨some 102,none,(.at 101),.ld1 101⟩,b0 103 (.cl 31 [102]),b0 104 (.fa 5 8),⟨some 105,none,(.at 104),.ld1 104⟩,⟨some 106,none,.here,.bsl 3 1 [105]⟩,⟨some 107,none,(.app 103 106),.ap 3 1 8 103 106⟩,b0 108 (.nc 98),b0 109 (.fa 6 108),⟨none,none,(.at 109),.st 1 109 107⟩] [(0,5),(1,5),(5,7),(0,8),(1,8),(4,8),(5,8),(0,9),(1,9)]) K.bf7
def K.aZ9 : BC:=.cond 97 K.bc9 .skip
def K.aY2 : BC:=.seq (.draw [⟨some 90,none,(.at 3),.ld1 3⟩,b0 91 (.nc 90),b0 92 (.fa 6 91),⟨some 93,none,(.at 92),.ld1 92⟩,b0 94 (.fa 5 8),⟨some 95,none,(.at 94),.ld1 94⟩,b0 96 (.cl 32 [93,95]),b0 97 (.nt 96)] [(0,6)]) K.aZ9
def K.aQ7 : BC:=.cond 40 .ret .skip
def K.a81 : BC:=.ops [⟨some 44,none,(.at 3),.ld1 3⟩,b0 45 (.nc 44),b0 46 (.fa 6 45),⟨none,none,(.at 46),.st 1 46 (.c (.lit (.slice none 0 0)))⟩]
def K.aX0 : BC:=.cond 43 K.a81 .skip
def K.aT2 : BC:=.ops [b0 47 (.mv 9),b0 2 (.mv 47)]
def K.aY9 : BC:=.seq (.seq (.ops [b0 41 (.mv 9),b0 42 (.mv 2),b0 43 (.ib .neq 41 42)]) K.aX0) K.aT2
def K.aR8 : BC:=.seq (.seq (.ops [b0 39 (.mv 10),b0 40 (.nt 39)]) K.aQ7) K.aY9
def K.aQ4 : BC:=.seq (.ops [⟨some 33,none,(.at 3),.ld1 3⟩,⟨some 34,none,(.at 8),.ldn 7 8⟩,b0 35 (.mv 2),b0 36 (.cl 34 [33,34,35]),b0 32 (.mv 36),b0 37 (.ex 32 0),b0 38 (.ex 32 1),b0 9 (.mv 37),b0 10 (.mv 38)]) K.aR8
def K.aZ5 : BC:=.cond 88 K.aY2 K.aQ4
def K.a02 : BC:=.seq (.ops [b0 89 (.ib .eql 31 (i0 7)),b0 88 (.mv 89)]) K.aZ5
def K.aX3 : BC:=.cond 70 K.bf5 K.a02
def K.aT3 : BC:=.seq (.ops [b0 71 (.ib .eql 31 (i0 3)),b0 70 (.mv 71)]) K.aX3
def K.aX1 : BC:=.cond 66 K.be8 K.aT3
def K.aW9 : BC:=.seq (.ops [b0 67 (.ib .eql 31 (i0 2)),b0 66 (.mv 67)]) K.aX1
def K.aZ8 : BC:=.cond 53 K.bg1 K.aW9
def K.aX4 : BC:=.seq (.ops [b0 54 (.ib .eql 31 (i0 1)),b0 53 (.mv 54)]) K.aZ8
def K.a01 : BC:=.cond 48 K.bf0 K.aX4
def K.aV4 : BC:=.block 2 (.seq (.ops [b0 49 (.ib .eql 31 (i0 9)),b0 48 (.mv 49)]) K.a01)
def K.aR9 : BC:=.seq (.ops [b0 30 (.fa 0 8),⟨some 31,none,(.at 30),.ld1 30⟩]) K.aV4
def K.aU2 : BC:=.seq (.ops [b0 28 (.mv 1),b0 29 (.ib .add 28 (i0 1)),b0 1 (.mv 29)]) K.aR9
def K.aP9 : BC:=.block 1 (.seq (.ops [⟨some 20,none,(.at 3),.ld1 3⟩,b0 21 (.nc 20),b0 22 (.fa 0 21),b0 23 (.fa 0 22),⟨some 24,none,(.at 23),.ld1 23⟩,b0 25 (.mv 1),b0 26 (.ia 7 24 25),⟨some 27,none,(.at 26),.ldn 7 26⟩,⟨some 8,none,.here,.al 74 [(.lit (.int .i64 0)),(.lit (.int .u64 0)),(.lit (.int .u64 0)),(.lit (.int .u64 0)),(.lit (.int .u64 0)),(.lit (.int .i64 0)),(.lit (.int .i64 0))]⟩,⟨none,none,(.at 8),.st 7 8 27⟩]) K.aU2)
def K.aU0 : BC:=.block 0 (.loop K.aP9)
def K.aU6 : BC:=.seq (.ops [b0 19 (.mf 28 [6,7,3]),⟨none,none,.none,.gen (.defer ⟨(.value (.tmp 19)),#[],#[]⟩) 0⟩]) K.aU0
def K.aZ0 : BC:=.seq (.draw [⟨some 11,none,(.at 3),.ld1 3⟩,b0 12 (.nc 11),b0 13 (.fa 5 12),⟨some 14,none,(.at 13),.ld1 13⟩,⟨some 15,none,(.at 3),.ld1 3⟩,b0 16 (.nc 15),b0 17 (.fa 6 16),⟨some 18,none,(.at 17),.ld1 17⟩,⟨some 6,none,.here,.al 34 [(.lit (.slice none 0 0))]⟩,⟨some 7,none,.here,.al 34 [(.lit (.slice none 0 0))]⟩,⟨none,none,(.at 6),.st 1 6 14⟩,⟨none,none,(.at 7),.st 1 7 18⟩] [(0,8),(3,8),(4,8),(7,8),(0,9),(3,9),(4,9),(7,9),(8,9),(4,10),(7,10)]) K.aU6
def K.o5 : BFn:=⟨115,[],.seq (.ops [⟨some 3,none,.here,.bx 55 0⟩]) K.aZ0⟩
def K.bk6 : BC:=.cond 19 .skip (.exit 0)
def K.bl3 : BC:=.seq (.ops [b0 48 (.mv 9),b0 49 (.nc 48),b0 50 (.fa 8 49),⟨some 51,none,(.at 50),.ld1 50⟩,b0 6 (.mv 51),b0 7 (.mv (.c (.lit (.bool true))))]) .ret
def K.bl9 : BC:=.cond 47 K.bl3 .skip
def K.bk0 : BC:=.seq (.ops [b0 42 (.mv 9),b0 43 (.nc 42),b0 44 (.fa 8 43),⟨some 45,none,(.at 44),.ld1 44⟩,⟨some 46,none,(.at 45),.ll 45⟩,b0 47 (.ib .gtr 46 (i0 0))]) K.bl9
def K.bi4 : BC:=.seq (.ops [b0 39 (.mv 9),b0 40 (.mv 8),b0 41 (.cl 18 [39,(i0 0),40])]) K.bk0
def K.bi9 : BC:=.ops [b0 20 (.mv 8),b0 21 (.ib .add 20 (i0 1)),b0 8 (.mv 21)]
def K.bk8 : BC:=.seq (.block 1 (.seq (.draw [b0 22 (.mv 0),b0 23 (.nc 22),b0 24 (.fa 0 23),⟨some 25,none,(.at 24),.ldn 4 24⟩,b0 26 (.mv 1),⟨some 27,none,.here,.bsl 3 1 [(.c (.lit (.int .i64 (-1))))]⟩,b0 28 (.mv 0),b0 29 (.nc 28),b0 30 (.fa 0 29),b0 31 (.fa 1 30),⟨some 32,none,(.at 31),.ld1 31⟩,b0 33 (.ib .mul (i0 2) 32),b0 34 (.ib .add 33 (i0 2)),b0 35 (.cl 17 [27,34]),⟨some 36,none,.here,.gen (.makeMap 59 none) 59⟩,b0 37 (.bd [(.lit (.slice none 0 0)),(.lit (.int .i64 0)),(.lit (.int .i64 0)),(.lit (.bool false)),(.lit (.string (bs []))),(.lit (.slice none 0 0)),(.lit (.slice none 0 0)),(.lit (.map none)),(.lit (.slice none 0 0))] [(0,4,25),(4,1,26),(5,1,35),(7,1,36)]),⟨some 38,none,.here,.bx 61 37⟩,b0 9 (.mv 38)] [(3,5),(5,10),(3,13),(3,14),(5,14),(10,14),(13,14),(10,16)]) K.bi4)) K.bi9
def K.bj3 : BC:=.seq (.seq (.ops [b0 12 (.mv 2),b0 13 (.ib .geq 12 (i0 0)),b0 14 (.mv 13),⟨some 15,(some (14,true)),.none,.mv 8⟩,⟨some 16,(some (14,true)),.none,.mv 1⟩,⟨some 17,(some (14,true)),(.at 16),.ls 16⟩,⟨some 18,(some (14,true)),.none,.ib .leq 15 17⟩,b0 19 (.pk 14 18 (.c (.lit (.bool false))))]) K.bk6) K.bk8
def K.bm1 : BC:=.block 0 (.loop K.bj3)
def K.bi3 : BC:=.seq (.ops [b0 6 (.mv (.c (.lit (.slice none 0 0)))),b0 7 (.mv (.c (.lit (.bool false))))]) .ret
def K.bc8 : BC:=.seq (.seq (.ops [b0 10 (.mv 2),b0 11 (.gen (.call ⟨(.builtin .max),#[(.tmp 10),(.const (.int .i64 0))],#[3,3]⟩) 3),b0 8 (.mv 11)]) K.bm1) K.bi3
def K.ac7 : BFn:=⟨52,[.t 6,.t 7],.seq (.ops [b0 6 (.mv (.c (.lit (.slice none 0 0)))),b0 7 (.mv (.c (.lit (.bool false))))]) K.bc8⟩
def K.bI7 : BC:=.seq (.ops [b0 4 (.mv (.c (.lit (.bool false))))]) .ret
def K.bN5 : BC:=.cond 10 K.bI7 .skip
def K.bN0 : BC:=.seq (.ops [b0 4 (.mv (.c (.lit (.bool false))))]) .ret
def K.bK3 : BC:=.cond 24 K.bN0 .skip
def K.bL5 : BC:=.seq (.draw [b0 16 (.mv 0),b0 17 (.mv 5),b0 18 (.ia 1 16 17),⟨some 19,none,(.at 18),.ld1 18⟩,b0 20 (.mv 1),b0 21 (.mv 5),b0 22 (.ia 1 20 21),⟨some 23,none,(.at 22),.ld1 22⟩,b0 24 (.ib .neq 19 23)] []) K.bK3
def K.bM8 : BC:=.ops [b0 25 (.ib .add 13 (i0 1)),b0 13 (.mv 25)]
def K.bM0 : BC:=.seq (.block 1 (.seq (.ops [b0 15 (.mv 13),b0 5 (.mv 15)]) K.bL5)) K.bM8
def K.bJ4 : BC:=.seq (.cond 14 .skip (.exit 0)) K.bM0
def K.bL8 : BC:=.seq (.ops [b0 14 (.ib .lss 13 12)]) K.bJ4
def K.bI1 : BC:=.block 0 (.loop K.bL8)
def K.bD0 : BC:=.seq (.ops [b0 4 (.mv (.c (.lit (.bool true))))]) .ret
def K.bE9 : BC:=.seq (.seq (.ops [b0 11 (.mv 0),⟨some 12,none,(.at 11),.ll 11⟩,b0 13 (.mv (i0 0))]) K.bI1) K.bD0
def K.bA1 : BC:=.seq (.seq (.ops [b0 6 (.mv 0),⟨some 7,none,(.at 6),.ll 6⟩,b0 8 (.mv 1),⟨some 9,none,(.at 8),.ll 8⟩,b0 10 (.ib .neq 7 9)]) K.bN5) K.bE9
def K.ag5 : BFn:=⟨26,[.t 4],.seq (.ops [b0 4 (.mv (.c (.lit (.bool false))))]) K.bA1⟩
def K.bm7 : BC:=.seq (.ops [b0 26 (.cl 4 []),b0 6 (.mv 26)]) .ret
def K.bk9 : BC:=.cond 25 K.bm7 .skip
def K.bi6 : BC:=.ops [b0 32 (.mv 7),b0 33 (.mv 0),b0 34 (.mv 8),b0 35 (.xs 33 34),b0 36 (.cl 5 [35]),⟨some 37,none,.here,.bsl 28 9 [36]⟩,⟨some 38,none,(.app 32 37),.ap 28 9 88 32 37⟩,b0 7 (.mv 38)]
def K.bj4 : BC:=.ops [b0 39 (.ib .add 29 (i0 1)),b0 29 (.mv 39)]
def K.bi8 : BC:=.seq (.block 1 (.seq (.ops [b0 31 (.mv 29),b0 8 (.mv 31)]) K.bi6)) K.bj4
def K.bl1 : BC:=.seq (.cond 30 .skip (.exit 0)) K.bi8
def K.bk3 : BC:=.seq (.ops [b0 30 (.ib .lss 29 28)]) K.bl1
def K.bi5 : BC:=.block 0 (.loop K.bk3)
def K.bj9 : BC:=.seq (.ops [b0 6 (.mv (.c (.lit (.bool false))))]) .ret
def K.bm4 : BC:=.cond 47 K.bj9 .skip
def K.bg6 : BC:=.cond 64 .skip (.exit 2)
def K.bg2 : BC:=.seq (.ops [b0 76 (.mv 12),b0 77 (.mv 76),⟨some 78,(some (77,true)),.none,.mv 11⟩,⟨some 79,(some (77,true)),.none,.mv 13⟩,⟨some 80,(some (77,true)),.none,.mv 13⟩,⟨some 81,(some (77,true)),.none,.mv 0⟩,⟨some 82,(some (77,true)),(.at 81),.ls 81⟩,⟨some 83,(some (77,true)),.none,.ib .add 80 82⟩,⟨some 84,(some (77,true)),.here,.bsl 3 1 [79,83]⟩,⟨some 85,(some (77,true)),.none,.cl 9 [78,84]⟩,b0 86 (.pk 77 85 (.c (.lit (.bool false)))),b0 6 (.mv 86)]) .ret
def K.be0 : BC:=.cond 75 K.bg2 .skip
def K.bd5 : BC:=.ops [b0 65 (.mv 13),b0 66 (.ib .add 65 (i0 1)),b0 13 (.mv 66)]
def K.be1 : BC:=.seq (.block 3 (.seq (.ops [b0 67 (.mv 1),b0 68 (.mv 13),b0 69 (.mv 13),b0 70 (.mv 0),⟨some 71,none,(.at 70),.ls 70⟩,b0 72 (.ib .add 69 71),b0 73 (.sls 67 (some 68) (some 72)),b0 74 (.mv 0),b0 75 (.sb .eql 73 74)]) K.be0)) K.bd5
def K.bh0 : BC:=.seq (.seq (.ops [b0 58 (.mv 13),b0 59 (.mv 1),⟨some 60,none,(.at 59),.ls 59⟩,b0 61 (.mv 0),⟨some 62,none,(.at 61),.ls 61⟩,b0 63 (.ib .sub 60 62),b0 64 (.ib .leq 58 63)]) K.bg6) K.be1
def K.bb8 : BC:=.block 2 (.loop K.bh0)
def K.bf1 : BC:=.seq (.ops [b0 87 (.mv 12),b0 88 (.nt 87),b0 89 (.mv 88),⟨some 90,(some (89,true)),.none,.mv 11⟩,⟨some 91,(some (89,true)),(.at 90),.ll 90⟩,⟨some 92,(some (89,true)),.none,.ib .eql 91 (i0 0)⟩,b0 93 (.pk 89 92 (.c (.lit (.bool false)))),b0 6 (.mv 93)]) .ret
def K.bd0 : BC:=.seq (.seq (.ops [b0 56 (.mv 2),⟨some 57,none,(.at 56),.cvi .i64 56⟩,b0 13 (.mv 57)]) K.bb8) K.bf1
def K.bd2 : BC:=.seq (.ops [b0 49 (.mv 9),b0 50 (.mv 1),b0 51 (.mv 2),⟨some 52,none,(.at 51),.cvi .i64 51⟩,b0 53 (.cl 8 [49,50,52]),b0 48 (.mv 53),b0 54 (.ex 48 0),b0 55 (.ex 48 1),b0 11 (.mv 54),b0 12 (.mv 55)]) K.bd0
def K.be7 : BC:=.seq (.seq (.ops [b0 46 (.mv 10),b0 47 (.nt 46)]) K.bm4) K.bd2
def K.bd8 : BC:=.seq (.ops [b0 41 (.mv 7),b0 42 (.cl 7 [41]),b0 43 (.cl 6 [42]),b0 40 (.mv 43),b0 44 (.ex 40 0),b0 45 (.ex 40 1),b0 9 (.mv 44),b0 10 (.mv 45)]) K.be7
def K.bb7 : BC:=.seq (.seq (.ops [b0 27 (.mv 0),⟨some 28,none,(.at 27),.ls 27⟩,b0 29 (.mv (i0 0))]) K.bi5) K.bd8
def K.bh3 : BC:=.seq (.ops [b0 7 (.mv (.c (.lit (.slice none 0 0))))]) K.bb7
def K.bd3 : BC:=.seq (.seq (.ops [b0 14 (.cl 4 []),b0 15 (.nt 14),b0 16 (.mv 15),⟨some 17,(some (16,false)),.none,.mv 0⟩,⟨some 18,(some (16,false)),(.at 17),.ls 17⟩,⟨some 19,(some (16,false)),.none,.ib .gtr 18 (i0 12)⟩,b0 20 (.pk 16 (.c (.lit (.bool true))) 19),b0 21 (.mv 20),⟨some 22,(some (21,false)),.none,.mv 1⟩,⟨some 23,(some (21,false)),(.at 22),.ls 22⟩,⟨some 24,(some (21,false)),.none,.ib .gtr 23 (i0 60)⟩,b0 25 (.pk 21 (.c (.lit (.bool true))) 24)]) K.bk9) K.bh3
def K.ac8 : BFn:=⟨94,[.t 6],.seq (.ops [b0 6 (.mv (.c (.lit (.bool false))))]) K.bd3⟩
class ab5 (P : Program) : Prop where
 al4 : ak2 P F.al4 = some K.al4
 al7 : ak2 P F.al7 = some K.al7
 al9 : ak2 P F.al9 = some K.al9
 ab7 : ak2 P F.ab7 = some K.ab7
 ar1 : ak2 P F.ar1 = some K.ar1
 an8 : ak2 P F.an8 = some K.an8
 ab2 : ak2 P F.ab2 = some K.ab2
 o9 : ak2 P F.ae7 = some K.o9
 o8 : ak2 P F.ad9 = some K.o8
 at7 : ak2 P F.at7 = some K.at7
 aa0 : ak2 P F.ae7 = some K.aa0
 y9 : ak2 P F.ad9 = some K.y9
 o7 : ak2 P F.o7 = some K.o7
 y5 : ak2 P F.y5 = some K.y5
 al8 : ak2 P F.al8 = some K.al8
 ac9 : ak2 P F.ac9 = some K.ac9
 aa6 : ak2 P F.aa6 = some K.aa6
 o6 : ak2 P F.o6 = some K.o6
 ag8 : ak2 P F.ag8 = some K.ag8
 aq8 : ak2 P F.aq8 = some K.aq8
 ak8 : ak2 P F.ak8 = some K.ak8
 aa9 : ak2 P F.aa9 = some K.aa9
 ac6 : ak2 P F.ac6 = some K.ac6
 ao9 : ak2 P F.ao9 = some K.ao9
 ae2 : ak2 P F.ae2 = some K.ae2
 ae1 : ak2 P F.ae1 = some K.ae1
 ab6 : ak2 P F.ab6 = some K.ab6
 af7 : ak2 P F.af7 = some K.af7
 ab9 : ak2 P F.ab9 = some K.ab9
 o5 : ak2 P F.o5 = some K.o5
 ac7 : ak2 P F.ac7 = some K.ac7
 ag5 : ak2 P F.ag5 = some K.ag5
 ac8 : ak2 P F.ac8 = some K.ac8
 ext_awake : cg5 P F.ai3 [] (ResC [.bool true])
 ext_rep : ∃ v,ah6 P F.ae0 [.list .no 1 [[.lit (.int .i64 (-1))]],.lit (.int .i64 2)] .bare = some (.ret v,none) ∧ RelC (.sl 1 [[.int .i64 (-1)],[.int .i64 (-1)]]) v
 rest_run : ak2 P F.bi7 = some (cu9 5 6)
 cln_inst : ak2 P F.ac5 = some (a15 74 7 56 45 4)
 un_insts : P.underlying 45 = some (.slice 74)
 cln_int : ak2 P F.aD6 = some (a15 3 1 8 34 4)
 un_ints : P.underlying 34 = some (.slice 3)
 gw : bv2
 pt_30 : ∃ e,P.underlying 30 = some (.pointer e)
 ni_52 : ∃ m,P.underlying 52 = some (.interface m)
 ta_79 : TaF P 79 [.lit (.int .u64 0),.lit (.int .u64 0),.lit (.int .u64 0),.lit (.int .u64 0)]
 ta_81 : TaF P 81 [.lit (.slice none 0 0)]
 ta_82 : TaF P 82 [.lit (.slice none 0 0)]
 ta_84 : TaF P 84 [.lit .nilIface,.lit (.int .i64 0),.lit (.int .i64 0)]
 ta_86 : TaF P 86 [.lit (.int .i64 0),.lit .nilIface]
 ta_88 : TaF P 88 [.lit (.int .i64 0)]
 ta_90 : TaF P 90 []
 ta_91 : TaF P 91 []
 ta_92 : TaF P 92 []
open Go.RowKit
def isPtrD : Option TypeDesc → Bool
 | some (.pointer _)=>true
 | _=>false
theorem ptr_of {P : Program} {t : TypeId} (h : isPtrD (P.underlying t) = true) : ∃ e,P.underlying t = some (.pointer e):=by
 cases hu : P.underlying t with
 | none=>rw [hu] at h; cases h
 | some d=>rw [hu] at h; cases d <;> first | exact ⟨_,rfl⟩ | cases h
def isIfcD : Option TypeDesc → Bool
 | some (.interface _)=>true
 | _=>false
theorem ifc_of {P : Program} {t : TypeId} (h : isIfcD (P.underlying t) = true) : ∃ m,P.underlying t = some (.interface m):=by
 cases hu : P.underlying t with
 | none=>rw [hu] at h; cases h
 | some d=>rw [hu] at h; cases d <;> first | exact ⟨_,rfl⟩ | cases h
def taB (P : Program) (t : TypeId) (zs : List AV) : Prop:=(P.underlying t).map aE6 = some false ∧ ((P.info? t).bind (·.zero)).map AV.ofV1 = some (.agg zs)
theorem bq3 {P : Program} {t : TypeId} {zs : List AV} (h : taB P t zs) : TaF P t zs:=by
 obtain ⟨h1,h2⟩:=h
 obtain ⟨d,hd,h1⟩:=Option.map_eq_some_iff.1 h1
 obtain ⟨z,hz,h2⟩:=Option.map_eq_some_iff.1 h2
 obtain ⟨i,hi,h3⟩:=Option.bind_eq_some_iff.1 hz
 exact ⟨⟨d,hd,h1⟩,i,z,hi,h3,h2⟩
theorem rep_run : aj2 Tryz.prog 60 F.ae0 [.list .no 1 [[.lit (.int .i64 (-1))]],.lit (.int .i64 2)] .bare = some (.ret (.list .no 1 [[.lit (.int .i64 (-1))],[.lit (.int .i64 (-1))]]),none):=by kernel_rfl
theorem cz4 : ab1 [.int .i64 (-1)] [.lit (.int .i64 (-1))]:=by
 unfold ab1
 exact ⟨_,[],rfl,by unfold RelC; rfl,by unfold ab1; rfl⟩
instance codeAll : ab5 Tryz.prog where
 al4:=by kernel_rfl
 al7:=by kernel_rfl
 al9:=by kernel_rfl
 ab7:=by kernel_rfl
 ar1:=by kernel_rfl
 an8:=by kernel_rfl
 ab2:=by kernel_rfl
 o9:=by kernel_rfl
 o8:=by kernel_rfl
 at7:=by kernel_rfl
 aa0:=by kernel_rfl
 y9:=by kernel_rfl
 o7:=by kernel_rfl
 y5:=by kernel_rfl
 al8:=by kernel_rfl
 ac9:=by kernel_rfl
 aa6:=by kernel_rfl
 o6:=by kernel_rfl
 ag8:=by kernel_rfl
 aq8:=by kernel_rfl
 ak8:=by kernel_rfl
 aa9:=by kernel_rfl
 ac6:=by kernel_rfl
 ao9:=by kernel_rfl
 ae2:=by kernel_rfl
 ae1:=by kernel_rfl
 ab6:=by kernel_rfl
 af7:=by kernel_rfl
 ab9:=by kernel_rfl
 o5:=by kernel_rfl
 ac7:=by kernel_rfl
 ag5:=by kernel_rfl
 ac8:=by kernel_rfl
 rest_run:=by kernel_rfl
 cln_inst:=by kernel_rfl
 cln_int:=by kernel_rfl
 un_insts:=by kernel_rfl
 un_ints:=by kernel_rfl
 pt_30:=ptr_of (by kernel_rfl)
 ni_52:=ifc_of (by kernel_rfl)
 ta_79:=bq3 ⟨by kernel_rfl,by kernel_rfl⟩
 ta_81:=bq3 ⟨by kernel_rfl,by kernel_rfl⟩
 ta_82:=bq3 ⟨by kernel_rfl,by kernel_rfl⟩
 ta_84:=bq3 ⟨by kernel_rfl,by kernel_rfl⟩
 ta_86:=bq3 ⟨by kernel_rfl,by kernel_rfl⟩
 ta_88:=bq3 ⟨by kernel_rfl,by kernel_rfl⟩
 ta_90:=bq3 ⟨by kernel_rfl,by kernel_rfl⟩
 ta_91:=bq3 ⟨by kernel_rfl,by kernel_rfl⟩
 ta_92:=bq3 ⟨by kernel_rfl,by kernel_rfl⟩
 gw:=givenW
 ext_awake:=⟨.lit (.bool true),ax3.2 ⟨1,rfl⟩,rfl⟩
 ext_rep:=⟨_,ax3.2 ⟨60,rep_run⟩,RelC.list rfl (by unfold ab8; exact ⟨_,_,rfl,cz4,by unfold ab8; exact ⟨_,[],rfl,cz4,by unfold ab8; rfl⟩⟩)⟩
open Go.ChangeShapes Go.WideShapes Go.ChangeAt Go.RowKit
def bq1 (P : Program) (ts : List TypeId) : Bool:=ts.all fun t=>P.readableRec t && decide (t < P.types.size)
theorem bo8 {H : Type} {enc : TypeId × Value → H} {P : Program} (hl : laidOutB P = true) {W W' : World} (hb : Below W.heap.size W W') :
  ∀ {ts : List TypeId} {vs : List Value} {ds : List (DataW H)} {ps : List MemPlace},bq1 P ts = true → (∀ p ∈ ps,p.block < W.heap.size) →
   DataW.TrodAll enc P W 0 (fun _=>true) true ts vs ds ps → DataW.TrodAll enc P W' 0 (fun b=>decide (b < W.heap.size)) true ts vs ds ps
 | [],[],[],_,_,_,h=>h
 | t :: ts,v :: vs,d :: ds,ps,hr,hlt,h=>by
  obtain ⟨p,q,h1,h2,rfl⟩:=h
  simp only [bq1,List.all_cons,Bool.and_eq_true,decide_eq_true_eq] at hr
  exact ⟨p,q,Below.trod hl hr.1.1 hr.1.2 h1 hb (fun x hx=>hlt x (List.mem_append_left _ hx)),
   bo8 hl hb (by simpa [bq1] using hr.2) (fun x hx=>hlt x (List.mem_append_right _ hx)) h2,rfl⟩
 | [],_ :: _,_,_,_,_,h=>by cases h
 | [],[],_ :: _,_,_,_,h=>by cases h
 | _ :: _,[],_,_,_,_,h=>by cases h
 | _ :: _,_ :: _,[],_,_,_,h=>by cases h
theorem cH4 {H : Type} {enc : TypeId × Value → H} {P : Program} {f : Func} {s : ChangeSpec} {W W' : World} {args : Array Value} {ds gs : List (DataW H)} {before : List MemPlace} {tb : TypeId}
  (hl : laidOutB P = true) (hrow : bq1 P f.params.toList = true) (hres : f.resultTypes = #[tb]) (htb : P.underlying tb = some .bool) (hv : s.vars = [])
  (hs : ∀ x : List (DataW H),x.length = ds.length → s.fn H x = { results:=[.lit (.bool true)],args:=x }) (hW : DataW.Whole enc P f.params.toList s.vars false W args.toList ds gs before) (hb : Below W.heap.size W W') :
  s.post enc P f false true false false W args (.bool true) W':=by
 have hlt:=hW.lt
 have hW':=hW
 obtain ⟨p,q,hA,hV,rfl,_⟩:=hW
 rw [hv] at hV
 obtain ⟨rfl,rfl⟩:=trodVars_none hV
 have e:=hs ds rfl
 refine ⟨ds,[],p ++ [],[],p,[],hW',?_,?_,?_,hb.frame _,fun h=>by cases h⟩
 ·rw [List.append_nil,e,hres]
  exact trodAll_mk1 (shut_bool htb _)
 ·rw [List.append_nil,e]
  exact bo8 hl hb hrow (fun x hx=>hlt x (by simpa using hx)) hA
 ·rw [List.append_nil,e,hv]
  rfl
open Go.RowKit
noncomputable section
def ai3  : Option Bool:=some true
def ae0 (a0 : (List Int)) (a1 : Int) : Option (List Int):=if a0 = [-1] ∧ a1 = 2 then some [-1,-1] else none
def ac5 (a0 : (List D.ac0)) : Option (List D.ac0):=G.clone a0
end
open Go.RowKit
noncomputable section
def ab7 (a0 : D.l9) : Option (List D.l9) :=
 (if (D.l9.ax6 a0).isSome = true then some (((D.l9.ax6 a0).getD (D.ao8.mk [])).Parts) else (if (D.l9.aH3 a0).isSome = true then some (((D.l9.aH3 a0).getD (D.at6.mk [])).Parts) else (if (D.l9.bn9 a0).isSome = true then some [((D.l9.bn9 a0).getD (D.aB0.mk D.l9.nil 0 0)).Of] else (if (D.l9.am5 a0).isSome = true then some [((D.l9.am5 a0).getD (D.ak6.mk 0 D.l9.nil)).Of] else some []))))
def ar1 (a0 : D.l9) : Option D.l9 :=
 (if (D.l9.isnil a0 != false) = true then some D.l9.Empty else some a0)
def an8 (a0 : D.l9) : Option Bool :=
 (ar1 a0).bind fun x1 =>
(if (((D.l9.a96 x1).isSome) || (((D.l9.ax6 x1).isSome) || ((D.l9.aH3 x1).isSome))) = true then some false else some true)
def ab2 (a0 : D.l9) : Option Bool :=
 (an8 a0).bind fun x1 =>
some (!x1)
def aa1 (p1 : (List D.l9)) (p2 : Int) : Int → Option (Ctl Int Unit Int):=fun p3 =>
(if p3 < p2 then (G.idx p1 p3).bind fun x4 =>
(ab2 x4).bind fun x5 =>
(if x5 = true then some (.ret p3) else some (.nxt (G.addI p3 1))) else some (.brk ()))
def o9 (a0 : (List D.l9)) : Option Int :=
 (Loop (aa1 a0 (a0.length : Int)) 0).bind fun o=>(match o with
| .brk _=>some (-1)
| .ret r=>some r)
def o8 (a0 : (List D.l9)) : Option Bool :=
 (o9 a0).bind fun x1 =>
some (decide (x1 ≥ 0))
def at7 (a0 : D.l9) : Option Bool :=
 some ((D.l9.aH3 a0).isSome)
def ad7 (p1 : (List D.l9)) (p2 : Int) : Int → Option (Ctl Int Unit Int):=fun p3 =>
(if p3 < p2 then (G.idx p1 p3).bind fun x4 =>
(at7 x4).bind fun x5 =>
(if x5 = true then some (.ret p3) else some (.nxt (G.addI p3 1))) else some (.brk ()))
def aa0 (a0 : (List D.l9)) : Option Int :=
 (Loop (ad7 a0 (a0.length : Int)) 0).bind fun o=>(match o with
| .brk _=>some (-1)
| .ret r=>some r)
def y9 (a0 : (List D.l9)) : Option Bool :=
 (aa0 a0).bind fun x1 =>
some (decide (x1 ≥ 0))
def o7 (a0 : D.aa4) (a1 : D.l9) : Option (D.aa4 × Bool) :=
 (if (D.l9.ax6 a1).isSome = true then (G.when (decide (((((D.l9.ax6 a1).getD (D.ao8.mk [])).Parts).length : Int) > 1)) (o8 (((D.l9.ax6 a1).getD (D.ao8.mk [])).Parts)) false).bind fun x1 =>
some (a0,((decide (((((D.l9.ax6 a1).getD (D.ao8.mk [])).Parts).length : Int) > 1)) && (!x1))) else (if (D.l9.aH3 a1).isSome = true then (G.when (decide (((((D.l9.aH3 a1).getD (D.at6.mk [])).Parts).length : Int) > 1)) (y9 (((D.l9.aH3 a1).getD (D.at6.mk [])).Parts)) false).bind fun x2 =>
some (a0,((decide (((((D.l9.aH3 a1).getD (D.at6.mk [])).Parts).length : Int) > 1)) && (!x2))) else (if (D.l9.bn9 a1).isSome = true then none else (if (D.l9.am5 a1).isSome = true then some ((D.aa4.mk (G.addI a0.opened 1) a0.closed),decide ((((D.l9.am5 a1).getD (D.ak6.mk 0 D.l9.nil)).Number) = (G.addI a0.opened 1))) else (if (D.l9.aL3 a1).isSome = true then none else some (a0,true))))))
def ai6 (fu : Nat) (rec_tree_looker_right : D.aa4 → D.l9 → Option (D.aa4 × Bool)) (p3 : D.l9) (p4 : (List D.l9)) (p5 : Int) : (Int × D.aa4) → Option (Ctl (Int × D.aa4) D.aa4 (D.aa4 × Bool)):=fun (p6,q7) =>
(if p6 < p5 then (G.idx p4 p6).bind fun x10 =>
(rec_tree_looker_right q7 x10).bind fun x11 =>
(if (!x11.2) = true then some (.ret (x11.1,false)) else some (.nxt ((G.addI p6 1),x11.1))) else some (.brk q7))
def ad2 (fu : Nat) (rec_tree_looker_right : D.aa4 → D.l9 → Option (D.aa4 × Bool)) (a0 : D.aa4) (a1 : D.l9) : Option (D.aa4 × Bool) :=
 (o7 a0 a1).bind fun x1 =>
(if (!x1.2) = true then some (x1.1,false) else (ab7 a1).bind fun x2 =>
(Loop (ai6 fu rec_tree_looker_right a1 x2 (x2.length : Int)) (0,x1.1)).bind fun o=>(match o with
| .brk q9=>(if (D.l9.am5 a1).isSome = true then (G.app q9.closed [((D.l9.am5 a1).getD (D.ak6.mk 0 D.l9.nil)).Number]).bind fun x12 =>
some ((D.aa4.mk q9.opened x12),true) else some (q9,true))
| .ret r=>some r))
def y5 : Nat → D.aa4 → D.l9 → Option (D.aa4 × Bool)
 | 0,_,_=>none
 | fu + 1,a0,a1=>ad2 fu (y5 fu) a0 a1
def al8 (fu : Nat) (a0 : D.l9) : Option Bool :=
 (y5 fu (D.aa4.mk 0 []) a0).bind fun x1 =>
some x1.2
def aI2 (fu : Nat) (rec_tree_Groups : D.l9 → Option Int) (p3 : (List D.l9)) (p4 : Int) : (Int × Int) → Option (Ctl (Int × Int) Int Int):=fun (p2,p5) =>
(if p5 < p4 then (G.idx p3 p5).bind fun x7 =>
(rec_tree_Groups x7).bind fun x8 =>
some (.nxt ((G.addI p2 x8),(G.addI p5 1))) else some (.brk p2))
def ar2 (fu : Nat) (rec_tree_Groups : D.l9 → Option Int) (p11 : (List D.l9)) (p12 : Int) : (Int × Int) → Option (Ctl (Int × Int) Int Int):=fun (p10,p13) =>
(if p13 < p12 then (G.idx p11 p13).bind fun x15 =>
(rec_tree_Groups x15).bind fun x16 =>
some (.nxt ((G.addI p10 x16),(G.addI p13 1))) else some (.brk p10))
def ah4 (fu : Nat) (rec_tree_Groups : D.l9 → Option Int) (a0 : D.l9) : Option Int :=
 (if (D.l9.am5 a0).isSome = true then (ab7 a0).bind fun x1 =>
(Loop (aI2 fu rec_tree_Groups x1 (x1.length : Int)) ((G.addI 0 1),0)).bind fun o=>(match o with
| .brk p6=>some p6
| .ret r=>some r) else (ab7 a0).bind fun x9 =>
(Loop (ar2 fu rec_tree_Groups x9 (x9.length : Int)) (0,0)).bind fun o=>(match o with
| .brk p14=>some p14
| .ret r=>some r))
def ac9 : Nat → D.l9 → Option Int
 | 0,_=>none
 | fu + 1,a0=>ah4 fu (ac9 fu) a0
end
open Go.RowKit
noncomputable section
def aa6 (a0 : D.aa2) (a1 : D.ac0) : Option (D.aa2 × Int) :=
 (if (a0.Program.Insts.length : Int) ≥ 3000 then some ((D.aa2.mk a0.Program true),0) else (G.app a0.Program.Insts [a1]).bind fun x1 =>
some ((D.aa2.mk (D.ac3.mk x1 a0.Program.Groups a0.Program.Loops a0.Program.Backs) a0.full),(G.subI (x1.length : Int) 1)))
def ai7 (fu : Nat) (rec_code_builder_node : D.aa2 → D.l9 → Option D.aa2) (p5 : (List D.l9)) (p6 : Int) : (Int × D.aa2) → Option (Ctl (Int × D.aa2) D.aa2 D.aa2):=fun (p7,q8) =>
(if p7 < p6 then (G.idx p5 p7).bind fun x10 =>
(rec_code_builder_node q8 x10).bind fun x11 =>
some (.nxt ((G.addI p7 1),x11)) else some (.brk q8))
def ae3 (fu : Nat) (rec_code_builder_node : D.aa2 → D.l9 → Option D.aa2) (a0 : D.aa2) (a1 : D.l9) : Option D.aa2 :=
 (if a0.full = true then some a0 else (if (D.l9.aD7 a1).isSome = true then (aa6 a0 (D.ac0.mk 0 (A4.mk ((((D.l9.aD7 a1).getD (D.ao6.mk (A4.mk 0 0 0 0))).Set).x0) ((((D.l9.aD7 a1).getD (D.ao6.mk (A4.mk 0 0 0 0))).Set).x1) ((((D.l9.aD7 a1).getD (D.ao6.mk (A4.mk 0 0 0 0))).Set).x2) ((((D.l9.aD7 a1).getD (D.ao6.mk (A4.mk 0 0 0 0))).Set).x3)) 0 0)).bind fun x1 =>
some x1.1 else (if (D.l9.aL5 a1).isSome = true then (aa6 a0 (D.ac0.mk 5 (A4.mk 0 0 0 0) 0 0)).bind fun x2 =>
some x2.1 else (if (D.l9.bB7 a1).isSome = true then (aa6 a0 (D.ac0.mk 6 (A4.mk 0 0 0 0) 0 0)).bind fun x3 =>
some x3.1 else (if (D.l9.aL3 a1).isSome = true then (aa6 a0 (D.ac0.mk 4 (A4.mk 0 0 0 0) (((D.l9.aL3 a1).getD (D.av9.mk 0)).Number) 0)).bind fun x4 =>
some (D.aa2.mk (D.ac3.mk x4.1.Program.Insts x4.1.Program.Groups x4.1.Program.Loops true) x4.1.full) else (if (D.l9.ax6 a1).isSome = true then (Loop (ai7 fu rec_code_builder_node (((D.l9.ax6 a1).getD (D.ao8.mk [])).Parts) ((((D.l9.ax6 a1).getD (D.ao8.mk [])).Parts).length : Int)) (0,a0)).bind fun o=>(match o with
| .brk q9=>some q9
| .ret r=>some r) else (if (D.l9.aH3 a1).isSome = true then none else (if (D.l9.am5 a1).isSome = true then (aa6 a0 (D.ac0.mk 3 (A4.mk 0 0 0 0) (G.mulI 2 (((D.l9.am5 a1).getD (D.ak6.mk 0 D.l9.nil)).Number)) 0)).bind fun x12 =>
(rec_code_builder_node x12.1 (((D.l9.am5 a1).getD (D.ak6.mk 0 D.l9.nil)).Of)).bind fun x13 =>
(aa6 x13 (D.ac0.mk 3 (A4.mk 0 0 0 0) (G.addI (G.mulI 2 (((D.l9.am5 a1).getD (D.ak6.mk 0 D.l9.nil)).Number)) 1) 0)).bind fun x14 =>
some x14.1 else (if (D.l9.bn9 a1).isSome = true then none else some a0)))))))))
def o6 : Nat → D.aa2 → D.l9 → Option D.aa2
 | 0,_,_=>none
 | fu + 1,a0,a1=>ae3 fu (o6 fu) a0 a1
def ag8 (fu : Nat) (a0 : D.l9) : Option (D.ac3 × Int) :=
 (al8 fu a0).bind fun x1 =>
(if (!x1) = true then some ((D.ac3.mk [] 0 0 false),2) else (ac9 fu a0).bind fun x2 =>
(aa6 (D.aa2.mk (D.ac3.mk [] x2 0 false) false) (D.ac0.mk 3 (A4.mk 0 0 0 0) 0 0)).bind fun x3 =>
(o6 fu x3.1 a0).bind fun x4 =>
(aa6 x4 (D.ac0.mk 3 (A4.mk 0 0 0 0) 1 0)).bind fun x5 =>
(aa6 x5.1 (D.ac0.mk 9 (A4.mk 0 0 0 0) 0 0)).bind fun x6 =>
(if x6.1.full = true then some ((D.ac3.mk [] 0 0 false),3) else some (x6.1.Program,0)))
def ac6 (a0 : D.ac3) : Option D.ac3 :=
 (ac5 a0.Insts).bind fun x1 =>
some (D.ac3.mk x1 a0.Groups a0.Loops a0.Backs)
end
open Go.RowKit
noncomputable section
def al4 (a0 : A4) (a1 : Int) : Option A4 :=
 (G.chk 4 (IntKind.u8.wrap (Int.tdiv a1 64))).bind fun x1 =>
(G.shlK .u64 1 (Int.tmod a1 64)).bind fun x2 =>
(G.chk 4 (IntKind.u8.wrap (Int.tdiv a1 64))).bind fun x3 =>
some (A4.mk ((A4.set a0 (IntKind.u8.wrap (Int.tdiv a1 64)) (G.orK .u64 (A4.get a0 (IntKind.u8.wrap (Int.tdiv a1 64))) x2)).x0) ((A4.set a0 (IntKind.u8.wrap (Int.tdiv a1 64)) (G.orK .u64 (A4.get a0 (IntKind.u8.wrap (Int.tdiv a1 64))) x2)).x1) ((A4.set a0 (IntKind.u8.wrap (Int.tdiv a1 64)) (G.orK .u64 (A4.get a0 (IntKind.u8.wrap (Int.tdiv a1 64))) x2)).x2) ((A4.set a0 (IntKind.u8.wrap (Int.tdiv a1 64)) (G.orK .u64 (A4.get a0 (IntKind.u8.wrap (Int.tdiv a1 64))) x2)).x3))
def ay7 (p1 : Int) (p3 : Int) (p4 : Int) (p5 : Int) (p6 : Int) : (Int × Int × Int × Int × Int) → Option (Ctl (Int × Int × Int × Int × Int) (Int × Int × Int × Int) A4):=fun (p2,p7,p8,p9,p10) =>
(if p2 ≤ (IntKind.i64.wrap p1) then (al4 (A4.mk p7 p8 p9 p10) (IntKind.u8.wrap p2)).bind fun x19 =>
some (.nxt ((G.addI p2 1),x19.x0,x19.x1,x19.x2,x19.x3)) else some (.brk (p7,p8,p9,p10)))
def al7 (a0 : Int) (a1 : Int) : Option A4 :=
 (Loop (ay7 a1 0 0 0 0) ((IntKind.i64.wrap a0),0,0,0,0)).bind fun o=>(match o with
| .brk (p15,p16,p17,p18)=>some (A4.mk p15 p16 p17 p18)
| .ret r=>some r)
end
open Go.RowKit
noncomputable section
def al9 (a0 : Int) : Option D.aa5 :=
 (al7 a0 a0).bind fun x1 =>
some (D.aa5.mk 1 x1 [] 0 0 0)
def aq8 (a0 : D.aa5) : Option D.aa5 :=
 (if (a0.Parts.length : Int) = 0 then some (D.aa5.mk 0 (A4.mk 0 0 0 0) [] 0 0 0) else (G.idx a0.Parts 0).bind fun x1 =>
some x1)
def ak8 (a0 : D.aa5) : Option (List D.aa5) :=
 (if a0.Kind = 2 then (if a0.Kind = 2 then some a0.Parts else (if a0.Kind = 4 then (if a0.Kind = 4 then (aq8 a0).bind fun x1 =>
some [x1] else some []) else (if a0.Kind = 5 then (aq8 a0).bind fun x2 =>
some [x2] else some []))) else (if a0.Kind = 3 then some a0.Parts else (if a0.Kind = 4 then (if a0.Kind = 4 then (aq8 a0).bind fun x3 =>
some [x3] else some []) else (if a0.Kind = 5 then (aq8 a0).bind fun x4 =>
some [x4] else some []))))
def au1 (p1 : (List D.aa5)) (p2 : Int) (q4 : D.aa5) : (Int × List D.aa5) → Option (Ctl (Int × List D.aa5) (List D.aa5) D.aa5):=fun (p3,q5) =>
(if p3 < p2 then (G.idx p1 p3).bind fun x8 =>
(if x8.Kind = 0 then some (.nxt ((G.addI p3 1),q5)) else (if x8.Kind = 2 then (G.idx p1 p3).bind fun x9 =>
(G.app q5 x9.Parts).bind fun x10 =>
some (.nxt ((G.addI p3 1),x10)) else (G.idx p1 p3).bind fun x11 =>
(G.app q5 [x11]).bind fun x12 =>
some (.nxt ((G.addI p3 1),x12)))) else some (.brk q5))
def ae1 (a0 : (List D.aa5)) : Option D.aa5 :=
 (Loop (au1 a0 (a0.length : Int) (D.aa5.mk 0 (A4.mk 0 0 0 0) [] 0 0 0)) (0,[])).bind fun o=>(match o with
| .brk q7=>(if (q7.length : Int) = 0 then some (D.aa5.mk 0 (A4.mk 0 0 0 0) [] 0 0 0) else (if (q7.length : Int) = 1 then (G.idx q7 0).bind fun x13 =>
some x13 else some (D.aa5.mk 2 (A4.mk 0 0 0 0) q7 0 0 0)))
| .ret r=>some r)
end
open Go.RowKit
noncomputable section
def au3 (fu : Nat) (rec_law03_Real : D.aa5 → Option D.l9) (p2 : (List D.aa5)) (p3 : Int) (q5 : D.aa5) : (Int × List D.l9) → Option (Ctl (Int × List D.l9) (List D.l9) D.l9):=fun (p4,q6) =>
(if p4 < p3 then (G.idx p2 p4).bind fun x9 =>
(rec_law03_Real x9).bind fun x10 =>
(G.app q6 [x10]).bind fun x11 =>
some (.nxt ((G.addI p4 1),x11)) else some (.brk q6))
def ai2 (fu : Nat) (rec_law03_Real : D.aa5 → Option D.l9) (a0 : D.aa5) : Option D.l9 :=
 (ak8 a0).bind fun x1 =>
(Loop (au3 fu rec_law03_Real x1 (x1.length : Int) a0) (0,[])).bind fun o=>(match o with
| .brk q8=>(if a0.Kind = 1 then some (D.l9.One a0.Set) else (if a0.Kind = 2 then some (D.l9.Cat q8) else (if a0.Kind = 3 then some (D.l9.Alt q8) else (if a0.Kind = 4 then (G.idx q8 0).bind fun x12 =>
some (D.l9.Rep x12 a0.Min a0.Max) else (if a0.Kind = 5 then (G.idx q8 0).bind fun x13 =>
some (D.l9.Group a0.Number x13) else (if a0.Kind = 6 then some (D.l9.Back a0.Number) else (if a0.Kind = 7 then some D.l9.Start else (if a0.Kind = 8 then some D.l9.End else some D.l9.Empty))))))))
| .ret r=>some r)
def aa9 : Nat → D.aa5 → Option D.l9
 | 0,_=>none
 | fu + 1,a0=>ai2 fu (aa9 fu) a0
end
open Go.RowKit
noncomputable section
def af7 (a0 : A4) (a1 : Int) : Option Bool :=
 (G.chk 4 (IntKind.u8.wrap (Int.tdiv a1 64))).bind fun x1 =>
(G.shrK .u64 (A4.get a0 (IntKind.u8.wrap (Int.tdiv a1 64))) (Int.tmod a1 64)).bind fun x2 =>
some (decide ((G.andK .u64 x2 1) = 1))
end
open Go.RowKit
noncomputable section
def ao9 (a0 : D.ac3) : Option (Option D.ah5) :=
 (ac6 a0).bind fun x1 =>
some (some (D.ah5.mk x1))
def ab6 (a0 : D.y7) (a1 : Int) : Option D.y7 :=
 (G.when (!(decide ((a0.best.length : Int) = 0))) (G.idx a0.best 1) 0).bind fun x1 =>
(if ((decide ((a0.best.length : Int) = 0)) || (decide (a1 > x1))) = true then (G.aN5 a0.slots).bind fun x2 =>
some (D.y7.mk a0.Program a0.s a0.slots a0.entered a0.been x2) else some a0)
def ab9 (a0 : D.y7) (a1 : D.ac0) (a2 : Int) : Option (Int × Bool) :=
 (if a1.Op = 0 then (G.when (decide (a2 < (a0.s.length : Int))) (G.idxS a0.s a2) 0).bind fun x1 =>
(G.when (decide (a2 < (a0.s.length : Int))) (af7 a1.Set x1) false).bind fun x2 =>
some ((G.addI a2 1),((decide (a2 < (a0.s.length : Int))) && x2)) else (if a1.Op = 5 then some (a2,decide (a2 = 0)) else (if a1.Op = 6 then some (a2,decide (a2 = (a0.s.length : Int))) else none)))
def ad3 (fu : Nat) (rec_match_machine_run : D.y7 → Int → Int → Option D.y7) (p6 : (List Int)) (p7 : (List Int)) : (Int × Int × D.y7) → Option (Ctl (Int × Int × D.y7) Unit D.y7):=fun (p4,p5,q8) =>
(G.idx q8.Program.Insts p4).bind fun x9 =>
(if x9.Op = 9 then (ab6 q8 p5).bind fun x10 =>
some (.ret (D.y7.mk x10.Program x10.s p6 p7 x10.been x10.best)) else (if x9.Op = 1 then none else (if x9.Op = 2 then some (.nxt (x9.X,p5,q8)) else (if x9.Op = 3 then (G.aN5 q8.slots).bind fun x11 =>
(G.idx x11 x9.X).bind fun x12 =>
some (.nxt ((G.addI p4 1),p5,(D.y7.mk q8.Program q8.s (List.set x11 (x9.X).toNat p5) q8.entered q8.been q8.best))) else (if x9.Op = 7 then none else (ab9 q8 x9 p5).bind fun x13 =>
(if (!x13.2) = true then some (.ret (D.y7.mk q8.Program q8.s p6 p7 q8.been q8.best)) else (if x13.1 ≠ p5 then some (.nxt ((G.addI p4 1),x13.1,(D.y7.mk q8.Program q8.s q8.slots [] q8.been q8.best))) else some (.nxt ((G.addI p4 1),x13.1,q8)))))))))
def aj3 (fu : Nat) (rec_match_machine_run : D.y7 → Int → Int → Option D.y7) (a0 : D.y7) (a1 : Int) (a2 : Int) : Option D.y7 :=
 (G.idx a0.Program.Insts a1).bind fun x1 =>
(if x1.Op = 9 then none else (if x1.Op = 1 then none else (if x1.Op = 2 then none else (if x1.Op = 3 then (G.aN5 a0.slots).bind fun x2 =>
(G.idx x2 x1.X).bind fun x3 =>
(Loop (ad3 fu rec_match_machine_run a0.slots a0.entered) ((G.addI a1 1),a2,(D.y7.mk a0.Program a0.s (List.set x2 (x1.X).toNat a2) a0.entered a0.been a0.best))).bind fun o=>(match o with
| .brk _=>none
| .ret r=>some r) else none))))
def o5 : Nat → D.y7 → Int → Int → Option D.y7
 | 0,_,_,_=>none
 | fu + 1,a0,a1,a2=>aj3 fu (o5 fu) a0 a1 a2
def ah7 (fu : Nat) (p1 : (Option D.ah5)) (p2 : List UInt8) (p3 : Int) : Int → Option (Ctl Int Unit ((List Int) × Bool)):=fun p4 =>
(if ((decide (p3 ≥ 0)) && (decide (p4 ≤ (p2.length : Int)))) = true then (p1).bind fun x5 =>
(p1).bind fun x6 =>
(ae0 [(-1)] (G.addI (G.mulI 2 x6.p.Groups) 2)).bind fun x7 =>
(o5 fu (D.y7.mk x5.p p2 x7 [] [] []) 0 p4).bind fun x8 =>
(if (x8.best.length : Int) > 0 then some (.ret (x8.best,true)) else some (.nxt (G.addI p4 1))) else some (.brk ()))
def ac7 (fu : Nat) (a0 : (Option D.ah5)) (a1 : List UInt8) (a2 : Int) : Option ((List Int) × Bool) :=
 (Loop (ah7 fu a0 a1 a2) (if 0 > a2 then 0 else a2)).bind fun o=>(match o with
| .brk _=>some ([],false)
| .ret r=>some r)
end
open Go.RowKit
noncomputable section
def ae2 (fu : Nat) (a0 : D.aa5) : Option ((Option D.ah5) × Bool) :=
 (aa9 fu a0).bind fun x1 =>
(ag8 fu x1).bind fun x2 =>
(if ((decide (x2.2 ≠ 0)) || (decide ((x2.1.Insts.length : Int) = 0))) = true then some (none,false) else (ao9 x2.1).bind fun x3 =>
some (x3,(Option.isNone x3 != true)))
def ak9 (p1 : (List Int)) (p2 : (List Int)) (p3 : Int) : Int → Option (Ctl Int Unit Bool):=fun p4 =>
(if p4 < p3 then (G.idx p1 p4).bind fun x5 =>
(G.idx p2 p4).bind fun x6 =>
(if x5 ≠ x6 then some (.ret false) else some (.nxt (G.addI p4 1))) else some (.brk ()))
def ag5 (a0 : (List Int)) (a1 : (List Int)) : Option Bool :=
 (if (a0.length : Int) ≠ (a1.length : Int) then some false else (Loop (ak9 a0 a1 (a0.length : Int)) 0).bind fun o=>(match o with
| .brk _=>some true
| .ret r=>some r))
def ak7 (fu : Nat) (p3 : List UInt8) (p4 : List UInt8) (p5 : Int) (p6 : Int) : (Int × List D.aa5) → Option (Ctl (Int × List D.aa5) (List D.aa5) Bool):=fun (p7,q8) =>
(if p7 < p6 then (G.idxS p3 p7).bind fun x13 =>
(al9 x13).bind fun x14 =>
(G.app q8 [x14]).bind fun x15 =>
some (.nxt ((G.addI p7 1),x15)) else some (.brk q8))
def af9 (fu : Nat) (p19 : List UInt8) (p20 : List UInt8) (p21 : (List Int)) (p22 : Bool) : Int → Option (Ctl Int Unit Bool):=fun p23 =>
(if p23 ≤ (G.subI (p20.length : Int) (p19.length : Int)) then (G.subS p20 p23 (G.addI p23 (p19.length : Int))).bind fun x26 =>
(if x26 = p19 then (if p22 = true then (ag5 p21 [p23,(G.addI p23 (p19.length : Int))]).bind fun x27 =>
some (.ret (p22 && x27)) else some (.ret (p22 && false))) else some (.nxt (G.addI p23 1))) else some (.brk ()))
def ac8 (fu : Nat) (a0 : List UInt8) (a1 : List UInt8) (a2 : Int) : Option Bool :=
 (ai3).bind fun x1 =>
(if (((!x1) || (decide ((a0.length : Int) > 12))) || (decide ((a1.length : Int) > 60))) = true then (ai3).bind fun x2 =>
some x2 else (Loop (ak7 fu a0 a1 a2 (a0.length : Int)) (0,[])).bind fun o=>(match o with
| .brk q12=>(ae1 q12).bind fun x16 =>
(ae2 fu x16).bind fun x17 =>
(if (!x17.2) = true then some false else (ac7 fu x17.1 a1 (IntKind.i64.wrap a2)).bind fun x18 =>
(Loop (af9 fu a0 a1 x18.1 x18.2) (IntKind.i64.wrap a2)).bind fun o=>(match o with
| .brk _=>some ((!x18.2) && (decide ((x18.1.length : Int) = 0)))
| .ret r=>some r))
| .ret r=>some r))
end
open Go.RowKit
namespace G
theorem cH0 {a b : Int} (h1 : -9223372036854775808 ≤ a + b) (h2 : a + b ≤ 9223372036854775807) : addI a b = a + b:=wrap_i64 h1 h2
theorem ci1 {a b : Int} (h1 : -9223372036854775808 ≤ a - b) (h2 : a - b ≤ 9223372036854775807) : subI a b = a - b:=wrap_i64 h1 h2
theorem ar6 {i : Nat} (h : i < 9223372036854775807) : addI (i : Int) 1 = ((i + 1 : Nat) : Int):=by rw [cH0 (by omega) (by omega)]; omega
theorem aM1 {α : Type} (l : List α) (i : Nat) : idx l (i : Int) = l[i]?:=by
 unfold idx
 rw [if_pos (by omega),Int.toNat_natCast]
theorem b90 {α : Type} {a b : List α} (h : a.length + b.length ≤ 1000000000) : app a b = some (a ++ b):=if_pos h
theorem cd3 {α : Type} (o : Option α) (d : α) : when true o d = o:=rfl
theorem bQ1 {α : Type} (o : Option α) (d : α) : when false o d = some d:=rfl
end G
theorem bo1 {α : Type} (l : List α) (i : Nat) (h : i < l.length) : l.take (i + 1) = l.take i ++ [l[i]]:=by
 rw [List.take_add_one,List.getElem?_eq_getElem h]; rfl
open Go.RowKit
def sb (b : Nat) : A4:=A4.set (A4.mk 0 0 0 0) (b / 64 : Nat) (2 ^ (b % 64) : Nat)
instance : DecidableEq A4:=fun a b=>decidable_of_iff (a.x0 = b.x0 ∧ a.x1 = b.x1 ∧ a.x2 = b.x2 ∧ a.x3 = b.x3) ⟨fun h=>by
 obtain ⟨a0,a1,a2,a3⟩:=a
 obtain ⟨b0,b1,b2,b3⟩:=b
 obtain ⟨h0,h1,h2,h3⟩:=h
 simp only at h0 h1 h2 h3
 subst h0 h1 h2 h3
 rfl,fun h=>by subst h; exact ⟨rfl,rfl,rfl,rfl⟩⟩
theorem with_all : ∀ b : Fin 256,al4 (A4.mk 0 0 0 0) (b.val : Int) = some (sb b.val):=by decide +kernel
theorem with_sb (b : Nat) (h : b < 256) : al4 (A4.mk 0 0 0 0) b = some (sb b):=with_all ⟨b,h⟩
theorem has_all : ∀ b c : Fin 256,af7 (sb b.val) (c.val : Int) = some (decide (b.val = c.val)):=by decide +kernel
theorem has_sb (b c : Nat) (hb : b < 256) (hc : c < 256) : af7 (sb b) c = some (decide (b = c)):=has_all ⟨b,hb⟩ ⟨c,hc⟩
theorem wrap8 {a : Nat} (h : a < 256) : IntKind.u8.wrap (a : Int) = a:=by
 have : ∀ a : Fin 256,IntKind.u8.wrap (a.val : Int) = a.val:=by decide +kernel
 exact this ⟨a,h⟩
open Go.RowKit
theorem ag2 {σ β ρ : Type} (body : σ → Option (Ctl σ β ρ)) (s : σ) : Loop body s = match body s with
  | some (.nxt s')=>Loop body s'
  | some (.brk b)=>some (.brk b)
  | some (.ret r)=>some (.ret r)
  | none=>none:=by
 apply Option.ext
 intro r
 rw [bn8]
 constructor
 ·rintro ⟨n,h⟩
  cases n with
  | zero=>cases h
  | succ n =>
   unfold by6 at h
   split at h
   ·rename_i s' e; rw [e]; exact bn8.2 ⟨n,h⟩
   ·rename_i b e; rw [e]; exact h
   ·rename_i b e; rw [e]; exact h
   ·cases h
 ·intro h
  split at h
  ·rename_i s' e
   obtain ⟨n,hn⟩:=bn8.1 h
   exact ⟨n + 1,by unfold by6; rw [e]; exact hn⟩
  ·rename_i b e; exact ⟨1,by unfold by6; rw [e]; exact h⟩
  ·rename_i b e; exact ⟨1,by unfold by6; rw [e]; exact h⟩
  ·cases h
theorem wrap64 {a : Int} (h : 0 ≤ a) (h' : a ≤ 1000000000) : IntKind.i64.wrap a = a:=wrap_i64 (by omega) (by omega)
theorem span_sb (b : Nat) (h : b < 256) : al7 b b = some (sb b):=by
 unfold al7
 rw [wrap64 (by omega) (by omega),ag2]
 simp only [ay7]
 rw [wrap64 (by omega) (by omega),if_pos (Int.le_refl _),wrap8 h,with_sb b h]
 simp only [Option.bind_some]
 rw [G.ar6 (by omega),ag2]
 simp only [ay7]
 rw [wrap64 (by omega) (by omega),if_neg (by omega)]
 rfl
def oneT (b : UInt8) : D.aa5:=D.aa5.mk 1 (sb b.toNat) [] 0 0 0
def oneN (b : UInt8) : D.l9:=D.l9.One (sb b.toNat)
theorem byte_one (b : UInt8) : al9 b.toNat = some (oneT b):=by
 unfold al9
 rw [span_sb b.toNat b.toNat_lt]
 rfl
def joined : List UInt8 → D.aa5
 | []=>D.aa5.mk 0 (A4.mk 0 0 0 0) [] 0 0 0
 | [b]=>oneT b
 | w=>D.aa5.mk 2 (A4.mk 0 0 0 0) (w.map oneT) 0 0 0
def ap8 : List UInt8 → D.l9
 | []=>.Empty
 | [b]=>oneN b
 | w=>.Cat (w.map oneN)
theorem bP4 (fu : Nat) (w s : List UInt8) (a : Int) (hw : w.length ≤ 12) : ∀ k,k ≤ w.length → Loop (ak7 fu w s a (w.length : Int)) (((w.length - k : Nat) : Int),(w.take (w.length - k)).map oneT) = some (.brk (w.map oneT))
 | 0,_=>by
  rw [ag2]
  simp only [ak7]
  rw [if_neg (by omega),Nat.sub_zero,List.take_length]
 | k + 1,hk=>by
  have ih:=bP4 fu w s a hw k (by omega)
  rw [ag2]
  simp only [ak7]
  have hlt : w.length - (k + 1) < w.length:=by omega
  rw [if_pos (by omega)]
  have hx : G.idxS w ((w.length - (k + 1) : Nat) : Int) = some ((w[w.length - (k + 1)]).toNat : Int):=by
   unfold G.idxS
   rw [if_pos (by omega),Int.toNat_natCast,List.getElem?_eq_getElem hlt]
   rfl
  rw [hx]
  simp only [Option.bind_some]
  rw [byte_one]
  simp only [Option.bind_some]
  rw [G.b90 (by simp; omega)]
  simp only [Option.bind_some]
  rw [G.ar6 (by omega)]
  have e : w.length - (k + 1) + 1 = w.length - k:=by omega
  rw [e]
  have e2 : List.map oneT (List.take (w.length - (k + 1)) w) ++ [oneT (w[w.length - (k + 1)])] = List.map oneT (List.take (w.length - k) w):=by
   rw [← e,bo1 w _ hlt,List.map_append]
   rfl
  rw [e2]
  exact ih
theorem b99 (w : List UInt8) (z : D.aa5) (hw : w.length ≤ 12) : ∀ k,k ≤ w.length → Loop (au1 (w.map oneT) ((w.map oneT).length : Int) z) (((w.length - k : Nat) : Int),(w.take (w.length - k)).map oneT) = some (.brk (w.map oneT))
 | 0,_=>by
  rw [ag2]
  simp only [au1]
  rw [if_neg (by simp),Nat.sub_zero,List.take_length]
 | k + 1,hk=>by
  have ih:=b99 w z hw k (by omega)
  rw [ag2]
  simp only [au1]
  have hlt : w.length - (k + 1) < w.length:=by omega
  rw [if_pos (by simp; omega)]
  have hx : G.idx (w.map oneT) ((w.length - (k + 1) : Nat) : Int) = some (oneT (w[w.length - (k + 1)])):=by
   rw [G.aM1,List.getElem?_map,List.getElem?_eq_getElem hlt]
   rfl
  rw [hx]
  simp only [Option.bind_some]
  rw [if_neg (by simp [oneT,D.aa5.Kind]),if_neg (by simp [oneT,D.aa5.Kind]),G.b90 (by simp; omega)]
  simp only [Option.bind_some]
  rw [G.ar6 (by omega)]
  have e : w.length - (k + 1) + 1 = w.length - k:=by omega
  rw [e]
  have e2 : List.map oneT (List.take (w.length - (k + 1)) w) ++ [oneT (w[w.length - (k + 1)])] = List.map oneT (List.take (w.length - k) w):=by
   rw [← e,bo1 w _ hlt,List.map_append]
   rfl
  rw [e2]
  exact ih
theorem join_eq (w : List UInt8) (hw : w.length ≤ 12) : ae1 (w.map oneT) = some (joined w):=by
 unfold ae1
 have h:=b99 w (D.aa5.mk 0 (A4.mk 0 0 0 0) [] 0 0 0) hw w.length (Nat.le_refl _)
 rw [Nat.sub_self,List.take_zero] at h
 rw [show ((0 : Int),([] : List D.aa5)) = (((0 : Nat) : Int),[].map oneT) from rfl,h]
 simp only [Option.bind_some]
 match w with
 | []=>rfl
 | [b]=>rfl
 | a :: b :: r =>
  rw [if_neg (by simp; omega),if_neg (by simp; omega)]
  rfl
open Go.RowKit
theorem kids_one (b : UInt8) : ak8 (oneT b) = some []:=rfl
theorem cp9 (fu : Nat) (b : UInt8) : aa9 (fu + 1) (oneT b) = some (oneN b):=by
 show ai2 fu (aa9 fu) (oneT b) = _
 unfold ai2
 rw [kids_one]
 simp only [Option.bind_some]
 rw [ag2]
 rfl
theorem b43 (fu : Nat) (w : List UInt8) (z : D.aa5) (hw : w.length ≤ 12) : ∀ k,k ≤ w.length → Loop (au3 (fu + 1) (aa9 (fu + 1)) (w.map oneT) ((w.map oneT).length : Int) z) (((w.length - k : Nat) : Int),(w.take (w.length - k)).map oneN) = some (.brk (w.map oneN))
 | 0,_=>by
  rw [ag2]
  simp only [au3]
  rw [if_neg (by simp),Nat.sub_zero,List.take_length]
 | k + 1,hk=>by
  have ih:=b43 fu w z hw k (by omega)
  rw [ag2]
  simp only [au3]
  have hlt : w.length - (k + 1) < w.length:=by omega
  rw [if_pos (by simp; omega)]
  have hx : G.idx (w.map oneT) ((w.length - (k + 1) : Nat) : Int) = some (oneT (w[w.length - (k + 1)])):=by
   rw [G.aM1,List.getElem?_map,List.getElem?_eq_getElem hlt]
   rfl
  rw [hx]
  simp only [Option.bind_some]
  rw [cp9]
  simp only [Option.bind_some]
  rw [G.b90 (by simp; omega)]
  simp only [Option.bind_some]
  rw [G.ar6 (by omega)]
  have e : w.length - (k + 1) + 1 = w.length - k:=by omega
  rw [e]
  have e2 : List.map oneN (List.take (w.length - (k + 1)) w) ++ [oneN (w[w.length - (k + 1)])] = List.map oneN (List.take (w.length - k) w):=by
   rw [← e,bo1 w _ hlt,List.map_append]
   rfl
  rw [e2]
  exact ih
theorem real_eq (fu : Nat) (w : List UInt8) (hw : w.length ≤ 12) : aa9 (fu + 2) (joined w) = some (ap8 w):=by
 match w,hw with
 | [],_ =>
  show ai2 (fu + 1) (aa9 (fu + 1)) (joined []) = _
  unfold ai2
  rw [show ak8 (joined []) = some [] from rfl]
  simp only [Option.bind_some]
  rw [ag2]
  rfl
 | [b],_=>exact cp9 (fu + 1) b
 | a :: b :: r,hw =>
  have h:=b43 fu (a :: b :: r) (joined (a :: b :: r)) hw (a :: b :: r).length (Nat.le_refl _)
  rw [Nat.sub_self,List.take_zero] at h
  show ai2 (fu + 1) (aa9 (fu + 1)) (joined (a :: b :: r)) = _
  unfold ai2
  rw [show ak8 (joined (a :: b :: r)) = some ((a :: b :: r).map oneT) from rfl]
  simp only [Option.bind_some]
  rw [show ((0 : Int),([] : List D.l9)) = (((0 : Nat) : Int),[].map oneN) from rfl,h]
  rfl
def look0 : D.aa4:=D.aa4.mk 0 []
theorem b82 (fu : Nat) (b : UInt8) (k : D.aa4) : y5 (fu + 1) k (oneN b) = some (k,true):=by
 show ad2 fu (y5 fu) k (oneN b) = _
 unfold ad2
 rw [show o7 k (oneN b) = some (k,true) from rfl]
 simp only [Option.bind_some]
 rw [show ab7 (oneN b) = some [] from rfl]
 simp only [Option.bind_some]
 rw [ag2]
 rfl
theorem bP1 (w : List UInt8) (hw : w.length ≤ 12) : ∀ k,k ≤ w.length → Loop (aa1 (w.map oneN) ((w.map oneN).length : Int)) ((w.length - k : Nat) : Int) = some (.brk ())
 | 0,_=>by
  rw [ag2]
  simp only [aa1]
  rw [if_neg (by simp)]
 | k + 1,hk=>by
  have ih:=bP1 w hw k (by omega)
  rw [ag2]
  simp only [aa1]
  have hlt : w.length - (k + 1) < w.length:=by omega
  rw [if_pos (by simp; omega)]
  have hx : G.idx (w.map oneN) ((w.length - (k + 1) : Nat) : Int) = some (oneN (w[w.length - (k + 1)])):=by
   rw [G.aM1,List.getElem?_map,List.getElem?_eq_getElem hlt]
   rfl
  rw [hx]
  simp only [Option.bind_some]
  rw [show ∀ b,ab2 (oneN b) = some false from fun _=>rfl]
  simp only [Option.bind_some]
  rw [if_neg (by simp),G.ar6 (by omega)]
  have e : w.length - (k + 1) + 1 = w.length - k:=by omega
  rw [e]
  exact ih
theorem bQ6 (fu : Nat) (w : List UInt8) (n : D.l9) (q : D.aa4) (hw : w.length ≤ 12) : ∀ k,k ≤ w.length → Loop (ai6 (fu + 1) (y5 (fu + 1)) n (w.map oneN) ((w.map oneN).length : Int)) (((w.length - k : Nat) : Int),q) = some (.brk q)
 | 0,_=>by
  rw [ag2]
  simp only [ai6]
  rw [if_neg (by simp)]
 | k + 1,hk=>by
  have ih:=bQ6 fu w n q hw k (by omega)
  rw [ag2]
  simp only [ai6]
  have hlt : w.length - (k + 1) < w.length:=by omega
  rw [if_pos (by simp; omega)]
  have hx : G.idx (w.map oneN) ((w.length - (k + 1) : Nat) : Int) = some (oneN (w[w.length - (k + 1)])):=by
   rw [G.aM1,List.getElem?_map,List.getElem?_eq_getElem hlt]
   rfl
  rw [hx]
  simp only [Option.bind_some]
  rw [b82]
  simp only [Option.bind_some]
  rw [if_neg (by simp),G.ar6 (by omega)]
  have e : w.length - (k + 1) + 1 = w.length - k:=by omega
  rw [e]
  exact ih
theorem right_eq (fu : Nat) (w : List UInt8) (hw : w.length ≤ 12) : al8 (fu + 2) (ap8 w) = some true:=by
 unfold al8
 have go : y5 (fu + 2) look0 (ap8 w) = some (look0,true):=by
  match w,hw with
  | [],_ =>
   show ad2 (fu + 1) (y5 (fu + 1)) look0 (ap8 []) = _
   unfold ad2
   rw [show o7 look0 (ap8 []) = some (look0,true) from rfl]
   simp only [Option.bind_some]
   rw [show ab7 (ap8 []) = some [] from rfl]
   simp only [Option.bind_some]
   rw [ag2]
   rfl
  | [b],_=>exact b82 (fu + 1) b look0
  | a :: b :: r,hw =>
   show ad2 (fu + 1) (y5 (fu + 1)) look0 (ap8 (a :: b :: r)) = _
   unfold ad2
   have hix : o8 ((a :: b :: r).map oneN) = some false:=by
    unfold o8 o9
    have h:=bP1 (a :: b :: r) hw (a :: b :: r).length (Nat.le_refl _)
    rw [Nat.sub_self] at h
    rw [show (0 : Int) = ((0 : Nat) : Int) from rfl,h]
    rfl
   have hsh : o7 look0 (ap8 (a :: b :: r)) = some (look0,true):=by
    unfold o7
    rw [if_pos (show ((D.l9.ax6 (ap8 (a :: b :: r))).isSome = true) from rfl)]
    have e1 : ((D.l9.ax6 (ap8 (a :: b :: r))).getD (D.ao8.mk [])).Parts = (a :: b :: r).map oneN:=rfl
    have hg : decide ((((a :: b :: r).map oneN).length : Int) > 1) = true:=by
     simp
     omega
    rw [e1,hg,hix]
    rfl
   rw [hsh]
   simp only [Option.bind_some]
   rw [if_neg (by simp),show ab7 (ap8 (a :: b :: r)) = some ((a :: b :: r).map oneN) from rfl]
   simp only [Option.bind_some]
   have h:=bQ6 fu (a :: b :: r) (ap8 (a :: b :: r)) look0 hw (a :: b :: r).length (Nat.le_refl _)
   rw [Nat.sub_self] at h
   rw [show ((0 : Int),look0) = (((0 : Nat) : Int),look0) from rfl,h]
   rfl
 rw [show D.aa4.mk 0 [] = look0 from rfl,go]
 rfl
theorem bO3 (fu : Nat) (b : UInt8) : ac9 (fu + 1) (oneN b) = some 0:=by
 show ah4 fu (ac9 fu) (oneN b) = _
 unfold ah4
 rw [if_neg (by simp [oneN,D.l9.am5]),show ab7 (oneN b) = some [] from rfl]
 simp only [Option.bind_some]
 rw [ag2]
 rfl
theorem bG6 (fu : Nat) (w : List UInt8) (hw : w.length ≤ 12) : ∀ k,k ≤ w.length → Loop (ar2 (fu + 1) (ac9 (fu + 1)) (w.map oneN) ((w.map oneN).length : Int)) (0,((w.length - k : Nat) : Int)) = some (.brk 0)
 | 0,_=>by
  rw [ag2]
  simp only [ar2]
  rw [if_neg (by simp)]
 | k + 1,hk=>by
  have ih:=bG6 fu w hw k (by omega)
  rw [ag2]
  simp only [ar2]
  have hlt : w.length - (k + 1) < w.length:=by omega
  rw [if_pos (by simp; omega)]
  have hx : G.idx (w.map oneN) ((w.length - (k + 1) : Nat) : Int) = some (oneN (w[w.length - (k + 1)])):=by
   rw [G.aM1,List.getElem?_map,List.getElem?_eq_getElem hlt]
   rfl
  rw [hx]
  simp only [Option.bind_some]
  rw [bO3]
  simp only [Option.bind_some]
  rw [G.ar6 (by omega)]
  have e : w.length - (k + 1) + 1 = w.length - k:=by omega
  rw [e]
  exact ih
theorem cK4 (fu : Nat) (w : List UInt8) (hw : w.length ≤ 12) : ac9 (fu + 2) (ap8 w) = some 0:=by
 match w,hw with
 | [],_ =>
  show ah4 (fu + 1) (ac9 (fu + 1)) (ap8 []) = _
  unfold ah4
  rw [if_neg (by simp [ap8,D.l9.am5]),show ab7 (ap8 []) = some [] from rfl]
  simp only [Option.bind_some]
  rw [ag2]
  rfl
 | [b],_=>exact bO3 (fu + 1) b
 | a :: b :: r,hw =>
  show ah4 (fu + 1) (ac9 (fu + 1)) (ap8 (a :: b :: r)) = _
  unfold ah4
  rw [if_neg (by simp [ap8,D.l9.am5]),show ab7 (ap8 (a :: b :: r)) = some ((a :: b :: r).map oneN) from rfl]
  simp only [Option.bind_some]
  have h:=bG6 fu (a :: b :: r) hw (a :: b :: r).length (Nat.le_refl _)
  rw [Nat.sub_self] at h
  rw [show ((0 : Int),(0 : Int)) = (0,((0 : Nat) : Int)) from rfl,h]
  rfl
def bp1 (x : Int) : D.ac0:=D.ac0.mk 3 (A4.mk 0 0 0 0) x 0
def aI3 (b : UInt8) : D.ac0:=D.ac0.mk 0 (sb b.toNat) 0 0
def cn1 : D.ac0:=D.ac0.mk 9 (A4.mk 0 0 0 0) 0 0
def bld (l : List D.ac0) : D.aa2:=D.aa2.mk (D.ac3.mk l 0 0 false) false
theorem put_eq (l : List D.ac0) (x : D.ac0) (h : l.length ≤ 100) : ∃ k,aa6 (bld l) x = some (bld (l ++ [x]),k):=by
 unfold aa6
 rw [if_neg (by simp [bld]; omega),G.b90 (by simp [bld]; omega)]
 exact ⟨_,rfl⟩
theorem co5 (fu : Nat) (b : UInt8) (l : List D.ac0) (h : l.length ≤ 100) : o6 (fu + 1) (bld l) (oneN b) = some (bld (l ++ [aI3 b])):=by
 show ae3 fu (o6 fu) (bld l) (oneN b) = _
 unfold ae3
 rw [if_neg (by simp [bld]),if_pos (show (D.l9.aD7 (oneN b)).isSome = true from rfl)]
 obtain ⟨k,hk⟩:=put_eq l (aI3 b) h
 rw [show D.ac0.mk 0 (A4.mk (((D.l9.aD7 (oneN b)).getD (D.ao6.mk (A4.mk 0 0 0 0))).Set).x0 (((D.l9.aD7 (oneN b)).getD (D.ao6.mk (A4.mk 0 0 0 0))).Set).x1 (((D.l9.aD7 (oneN b)).getD (D.ao6.mk (A4.mk 0 0 0 0))).Set).x2 (((D.l9.aD7 (oneN b)).getD (D.ao6.mk (A4.mk 0 0 0 0))).Set).x3) 0 0 = aI3 b from rfl,hk]
 rfl
theorem ca7 (fu : Nat) (w : List UInt8) (hw : w.length ≤ 12) (l : List D.ac0) (hl : l.length ≤ 20) : ∀ k,k ≤ w.length → Loop (ai7 (fu + 1) (o6 (fu + 1)) (w.map oneN) ((w.map oneN).length : Int)) (((w.length - k : Nat) : Int),bld (l ++ (w.take (w.length - k)).map aI3)) = some (.brk (bld (l ++ w.map aI3)))
 | 0,_=>by
  rw [ag2]
  simp only [ai7]
  rw [if_neg (by simp),Nat.sub_zero,List.take_length]
 | k + 1,hk=>by
  have ih:=ca7 fu w hw l hl k (by omega)
  rw [ag2]
  simp only [ai7]
  have hlt : w.length - (k + 1) < w.length:=by omega
  rw [if_pos (by simp; omega)]
  have hx : G.idx (w.map oneN) ((w.length - (k + 1) : Nat) : Int) = some (oneN (w[w.length - (k + 1)])):=by
   rw [G.aM1,List.getElem?_map,List.getElem?_eq_getElem hlt]
   rfl
  rw [hx]
  simp only [Option.bind_some]
  rw [co5 fu _ _ (by simp; omega)]
  simp only [Option.bind_some]
  rw [G.ar6 (by omega)]
  have e : w.length - (k + 1) + 1 = w.length - k:=by omega
  rw [e]
  have e2 : l ++ List.map aI3 (List.take (w.length - (k + 1)) w) ++ [aI3 (w[w.length - (k + 1)])] = l ++ List.map aI3 (List.take (w.length - k) w):=by
   rw [← e,bo1 w _ hlt,List.map_append,List.append_assoc]
   rfl
  rw [e2]
  exact ih
theorem node_eq (fu : Nat) (w : List UInt8) (hw : w.length ≤ 12) (l : List D.ac0) (hl : l.length ≤ 20) : o6 (fu + 2) (bld l) (ap8 w) = some (bld (l ++ w.map aI3)):=by
 match w,hw with
 | [],_ =>
  show ae3 (fu + 1) (o6 (fu + 1)) (bld l) .Empty = some (bld (l ++ []))
  rw [List.append_nil]
  rfl
 | [b],_=>exact co5 (fu + 1) b l (by omega)
 | a :: b :: r,hw =>
  have h:=ca7 fu (a :: b :: r) hw l hl (a :: b :: r).length (Nat.le_refl _)
  rw [Nat.sub_self,List.take_zero,List.map_nil,List.append_nil] at h
  show ae3 (fu + 1) (o6 (fu + 1)) (bld l) (.Cat ((a :: b :: r).map oneN)) = _
  unfold ae3
  rw [if_neg (by simp [bld]),if_neg (by simp [D.l9.aD7]),if_neg (by simp [D.l9.aL5]),if_neg (by simp [D.l9.bB7]),if_neg (by simp [D.l9.aL3]),if_pos (show (D.l9.ax6 (.Cat ((a :: b :: r).map oneN))).isSome = true from rfl)]
  have e1 : ((D.l9.ax6 (.Cat ((a :: b :: r).map oneN))).getD (D.ao8.mk [])).Parts = (a :: b :: r).map oneN:=rfl
  rw [e1,show ((0 : Int),bld l) = (((0 : Nat) : Int),bld l) from rfl,h]
  rfl
def by1 (w : List UInt8) : List D.ac0:=[bp1 0] ++ w.map aI3 ++ [bp1 1] ++ [cn1]
def prog (w : List UInt8) : D.ac3:=D.ac3.mk (by1 w) 0 0 false
theorem cw0 (fu : Nat) (w : List UInt8) (hw : w.length ≤ 12) : ag8 (fu + 2) (ap8 w) = some (prog w,0):=by
 unfold ag8
 rw [right_eq fu w hw]
 simp only [Option.bind_some]
 rw [if_neg (by simp),cK4 fu w hw]
 simp only [Option.bind_some]
 obtain ⟨k1,h1⟩:=put_eq [] (bp1 0) (by simp)
 rw [show aa6 (D.aa2.mk (D.ac3.mk [] 0 0 false) false) (D.ac0.mk 3 (A4.mk 0 0 0 0) 0 0) = some (bld ([] ++ [bp1 0]),k1) from h1]
 simp only [Option.bind_some]
 rw [node_eq fu w hw ([] ++ [bp1 0]) (by simp)]
 simp only [Option.bind_some]
 obtain ⟨k2,h2⟩:=put_eq ([] ++ [bp1 0] ++ w.map aI3) (bp1 1) (by simp; omega)
 rw [show D.ac0.mk 3 (A4.mk 0 0 0 0) 1 0 = bp1 1 from rfl,h2]
 simp only [Option.bind_some]
 obtain ⟨k3,h3⟩:=put_eq ([] ++ [bp1 0] ++ w.map aI3 ++ [bp1 1]) cn1 (by simp; omega)
 rw [show D.ac0.mk 9 (A4.mk 0 0 0 0) 0 0 = cn1 from rfl,h3]
 simp only [Option.bind_some]
 rw [if_neg (by simp [bld])]
 rfl
theorem made_eq (fu : Nat) (w : List UInt8) (hw : w.length ≤ 12) : ae2 (fu + 2) (joined w) = some (some (D.ah5.mk (prog w)),true):=by
 unfold ae2
 rw [real_eq fu w hw]
 simp only [Option.bind_some]
 rw [cw0 fu w hw]
 simp only [Option.bind_some]
 rw [if_neg (by simp [prog,by1]; omega)]
 unfold ao9 ac6 ac5 G.clone
 rw [G.b90 (by simp [prog,by1]; omega)]
 rfl
open Go.RowKit
def mach (w s : List UInt8) (sl best : List Int) : D.y7:=D.y7.mk (prog w) s sl [] [] best
theorem cF8 (w : List UInt8) (i : Nat) (h : i < w.length) : G.idx (by1 w) ((i + 1 : Nat) : Int) = some (aI3 w[i]):=by
 rw [G.aM1]
 unfold by1
 rw [List.append_assoc,List.append_assoc,List.getElem?_append_right (by simp),List.getElem?_append_left (by simp; omega),List.getElem?_map]
 simp [List.getElem?_eq_getElem h]
theorem cE9 (w : List UInt8) : G.idx (by1 w) ((w.length + 1 : Nat) : Int) = some (bp1 1):=by
 rw [G.aM1]
 unfold by1
 rw [List.append_assoc,List.getElem?_append_right (by simp)]
 simp
theorem cw9 (w : List UInt8) : G.idx (by1 w) ((w.length + 2 : Nat) : Int) = some cn1:=by
 rw [G.aM1]
 unfold by1
 rw [List.getElem?_append_right (by simp)]
 simp
theorem found_eq (w s : List UInt8) (a b c : Int) : ab6 (mach w s [a,b] []) c = some (mach w s [a,b] [a,b]):=by
 unfold ab6 mach
 rfl
theorem move_eq (w s : List UInt8) (sl : List Int) (b : UInt8) (at' : Nat) (hs : s.length ≤ 60) (hat : at' ≤ s.length) : ab9 (mach w s sl []) (aI3 b) (at' : Int) = some (((at' + 1 : Nat) : Int),if h : at' < s.length then decide (s[at'] = b) else false):=by
 unfold ab9
 rw [if_pos (show (aI3 b).Op = 0 from rfl)]
 have e1 : (mach w s sl []).s = s:=rfl
 have e2 : (aI3 b).Set = sb b.toNat:=rfl
 rw [e1,e2]
 by_cases h : at' < s.length
 ·rw [decide_eq_true (show (at' : Int) < (s.length : Int) by omega),G.cd3,dif_pos h]
  have hx : G.idxS s (at' : Int) = some ((s[at'].toNat : Nat) : Int):=by
   unfold G.idxS
   rw [if_pos (by omega),Int.toNat_natCast,List.getElem?_eq_getElem h]
   rfl
  rw [hx]
  simp only [Option.bind_some]
  rw [G.cd3,has_sb _ _ b.toNat_lt s[at'].toNat_lt]
  simp only [Option.bind_some,Bool.true_and]
  rw [G.ar6 (by omega)]
  congr 2
  by_cases e : s[at'] = b
  ·rw [e]; simp
  ·have : ¬ b.toNat = s[at'].toNat:=fun e'=>e (UInt8.toNat_inj.1 e'.symm)
   simp [e,this]
 ·rw [decide_eq_false (show ¬ (at' : Int) < (s.length : Int) by omega),G.bQ1]
  simp only [Option.bind_some]
  rw [G.bQ1,dif_neg h]
  simp only [Option.bind_some,Bool.false_and]
  rw [G.ar6 (by omega)]
theorem cq6 (fu : Nat) (rec : D.y7 → Int → Int → Option D.y7) (w s : List UInt8) (at' : Nat) (hw : w.length ≤ 12) (hs : s.length ≤ 60) : ∀ k i,i + k = w.length → at' + i ≤ s.length →
  Loop (ad3 fu rec [-1,-1] []) (((i + 1 : Nat) : Int),((at' + i : Nat) : Int),mach w s [(at' : Int),-1] []) = some (.ret (mach w s [-1,-1] (if (w.drop i).isPrefixOf (s.drop (at' + i)) then [(at' : Int),((at' + w.length : Nat) : Int)] else [])))
 | 0,i,hi,hat=>by
  obtain rfl : i = w.length:=by omega
  rw [ag2]
  have h1 : ad3 fu rec [-1,-1] [] (((w.length + 1 : Nat) : Int),((at' + w.length : Nat) : Int),mach w s [(at' : Int),-1] []) = some (.nxt (((w.length + 2 : Nat) : Int),((at' + w.length : Nat) : Int),mach w s [(at' : Int),((at' + w.length : Nat) : Int)] [])):=by
   unfold ad3
   simp only
   rw [show (mach w s [(at' : Int),-1] []).Program.Insts = by1 w from rfl,cE9]
   simp only [Option.bind_some]
   rw [if_neg (by decide),if_neg (by decide),if_neg (by decide),if_pos (by decide)]
   rw [show (mach w s [(at' : Int),-1] []).slots = [(at' : Int),-1] from rfl,show G.aN5 [(at' : Int),-1] = some [(at' : Int),-1] from by unfold G.aN5; rw [if_pos ⟨by simp,by simp⟩]]
   simp only [Option.bind_some]
   rw [show G.idx [(at' : Int),-1] (bp1 1).X = some (-1) from rfl]
   simp only [Option.bind_some]
   rw [G.ar6 (by omega)]
   rfl
  rw [h1]
  simp only
  rw [ag2]
  have h2 : ad3 fu rec [-1,-1] [] (((w.length + 2 : Nat) : Int),((at' + w.length : Nat) : Int),mach w s [(at' : Int),((at' + w.length : Nat) : Int)] []) = some (.ret (mach w s [-1,-1] [(at' : Int),((at' + w.length : Nat) : Int)])):=by
   unfold ad3
   simp only
   rw [show (mach w s [(at' : Int),((at' + w.length : Nat) : Int)] []).Program.Insts = by1 w from rfl,cw9]
   simp only [Option.bind_some]
   rw [if_pos (by decide),found_eq]
   rfl
  rw [h2]
  simp only
  rw [List.drop_length,List.isPrefixOf_nil_left,if_pos rfl]
 | k + 1,i,hi,hat=>by
  have hlt : i < w.length:=by omega
  rw [ag2]
  have hstep : ad3 fu rec [-1,-1] [] (((i + 1 : Nat) : Int),((at' + i : Nat) : Int),mach w s [(at' : Int),-1] []) = if (if h : at' + i < s.length then decide (s[at' + i] = w[i]) else false) = true then some (.nxt (((i + 1 + 1 : Nat) : Int),((at' + i + 1 : Nat) : Int),mach w s [(at' : Int),-1] [])) else some (.ret (mach w s [-1,-1] [])):=by
   unfold ad3
   simp only
   rw [show (mach w s [(at' : Int),-1] []).Program.Insts = by1 w from rfl,cF8 w i hlt]
   simp only [Option.bind_some]
   rw [if_neg (by simp [aI3]),if_neg (by simp [aI3]),if_neg (by simp [aI3]),if_neg (by simp [aI3]),if_neg (by simp [aI3]),move_eq w s _ _ _ hs hat]
   simp only [Option.bind_some]
   generalize (if h : at' + i < s.length then decide (s[at' + i] = w[i]) else false) = b
   cases b with
   | false=>rfl
   | true =>
    rw [if_neg (by simp),if_pos (by omega),G.ar6 (by omega)]
    rfl
  rw [hstep]
  have hdw : w.drop i = w[i] :: w.drop (i + 1):=List.drop_eq_getElem_cons hlt
  by_cases hin : at' + i < s.length
  ·have hds : s.drop (at' + i) = s[at' + i] :: s.drop (at' + i + 1):=List.drop_eq_getElem_cons hin
   rw [dif_pos hin,hdw,hds,List.isPrefixOf_cons_cons]
   by_cases e : s[at' + i] = w[i]
   ·rw [decide_eq_true e,if_pos rfl]
    simp only
    have ih:=cq6 fu rec w s at' hw hs k (i + 1) (by omega) (by omega)
    rw [show at' + i + 1 = at' + (i + 1) by omega,ih,show (w[i] == s[at' + i]) = true by simp [e],Bool.true_and]
   ·rw [decide_eq_false e,if_neg (by simp)]
    simp only
    have e' : (w[i] == s[at' + i]) = false:=by simpa using fun h=>e h.symm
    rw [e',Bool.false_and]
    rfl
  ·rw [dif_neg hin,if_neg (by simp),hdw,List.drop_eq_nil_of_le (by omega : s.length ≤ at' + i)]
   rfl
theorem run_eq (fu : Nat) (w s : List UInt8) (at' : Nat) (hw : w.length ≤ 12) (hs : s.length ≤ 60) (hat : at' ≤ s.length) : o5 (fu + 1) (mach w s [-1,-1] []) 0 (at' : Int) = some (mach w s [-1,-1] (if w.isPrefixOf (s.drop at') then [(at' : Int),((at' + w.length : Nat) : Int)] else [])):=by
 show aj3 fu (o5 fu) (mach w s [-1,-1] []) 0 (at' : Int) = _
 unfold aj3
 rw [show G.idx (mach w s [-1,-1] []).Program.Insts 0 = some (bp1 0) from rfl]
 simp only [Option.bind_some]
 rw [if_neg (by decide),if_neg (by decide),if_neg (by decide),if_pos (by decide)]
 rw [show (mach w s [-1,-1] []).slots = [-1,-1] from rfl,show G.aN5 [(-1 : Int),-1] = some [-1,-1] from by unfold G.aN5; rw [if_pos ⟨by simp,by simp⟩]]
 simp only [Option.bind_some]
 rw [show G.idx [(-1 : Int),-1] (bp1 0).X = some (-1) from rfl]
 simp only [Option.bind_some]
 have h:=cq6 fu (o5 fu) w s at' hw hs w.length 0 (by omega) (by omega)
 exact congrArg (fun x=>Option.bind x fun o=>match o with
  | .brk _=>none
  | .ret r=>some r) h
def aK5 (w s : List UInt8) : Nat → Nat → Option Nat
 | 0,_=>none
 | k + 1,at'=>if w.isPrefixOf (s.drop at') then some at' else aK5 w s k (at' + 1)
def found (w : List UInt8) : Option Nat → List Int × Bool
 | some j=>([(j : Int),((j + w.length : Nat) : Int)],true)
 | none=>([],false)
theorem b71 (fu : Nat) (w s : List UInt8) (a : Nat) (hw : w.length ≤ 12) (hs : s.length ≤ 60) : ∀ k at',at' + k = s.length + 1 → (Loop (ah7 (fu + 1) (some (D.ah5.mk (prog w))) s (a : Int)) (at' : Int)).bind (fun o=>match o with
  | .brk _=>some ([],false)
  | .ret r=>some r) = some (found w (aK5 w s k at'))
 | 0,at',h=>by
  rw [ag2]
  simp only [ah7]
  rw [if_neg (by simp; omega)]
  rfl
 | k + 1,at',h=>by
  rw [ag2]
  simp only [ah7]
  rw [if_pos (by simp; omega)]
  simp only [Option.bind_some]
  have hr : ae0 [-1] (G.addI (G.mulI 2 (D.ah5.mk (prog w)).p.Groups) 2) = some [-1,-1]:=by
   unfold ae0
   rw [if_pos ⟨rfl,show G.addI (G.mulI 2 0) 2 = 2 by decide⟩]
  rw [hr]
  simp only [Option.bind_some]
  have hrun:=run_eq fu w s at' hw hs (by omega)
  rw [show D.y7.mk (D.ah5.mk (prog w)).p s [-1,-1] [] [] [] = mach w s [-1,-1] [] from rfl,hrun]
  simp only [Option.bind_some]
  unfold aK5
  by_cases e : w.isPrefixOf (s.drop at') = true
  ·rw [if_pos e,if_pos e]
   rfl
  ·rw [if_neg e,if_neg e]
   rw [if_neg (by simp [mach]),G.ar6 (by omega)]
   exact b71 fu w s a hw hs k (at' + 1) (by omega)
theorem find_eq (fu : Nat) (w s : List UInt8) (a : Nat) (hw : w.length ≤ 12) (hs : s.length ≤ 60) : ac7 (fu + 1) (some (D.ah5.mk (prog w))) s (a : Int) = some (found w (aK5 w s (s.length + 1 - a) a)):=by
 unfold ac7
 rw [show (if (0 : Int) > (a : Int) then 0 else (a : Int)) = (a : Int) from if_neg (by omega)]
 by_cases h : a ≤ s.length + 1
 ·exact b71 fu w s a hw hs (s.length + 1 - a) a (by omega)
 ·rw [ag2]
  simp only [ah7]
  rw [if_neg (by simp; omega),show s.length + 1 - a = 0 by omega]
  rfl
theorem slots_eq (a b : Int) : ag5 [a,b] [a,b] = some true:=by
 unfold ag5
 rw [if_neg (by simp),ag2]
 have h0 : ak9 [a,b] [a,b] (([a,b] : List Int).length : Int) 0 = some (.nxt 1):=by
  unfold ak9
  rw [if_pos (by simp),show G.idx [a,b] 0 = some a from rfl]
  simp only [Option.bind_some]
  rw [if_neg (by simp)]
  rfl
 rw [h0]
 simp only
 rw [ag2]
 have h1 : ak9 [a,b] [a,b] (([a,b] : List Int).length : Int) 1 = some (.nxt 2):=by
  unfold ak9
  rw [if_pos (by simp),show G.idx [a,b] 1 = some b from rfl]
  simp only [Option.bind_some]
  rw [if_neg (by simp)]
  rfl
 rw [h1]
 simp only
 rw [ag2]
 have h2 : ak9 [a,b] [a,b] (([a,b] : List Int).length : Int) 2 = some (.brk ()):=by
  unfold ak9
  rw [if_neg (by simp)]
 rw [h2]
 rfl
theorem bF4 (w s : List UInt8) (at' : Nat) (h : at' + w.length ≤ s.length) : w.isPrefixOf (s.drop at') = true ↔ ((s.take (at' + w.length)).drop at') = w:=by
 rw [List.isPrefixOf_iff_prefix,List.prefix_iff_eq_take,List.drop_take,show at' + w.length - at' = w.length by omega]
 exact ⟨fun h=>h.symm,fun h=>h.symm⟩
theorem cu3 (w s : List UInt8) (at' : Nat) (h : w.isPrefixOf (s.drop at') = true) (hat : at' ≤ s.length) : at' + w.length ≤ s.length:=by
 have:=(List.isPrefixOf_iff_prefix.1 h).length_le
 rw [List.length_drop] at this
 omega
theorem bx5 (w s : List UInt8) : ∀ k at',at' + k = s.length + 1 → s.length < at' + w.length → aK5 w s k at' = none
 | 0,_,_,_=>rfl
 | k + 1,at',h,hl=>by
  unfold aK5
  rw [if_neg (fun e=>by have:=cu3 w s at' e (by omega); omega)]
  exact bx5 w s k (at' + 1) (by omega) (by omega)
theorem law_loop (fu : Nat) (w s : List UInt8) (R : Option Nat) (hw : w.length ≤ 12) (hs : s.length ≤ 60) : ∀ k at',at' + k = s.length + 1 → R = aK5 w s k at' →
  (Loop (af9 fu w s (found w R).1 (found w R).2) (at' : Int)).bind (fun o=>match o with
   | .brk _=>some ((!(found w R).2) && (decide (((found w R).1.length : Int) = 0)))
   | .ret r=>some r) = some true:=by
 intro k
 have stop : ∀ k at' : Nat,at' + k = s.length + 1 → R = aK5 w s k at' → s.length < at' + w.length → (Loop (af9 fu w s (found w R).1 (found w R).2) (at' : Int)).bind (fun o=>match o with
   | .brk _=>some ((!(found w R).2) && (decide (((found w R).1.length : Int) = 0)))
   | .ret r=>some r) = some true:=fun k at' h hR hl=>by
  rw [ag2]
  simp only [af9]
  rw [G.ci1 (by omega) (by omega),if_neg (by omega),hR,bx5 w s k at' h hl]
  rfl
 induction k with
 | zero=>intro at' h hR; exact stop 0 at' h hR (by omega)
 | succ k ih =>
  intro at' h hR
  by_cases hl : s.length < at' + w.length
  ·exact stop (k + 1) at' h hR hl
  ·rw [ag2]
   simp only [af9]
   rw [G.ci1 (by omega) (by omega),if_pos (by omega)]
   have hadd : G.addI (at' : Int) (w.length : Int) = ((at' + w.length : Nat) : Int):=by
    rw [G.cH0 (by omega) (by omega)]
    omega
   have hsub : G.subS s (at' : Int) ((at' + w.length : Nat) : Int) = some ((s.take (at' + w.length)).drop at'):=by
    unfold G.subS
    rw [if_pos (by omega),Int.toNat_natCast,Int.toNat_natCast]
   rw [hadd,hsub]
   simp only [Option.bind_some]
   unfold aK5 at hR
   by_cases e : w.isPrefixOf (s.drop at') = true
   ·rw [if_pos e] at hR
    rw [if_pos ((bF4 w s at' (by omega)).1 e),hR]
    rw [if_pos (show (found w (some at')).2 = true from rfl),show (found w (some at')).1 = [(at' : Int),((at' + w.length : Nat) : Int)] from rfl,slots_eq]
    rfl
   ·rw [if_neg e] at hR
    rw [if_neg (fun h'=>e ((bF4 w s at' (by omega)).2 h')),G.ar6 (by omega)]
    exact ih (at' + 1) (by omega) hR
theorem bU0 (w s : List UInt8) (a : Nat) (ha : a < 256) : ac8 100 w s (a : Int) = some true:=by
 unfold ac8
 rw [show ai3 = some true from rfl]
 simp only [Option.bind_some]
 by_cases hc : w.length ≤ 12 ∧ s.length ≤ 60
 ·obtain ⟨hw,hs⟩:=hc
  rw [if_neg (by simp; omega)]
  have h:=bP4 100 w s (a : Int) hw w.length (Nat.le_refl _)
  rw [Nat.sub_self,List.take_zero] at h
  rw [show ((0 : Int),([] : List D.aa5)) = (((0 : Nat) : Int),[].map oneT) from rfl,h]
  simp only [Option.bind_some]
  rw [join_eq w hw]
  simp only [Option.bind_some]
  rw [show (100 : Nat) = 98 + 2 from rfl,made_eq 98 w hw]
  simp only [Option.bind_some]
  rw [if_neg (by simp),wrap64 (by omega) (by omega),show (98 + 2 : Nat) = 99 + 1 from rfl,find_eq 99 w s a hw hs]
  simp only [Option.bind_some]
  by_cases h : a ≤ s.length + 1
  ·exact law_loop (99 + 1) w s _ hw hs (s.length + 1 - a) a (by omega) rfl
  ·rw [show s.length + 1 - a = 0 by omega]
   rw [ag2]
   simp only [af9]
   rw [G.ci1 (by omega) (by omega),if_neg (by omega)]
   rfl
 ·rw [if_pos (by simp; omega)]
open Go.RowKit
instance : CodT 3 (aD9 .i64):=⟨⟩
instance : CodT 74 ap7:=⟨⟩
instance : CodT 52 ad8:=⟨⟩
instance : CodT 28 ad4:=⟨⟩
instance (x : D.l9) : TaC 81 (az6 (D.ao8.mk [])) (y8 x) (az6 ((D.l9.ax6 x).getD (D.ao8.mk []))) (D.l9.ax6 x).isSome:=⟨bs3 x⟩
instance ti_81 {P : Program} [hc : ab5 P] : TaI P 81 [.lit (.slice none 0 0)] (az6 (D.ao8.mk [])):=⟨hc.ta_81,cw1⟩
instance (x : D.l9) : TaC 82 (az4 (D.at6.mk [])) (y8 x) (az4 ((D.l9.aH3 x).getD (D.at6.mk []))) (D.l9.aH3 x).isSome:=⟨bt7 x⟩
instance ti_82 {P : Program} [hc : ab5 P] : TaI P 82 [.lit (.slice none 0 0)] (az4 (D.at6.mk [])):=⟨hc.ta_82,cx4⟩
instance (x : D.l9) : TaC 84 (aA0 (D.aB0.mk D.l9.nil 0 0)) (y8 x) (aA0 ((D.l9.bn9 x).getD (D.aB0.mk D.l9.nil 0 0))) (D.l9.bn9 x).isSome:=⟨bu4 x⟩
instance ti_84 {P : Program} [hc : ab5 P] : TaI P 84 [.lit .nilIface,.lit (.int .i64 0),.lit (.int .i64 0)] (aA0 (D.aB0.mk D.l9.nil 0 0)):=⟨hc.ta_84,ct2⟩
instance (x : D.l9) : TaC 86 (as9 (D.ak6.mk 0 D.l9.nil)) (y8 x) (as9 ((D.l9.am5 x).getD (D.ak6.mk 0 D.l9.nil))) (D.l9.am5 x).isSome:=⟨bm9 x⟩
instance ti_86 {P : Program} [hc : ab5 P] : TaI P 86 [.lit (.int .i64 0),.lit .nilIface] (as9 (D.ak6.mk 0 D.l9.nil)):=⟨hc.ta_86,b49⟩
instance (x : D.l9) : TaC 92 (as5 (D.au2.mk )) (y8 x) (as5 ((D.l9.a96 x).getD (D.au2.mk ))) (D.l9.a96 x).isSome:=⟨bl6 x⟩
instance ti_92 {P : Program} [hc : ab5 P] : TaI P 92 [] (as5 (D.au2.mk )):=⟨hc.ta_92,b93⟩
instance (x : D.l9) : TaC 88 (aw3 (D.av9.mk 0)) (y8 x) (aw3 ((D.l9.aL3 x).getD (D.av9.mk 0))) (D.l9.aL3 x).isSome:=⟨bo7 x⟩
instance ti_88 {P : Program} [hc : ab5 P] : TaI P 88 [.lit (.int .i64 0)] (aw3 (D.av9.mk 0)):=⟨hc.ta_88,cj1⟩
instance (x : D.l9) : TaC 79 (aA2 (D.ao6.mk (A4.mk 0 0 0 0))) (y8 x) (aA2 ((D.l9.aD7 x).getD (D.ao6.mk (A4.mk 0 0 0 0)))) (D.l9.aD7 x).isSome:=⟨bs2 x⟩
instance ti_79 {P : Program} [hc : ab5 P] : TaI P 79 [.lit (.int .u64 0),.lit (.int .u64 0),.lit (.int .u64 0),.lit (.int .u64 0)] (aA2 (D.ao6.mk (A4.mk 0 0 0 0))):=⟨hc.ta_79,cv3⟩
instance (x : D.l9) : TaC 90 (ar7 (D.au4.mk )) (y8 x) (ar7 ((D.l9.aL5 x).getD (D.au4.mk ))) (D.l9.aL5 x).isSome:=⟨bl2 x⟩
instance ti_90 {P : Program} [hc : ab5 P] : TaI P 90 [] (ar7 (D.au4.mk )):=⟨hc.ta_90,b63⟩
instance (x : D.l9) : TaC 91 (aA4 (D.aE4.mk )) (y8 x) (aA4 ((D.l9.bB7 x).getD (D.aE4.mk ))) (D.l9.bB7 x).isSome:=⟨bu1 x⟩
instance ti_91 {P : Program} [hc : ab5 P] : TaI P 91 [] (aA4 (D.aE4.mk )):=⟨hc.ta_91,cx8⟩
instance (l : List D.l9) : MiC 81 [.sl 1 (List.map ad8 l)] (y8 (.Cat l)):=⟨by simp only [y8,ae4]⟩
instance (l : List D.l9) : MiC 82 [.sl 1 (List.map ad8 l)] (y8 (.Alt l)):=⟨by simp only [y8,ae4]⟩
instance (x : D.aa5) : ExpM (ad4 x) [.int .i64 x.Kind,.int .u64 x.Set.x0,.int .u64 x.Set.x1,.int .u64 x.Set.x2,.int .u64 x.Set.x3,.sl 9 (List.map ad4 x.Parts),.int .i64 x.Min,.int .i64 x.Max,.int .i64 x.Number]:=⟨al1 x⟩
instance {W : List Loc} {S : AS} {t r : Bool} : Rk ⟨F.ab7,W,S,t,r⟩ 8 1000:=⟨⟩
instance {W : List Loc} {S : AS} {t r : Bool} : Rk ⟨F.ab7,W,S,t,r⟩ 3 2000:=⟨⟩
instance {W : List Loc} {S : AS} {t r : Bool} : Rk ⟨F.ab7,W,S,t,r⟩ 10 3000:=⟨⟩
instance {W : List Loc} {S : AS} {t r : Bool} : Rk ⟨F.ab7,W,S,t,r⟩ 12 4000:=⟨⟩
instance {W : List Loc} {S : AS} {t r : Bool} : Rk ⟨F.ab7,W,S,t,r⟩ 13 5000:=⟨⟩
instance {W : List Loc} {S : AS} {t r : Bool} : Rk ⟨F.ab7,W,S,t,r⟩ 4 6000:=⟨⟩
instance {W : List Loc} {S : AS} {t r : Bool} : Rk ⟨F.ab7,W,S,t,r⟩ 15 7000:=⟨⟩
instance {W : List Loc} {S : AS} {t r : Bool} : Rk ⟨F.ab7,W,S,t,r⟩ 17 8000:=⟨⟩
instance {W : List Loc} {S : AS} {t r : Bool} : Rk ⟨F.ab7,W,S,t,r⟩ 18 9000:=⟨⟩
instance {W : List Loc} {S : AS} {t r : Bool} : Rk ⟨F.ab7,W,S,t,r⟩ 5 10000:=⟨⟩
instance {W : List Loc} {S : AS} {t r : Bool} : Rk ⟨F.ab7,W,S,t,r⟩ 20 11000:=⟨⟩
instance {W : List Loc} {S : AS} {t r : Bool} : Rk ⟨F.ab7,W,S,t,r⟩ 22 12000:=⟨⟩
instance {W : List Loc} {S : AS} {t r : Bool} : Rk ⟨F.ab7,W,S,t,r⟩ 23 13000:=⟨⟩
instance {W : List Loc} {S : AS} {t r : Bool} : Rk ⟨F.ab7,W,S,t,r⟩ 24 14000:=⟨⟩
instance {W : List Loc} {S : AS} {t r : Bool} : Rk ⟨F.ab7,W,S,t,r⟩ 6 15000:=⟨⟩
instance {W : List Loc} {S : AS} {t r : Bool} : Rk ⟨F.ab7,W,S,t,r⟩ 26 16000:=⟨⟩
instance {W : List Loc} {S : AS} {t r : Bool} : Rk ⟨F.ab7,W,S,t,r⟩ 28 17000:=⟨⟩
instance {W : List Loc} {S : AS} {t r : Bool} : Rk ⟨F.ab7,W,S,t,r⟩ 29 18000:=⟨⟩
instance {W : List Loc} {S : AS} {t r : Bool} : Rk ⟨F.o7,W,S,t,r⟩ 11 1000:=⟨⟩
instance {W : List Loc} {S : AS} {t r : Bool} : Rk ⟨F.o7,W,S,t,r⟩ 5 2000:=⟨⟩
instance {W : List Loc} {S : AS} {t r : Bool} : Rk ⟨F.o7,W,S,t,r⟩ 13 3000:=⟨⟩
instance {W : List Loc} {S : AS} {t r : Bool} : Rk ⟨F.o7,W,S,t,r⟩ 15 4000:=⟨⟩
instance {W : List Loc} {S : AS} {t r : Bool} : Rk ⟨F.o7,W,S,t,r⟩ 20 5000:=⟨⟩
instance {W : List Loc} {S : AS} {t r : Bool} : Rk ⟨F.o7,W,S,t,r⟩ 21 6000:=⟨⟩
instance {W : List Loc} {S : AS} {t r : Bool} : Rk ⟨F.o7,W,S,t,r⟩ 24 7000:=⟨⟩
instance {W : List Loc} {S : AS} {t r : Bool} : Rk ⟨F.o7,W,S,t,r⟩ 6 8000:=⟨⟩
instance {W : List Loc} {S : AS} {t r : Bool} : Rk ⟨F.o7,W,S,t,r⟩ 26 9000:=⟨⟩
instance {W : List Loc} {S : AS} {t r : Bool} : Rk ⟨F.o7,W,S,t,r⟩ 28 10000:=⟨⟩
instance {W : List Loc} {S : AS} {t r : Bool} : Rk ⟨F.o7,W,S,t,r⟩ 33 11000:=⟨⟩
instance {W : List Loc} {S : AS} {t r : Bool} : Rk ⟨F.o7,W,S,t,r⟩ 34 12000:=⟨⟩
instance {W : List Loc} {S : AS} {t r : Bool} : Rk ⟨F.o7,W,S,t,r⟩ 37 13000:=⟨⟩
instance {W : List Loc} {S : AS} {t r : Bool} : Rk ⟨F.o7,W,S,t,r⟩ 7 14000:=⟨⟩
instance {W : List Loc} {S : AS} {t r : Bool} : Rk ⟨F.o7,W,S,t,r⟩ 39 15000:=⟨⟩
instance {W : List Loc} {S : AS} {t r : Bool} : Rk ⟨F.o7,W,S,t,r⟩ 41 16000:=⟨⟩
instance {W : List Loc} {S : AS} {t r : Bool} : Rk ⟨F.o7,W,S,t,r⟩ 42 17000:=⟨⟩
instance {W : List Loc} {S : AS} {t r : Bool} : Rk ⟨F.o7,W,S,t,r⟩ 45 18000:=⟨⟩
instance {W : List Loc} {S : AS} {t r : Bool} : Rk ⟨F.o7,W,S,t,r⟩ 50 19000:=⟨⟩
instance {W : List Loc} {S : AS} {t r : Bool} : Rk ⟨F.o7,W,S,t,r⟩ 55 20000:=⟨⟩
instance {W : List Loc} {S : AS} {t r : Bool} : Rk ⟨F.o7,W,S,t,r⟩ 59 21000:=⟨⟩
instance {W : List Loc} {S : AS} {t r : Bool} : Rk ⟨F.o7,W,S,t,r⟩ 61 22000:=⟨⟩
instance {W : List Loc} {S : AS} {t r : Bool} : Rk ⟨F.o7,W,S,t,r⟩ 65 23000:=⟨⟩
instance {W : List Loc} {S : AS} {t r : Bool} : Rk ⟨F.o7,W,S,t,r⟩ 70 24000:=⟨⟩
instance {W : List Loc} {S : AS} {t r : Bool} : Rk ⟨F.o7,W,S,t,r⟩ 8 25000:=⟨⟩
instance {W : List Loc} {S : AS} {t r : Bool} : Rk ⟨F.o7,W,S,t,r⟩ 72 26000:=⟨⟩
instance {W : List Loc} {S : AS} {t r : Bool} : Rk ⟨F.o7,W,S,t,r⟩ 74 27000:=⟨⟩
instance {W : List Loc} {S : AS} {t r : Bool} : Rk ⟨F.o7,W,S,t,r⟩ 76 28000:=⟨⟩
instance {W : List Loc} {S : AS} {t r : Bool} : Rk ⟨F.o7,W,S,t,r⟩ 78 29000:=⟨⟩
instance {W : List Loc} {S : AS} {t r : Bool} : Rk ⟨F.o7,W,S,t,r⟩ 77 30000:=⟨⟩
instance {W : List Loc} {S : AS} {t r : Bool} : Rk ⟨F.o7,W,S,t,r⟩ 81 31000:=⟨⟩
instance {W : List Loc} {S : AS} {t r : Bool} : Rk ⟨F.o7,W,S,t,r⟩ 83 32000:=⟨⟩
instance {W : List Loc} {S : AS} {t r : Bool} : Rk ⟨F.o7,W,S,t,r⟩ 85 33000:=⟨⟩
instance {W : List Loc} {S : AS} {t r : Bool} : Rk ⟨F.o7,W,S,t,r⟩ 87 34000:=⟨⟩
instance {W : List Loc} {S : AS} {t r : Bool} : Rk ⟨F.o7,W,S,t,r⟩ 9 35000:=⟨⟩
instance {W : List Loc} {S : AS} {t r : Bool} : Rk ⟨F.o7,W,S,t,r⟩ 89 36000:=⟨⟩
instance {W : List Loc} {S : AS} {t r : Bool} : Rk ⟨F.o7,W,S,t,r⟩ 91 37000:=⟨⟩
instance {W : List Loc} {S : AS} {t r : Bool} : Rk ⟨F.o7,W,S,t,r⟩ 93 38000:=⟨⟩
instance {W : List Loc} {S : AS} {t r : Bool} : Rk ⟨F.o7,W,S,t,r⟩ 95 39000:=⟨⟩
instance {W : List Loc} {S : AS} {t r : Bool} : Rk ⟨F.o7,W,S,t,r⟩ 96 40000:=⟨⟩
instance {W : List Loc} {S : AS} {t r : Bool} : Rk ⟨F.y5,W,S,t,r⟩ 11 1000:=⟨⟩
instance {W : List Loc} {S : AS} {t r : Bool} : Rk ⟨F.y5,W,S,t,r⟩ 14 2000:=⟨⟩
instance {W : List Loc} {S : AS} {t r : Bool} : Rk ⟨F.y5,W,S,t,r⟩ 19 3000:=⟨⟩
instance {W : List Loc} {S : AS} {t r : Bool} : Rk ⟨F.y5,W,S,t,r⟩ 22 4000:=⟨⟩
instance {W : List Loc} {S : AS} {t r : Bool} : Rk ⟨F.y5,W,S,t,r⟩ 27 5000:=⟨⟩
instance {W : List Loc} {S : AS} {t r : Bool} : Rk ⟨F.y5,W,S,t,r⟩ 7 6000:=⟨⟩
instance {W : List Loc} {S : AS} {t r : Bool} : Rk ⟨F.y5,W,S,t,r⟩ 28 7000:=⟨⟩
instance {W : List Loc} {S : AS} {t r : Bool} : Rk ⟨F.y5,W,S,t,r⟩ 33 8000:=⟨⟩
instance {W : List Loc} {S : AS} {t r : Bool} : Rk ⟨F.y5,W,S,t,r⟩ 35 9000:=⟨⟩
instance {W : List Loc} {S : AS} {t r : Bool} : Rk ⟨F.y5,W,S,t,r⟩ 37 10000:=⟨⟩
instance {W : List Loc} {S : AS} {t r : Bool} : Rk ⟨F.y5,W,S,t,r⟩ 38 11000:=⟨⟩
instance {W : List Loc} {S : AS} {t r : Bool} : Rk ⟨F.y5,W,S,t,r⟩ 39 12000:=⟨⟩
instance {W : List Loc} {S : AS} {t r : Bool} : Rk ⟨F.y5,W,S,t,r⟩ 40 13000:=⟨⟩
instance {W : List Loc} {S : AS} {t r : Bool} : Rk ⟨F.o6,W,S,t,r⟩ 15 1000:=⟨⟩
instance {W : List Loc} {S : AS} {t r : Bool} : Rk ⟨F.o6,W,S,t,r⟩ 17 2000:=⟨⟩
instance {W : List Loc} {S : AS} {t r : Bool} : Rk ⟨F.o6,W,S,t,r⟩ 19 3000:=⟨⟩
instance {W : List Loc} {S : AS} {t r : Bool} : Rk ⟨F.o6,W,S,t,r⟩ 4 4000:=⟨⟩
instance {W : List Loc} {S : AS} {t r : Bool} : Rk ⟨F.o6,W,S,t,r⟩ 21 5000:=⟨⟩
instance {W : List Loc} {S : AS} {t r : Bool} : Rk ⟨F.o6,W,S,t,r⟩ 24 6000:=⟨⟩
instance {W : List Loc} {S : AS} {t r : Bool} : Rk ⟨F.o6,W,S,t,r⟩ 26 7000:=⟨⟩
instance {W : List Loc} {S : AS} {t r : Bool} : Rk ⟨F.o6,W,S,t,r⟩ 27 8000:=⟨⟩
instance {W : List Loc} {S : AS} {t r : Bool} : Rk ⟨F.o6,W,S,t,r⟩ 5 9000:=⟨⟩
instance {W : List Loc} {S : AS} {t r : Bool} : Rk ⟨F.o6,W,S,t,r⟩ 29 10000:=⟨⟩
instance {W : List Loc} {S : AS} {t r : Bool} : Rk ⟨F.o6,W,S,t,r⟩ 32 11000:=⟨⟩
instance {W : List Loc} {S : AS} {t r : Bool} : Rk ⟨F.o6,W,S,t,r⟩ 33 12000:=⟨⟩
instance {W : List Loc} {S : AS} {t r : Bool} : Rk ⟨F.o6,W,S,t,r⟩ 6 13000:=⟨⟩
instance {W : List Loc} {S : AS} {t r : Bool} : Rk ⟨F.o6,W,S,t,r⟩ 35 14000:=⟨⟩
instance {W : List Loc} {S : AS} {t r : Bool} : Rk ⟨F.o6,W,S,t,r⟩ 38 15000:=⟨⟩
instance {W : List Loc} {S : AS} {t r : Bool} : Rk ⟨F.o6,W,S,t,r⟩ 39 16000:=⟨⟩
instance {W : List Loc} {S : AS} {t r : Bool} : Rk ⟨F.o6,W,S,t,r⟩ 7 17000:=⟨⟩
instance {W : List Loc} {S : AS} {t r : Bool} : Rk ⟨F.o6,W,S,t,r⟩ 41 18000:=⟨⟩
instance {W : List Loc} {S : AS} {t r : Bool} : Rk ⟨F.o6,W,S,t,r⟩ 44 19000:=⟨⟩
instance {W : List Loc} {S : AS} {t r : Bool} : Rk ⟨F.o6,W,S,t,r⟩ 46 20000:=⟨⟩
instance {W : List Loc} {S : AS} {t r : Bool} : Rk ⟨F.o6,W,S,t,r⟩ 48 21000:=⟨⟩
instance {W : List Loc} {S : AS} {t r : Bool} : Rk ⟨F.o6,W,S,t,r⟩ 50 22000:=⟨⟩
instance {W : List Loc} {S : AS} {t r : Bool} : Rk ⟨F.o6,W,S,t,r⟩ 51 23000:=⟨⟩
instance {W : List Loc} {S : AS} {t r : Bool} : Rk ⟨F.o6,W,S,t,r⟩ 8 24000:=⟨⟩
instance {W : List Loc} {S : AS} {t r : Bool} : Rk ⟨F.o6,W,S,t,r⟩ 53 25000:=⟨⟩
instance {W : List Loc} {S : AS} {t r : Bool} : Rk ⟨F.o6,W,S,t,r⟩ 55 26000:=⟨⟩
instance {W : List Loc} {S : AS} {t r : Bool} : Rk ⟨F.o6,W,S,t,r⟩ 60 27000:=⟨⟩
instance {W : List Loc} {S : AS} {t r : Bool} : Rk ⟨F.o6,W,S,t,r⟩ 63 28000:=⟨⟩
instance {W : List Loc} {S : AS} {t r : Bool} : Rk ⟨F.o6,W,S,t,r⟩ 65 29000:=⟨⟩
instance {W : List Loc} {S : AS} {t r : Bool} : Rk ⟨F.o6,W,S,t,r⟩ 11 30000:=⟨⟩
instance {W : List Loc} {S : AS} {t r : Bool} : Rk ⟨F.o6,W,S,t,r⟩ 67 31000:=⟨⟩
instance {W : List Loc} {S : AS} {t r : Bool} : Rk ⟨F.o6,W,S,t,r⟩ 69 32000:=⟨⟩
instance {W : List Loc} {S : AS} {t r : Bool} : Rk ⟨F.o6,W,S,t,r⟩ 70 33000:=⟨⟩
instance {W : List Loc} {S : AS} {t r : Bool} : Rk ⟨F.o6,W,S,t,r⟩ 71 34000:=⟨⟩
instance {W : List Loc} {S : AS} {t r : Bool} : Rk ⟨F.o6,W,S,t,r⟩ 12 35000:=⟨⟩
instance {W : List Loc} {S : AS} {t r : Bool} : Rk ⟨F.o6,W,S,t,r⟩ 73 36000:=⟨⟩
instance {W : List Loc} {S : AS} {t r : Bool} : Rk ⟨F.o6,W,S,t,r⟩ 76 37000:=⟨⟩
instance {W : List Loc} {S : AS} {t r : Bool} : Rk ⟨F.o6,W,S,t,r⟩ 79 38000:=⟨⟩
instance {W : List Loc} {S : AS} {t r : Bool} : Rk ⟨F.o6,W,S,t,r⟩ 82 39000:=⟨⟩
instance {W : List Loc} {S : AS} {t r : Bool} : Rk ⟨F.o6,W,S,t,r⟩ 83 40000:=⟨⟩
instance {W : List Loc} {S : AS} {t r : Bool} : Rk ⟨F.o6,W,S,t,r⟩ 86 41000:=⟨⟩
instance {W : List Loc} {S : AS} {t r : Bool} : Rk ⟨F.o6,W,S,t,r⟩ 90 42000:=⟨⟩
instance {W : List Loc} {S : AS} {t r : Bool} : Rk ⟨F.o6,W,S,t,r⟩ 91 43000:=⟨⟩
instance {W : List Loc} {S : AS} {t r : Bool} : Rk ⟨F.o6,W,S,t,r⟩ 13 44000:=⟨⟩
instance {W : List Loc} {S : AS} {t r : Bool} : Rk ⟨F.o6,W,S,t,r⟩ 93 45000:=⟨⟩
instance {W : List Loc} {S : AS} {t r : Bool} : Rk ⟨F.o6,W,S,t,r⟩ 95 46000:=⟨⟩
instance {W : List Loc} {S : AS} {t r : Bool} : Rk ⟨F.o6,W,S,t,r⟩ 96 47000:=⟨⟩
instance {W : List Loc} {S : AS} {t r : Bool} : Rk ⟨F.aa9,W,S,t,r⟩ 1 1000:=⟨⟩
instance {W : List Loc} {S : AS} {t r : Bool} : Rk ⟨F.aa9,W,S,t,r⟩ 6 2000:=⟨⟩
instance {W : List Loc} {S : AS} {t r : Bool} : Rk ⟨F.aa9,W,S,t,r⟩ 7 3000:=⟨⟩
instance {W : List Loc} {S : AS} {t r : Bool} : Rk ⟨F.aa9,W,S,t,r⟩ 12 4000:=⟨⟩
instance {W : List Loc} {S : AS} {t r : Bool} : Rk ⟨F.aa9,W,S,t,r⟩ 5 5000:=⟨⟩
instance {W : List Loc} {S : AS} {t r : Bool} : Rk ⟨F.aa9,W,S,t,r⟩ 14 6000:=⟨⟩
instance {W : List Loc} {S : AS} {t r : Bool} : Rk ⟨F.aa9,W,S,t,r⟩ 15 7000:=⟨⟩
instance {W : List Loc} {S : AS} {t r : Bool} : Rk ⟨F.aa9,W,S,t,r⟩ 16 8000:=⟨⟩
instance {W : List Loc} {S : AS} {t r : Bool} : Rk ⟨F.aa9,W,S,t,r⟩ 17 9000:=⟨⟩
instance {W : List Loc} {S : AS} {t r : Bool} : Rk ⟨F.aa9,W,S,t,r⟩ 20 10000:=⟨⟩
instance {W : List Loc} {S : AS} {t r : Bool} : Rk ⟨F.aa9,W,S,t,r⟩ 24 11000:=⟨⟩
instance {W : List Loc} {S : AS} {t r : Bool} : Rk ⟨F.aa9,W,S,t,r⟩ 41 12000:=⟨⟩
instance {W : List Loc} {S : AS} {t r : Bool} : Rk ⟨F.aa9,W,S,t,r⟩ 43 13000:=⟨⟩
instance {W : List Loc} {S : AS} {t r : Bool} : Rk ⟨F.aa9,W,S,t,r⟩ 45 14000:=⟨⟩
instance {W : List Loc} {S : AS} {t r : Bool} : Rk ⟨F.aa9,W,S,t,r⟩ 51 15000:=⟨⟩
instance {W : List Loc} {S : AS} {t r : Bool} : Rk ⟨F.aa9,W,S,t,r⟩ 54 16000:=⟨⟩
instance {W : List Loc} {S : AS} {t r : Bool} : Rk ⟨F.aa9,W,S,t,r⟩ 60 17000:=⟨⟩
instance {W : List Loc} {S : AS} {t r : Bool} : Rk ⟨F.ae2,W,S,t,r⟩ 1 1000:=⟨⟩
instance {W : List Loc} {S : AS} {t r : Bool} : Rk ⟨F.ae2,W,S,t,r⟩ 8 2000:=⟨⟩
instance {W : List Loc} {S : AS} {t r : Bool} : Rk ⟨F.ae2,W,S,t,r⟩ 9 3000:=⟨⟩
instance {W : List Loc} {S : AS} {t r : Bool} : Rk ⟨F.ae2,W,S,t,r⟩ 10 4000:=⟨⟩
instance {W : List Loc} {S : AS} {t r : Bool} : Rk ⟨F.ae2,W,S,t,r⟩ 4 5000:=⟨⟩
instance {W : List Loc} {S : AS} {t r : Bool} : Rk ⟨F.ae2,W,S,t,r⟩ 11 6000:=⟨⟩
instance {W : List Loc} {S : AS} {t r : Bool} : Rk ⟨F.ae2,W,S,t,r⟩ 17 7000:=⟨⟩
instance {W : List Loc} {S : AS} {t r : Bool} : Rk ⟨F.ae2,W,S,t,r⟩ 21 8000:=⟨⟩
instance {W : List Loc} {S : AS} {t r : Bool} : Rk ⟨F.ae2,W,S,t,r⟩ 22 9000:=⟨⟩
instance {W : List Loc} {S : AS} {t r : Bool} : Rk ⟨F.ae2,W,S,t,r⟩ 25 10000:=⟨⟩
instance {W : List Loc} {S : AS} {t r : Bool} : Rk ⟨F.ae1,W,S,t,r⟩ 2 1000:=⟨⟩
instance {W : List Loc} {S : AS} {t r : Bool} : Rk ⟨F.ae1,W,S,t,r⟩ 14 2000:=⟨⟩
instance {W : List Loc} {S : AS} {t r : Bool} : Rk ⟨F.ae1,W,S,t,r⟩ 31 3000:=⟨⟩
instance {W : List Loc} {S : AS} {t r : Bool} : Rk ⟨F.ae1,W,S,t,r⟩ 32 4000:=⟨⟩
instance {W : List Loc} {S : AS} {t r : Bool} : Rk ⟨F.ae1,W,S,t,r⟩ 19 5000:=⟨⟩
instance {W : List Loc} {S : AS} {t r : Bool} : Rk ⟨F.ae1,W,S,t,r⟩ 20 6000:=⟨⟩
instance {W : List Loc} {S : AS} {t r : Bool} : Rk ⟨F.ae1,W,S,t,r⟩ 21 7000:=⟨⟩
instance {W : List Loc} {S : AS} {t r : Bool} : Rk ⟨F.ae1,W,S,t,r⟩ 37 8000:=⟨⟩
instance {W : List Loc} {S : AS} {t r : Bool} : Rk ⟨F.ae1,W,S,t,r⟩ 43 9000:=⟨⟩
instance {W : List Loc} {S : AS} {t r : Bool} : Rk ⟨F.ae1,W,S,t,r⟩ 45 10000:=⟨⟩
instance {W : List Loc} {S : AS} {t r : Bool} : Rk ⟨F.o5,W,S,t,r⟩ 3 1000:=⟨⟩
instance {W : List Loc} {S : AS} {t r : Bool} : Rk ⟨F.o5,W,S,t,r⟩ 11 2000:=⟨⟩
instance {W : List Loc} {S : AS} {t r : Bool} : Rk ⟨F.o5,W,S,t,r⟩ 12 3000:=⟨⟩
instance {W : List Loc} {S : AS} {t r : Bool} : Rk ⟨F.o5,W,S,t,r⟩ 14 4000:=⟨⟩
instance {W : List Loc} {S : AS} {t r : Bool} : Rk ⟨F.o5,W,S,t,r⟩ 15 5000:=⟨⟩
instance {W : List Loc} {S : AS} {t r : Bool} : Rk ⟨F.o5,W,S,t,r⟩ 16 6000:=⟨⟩
instance {W : List Loc} {S : AS} {t r : Bool} : Rk ⟨F.o5,W,S,t,r⟩ 18 7000:=⟨⟩
instance {W : List Loc} {S : AS} {t r : Bool} : Rk ⟨F.o5,W,S,t,r⟩ 6 8000:=⟨⟩
instance {W : List Loc} {S : AS} {t r : Bool} : Rk ⟨F.o5,W,S,t,r⟩ 7 9000:=⟨⟩
instance {W : List Loc} {S : AS} {t r : Bool} : Rk ⟨F.o5,W,S,t,r⟩ 20 10000:=⟨⟩
instance {W : List Loc} {S : AS} {t r : Bool} : Rk ⟨F.o5,W,S,t,r⟩ 21 11000:=⟨⟩
instance {W : List Loc} {S : AS} {t r : Bool} : Rk ⟨F.o5,W,S,t,r⟩ 24 12000:=⟨⟩
instance {W : List Loc} {S : AS} {t r : Bool} : Rk ⟨F.o5,W,S,t,r⟩ 27 13000:=⟨⟩
instance {W : List Loc} {S : AS} {t r : Bool} : Rk ⟨F.o5,W,S,t,r⟩ 8 14000:=⟨⟩
instance {W : List Loc} {S : AS} {t r : Bool} : Rk ⟨F.o5,W,S,t,r⟩ 31 15000:=⟨⟩
instance {W : List Loc} {S : AS} {t r : Bool} : Rk ⟨F.o5,W,S,t,r⟩ 50 16000:=⟨⟩
instance {W : List Loc} {S : AS} {t r : Bool} : Rk ⟨F.o5,W,S,t,r⟩ 52 17000:=⟨⟩
instance {W : List Loc} {S : AS} {t r : Bool} : Rk ⟨F.o5,W,S,t,r⟩ 55 18000:=⟨⟩
instance {W : List Loc} {S : AS} {t r : Bool} : Rk ⟨F.o5,W,S,t,r⟩ 58 19000:=⟨⟩
instance {W : List Loc} {S : AS} {t r : Bool} : Rk ⟨F.o5,W,S,t,r⟩ 59 20000:=⟨⟩
instance {W : List Loc} {S : AS} {t r : Bool} : Rk ⟨F.o5,W,S,t,r⟩ 61 21000:=⟨⟩
instance {W : List Loc} {S : AS} {t r : Bool} : Rk ⟨F.o5,W,S,t,r⟩ 63 22000:=⟨⟩
instance {W : List Loc} {S : AS} {t r : Bool} : Rk ⟨F.o5,W,S,t,r⟩ 65 23000:=⟨⟩
instance {W : List Loc} {S : AS} {t r : Bool} : Rk ⟨F.o5,W,S,t,r⟩ 69 24000:=⟨⟩
instance {W : List Loc} {S : AS} {t r : Bool} : Rk ⟨F.o5,W,S,t,r⟩ 72 25000:=⟨⟩
instance {W : List Loc} {S : AS} {t r : Bool} : Rk ⟨F.o5,W,S,t,r⟩ 73 26000:=⟨⟩
instance {W : List Loc} {S : AS} {t r : Bool} : Rk ⟨F.o5,W,S,t,r⟩ 74 27000:=⟨⟩
instance {W : List Loc} {S : AS} {t r : Bool} : Rk ⟨F.o5,W,S,t,r⟩ 76 28000:=⟨⟩
instance {W : List Loc} {S : AS} {t r : Bool} : Rk ⟨F.o5,W,S,t,r⟩ 77 29000:=⟨⟩
instance {W : List Loc} {S : AS} {t r : Bool} : Rk ⟨F.o5,W,S,t,r⟩ 78 30000:=⟨⟩
instance {W : List Loc} {S : AS} {t r : Bool} : Rk ⟨F.o5,W,S,t,r⟩ 80 31000:=⟨⟩
instance {W : List Loc} {S : AS} {t r : Bool} : Rk ⟨F.o5,W,S,t,r⟩ 81 32000:=⟨⟩
instance {W : List Loc} {S : AS} {t r : Bool} : Rk ⟨F.o5,W,S,t,r⟩ 83 33000:=⟨⟩
instance {W : List Loc} {S : AS} {t r : Bool} : Rk ⟨F.o5,W,S,t,r⟩ 85 34000:=⟨⟩
instance {W : List Loc} {S : AS} {t r : Bool} : Rk ⟨F.o5,W,S,t,r⟩ 86 35000:=⟨⟩
instance {W : List Loc} {S : AS} {t r : Bool} : Rk ⟨F.o5,W,S,t,r⟩ 90 36000:=⟨⟩
instance {W : List Loc} {S : AS} {t r : Bool} : Rk ⟨F.o5,W,S,t,r⟩ 91 37000:=⟨⟩
instance {W : List Loc} {S : AS} {t r : Bool} : Rk ⟨F.o5,W,S,t,r⟩ 93 38000:=⟨⟩
instance {W : List Loc} {S : AS} {t r : Bool} : Rk ⟨F.o5,W,S,t,r⟩ 95 39000:=⟨⟩
instance {W : List Loc} {S : AS} {t r : Bool} : Rk ⟨F.o5,W,S,t,r⟩ 96 40000:=⟨⟩
instance {W : List Loc} {S : AS} {t r : Bool} : Rk ⟨F.o5,W,S,t,r⟩ 98 41000:=⟨⟩
instance {W : List Loc} {S : AS} {t r : Bool} : Rk ⟨F.o5,W,S,t,r⟩ 99 42000:=⟨⟩
instance {W : List Loc} {S : AS} {t r : Bool} : Rk ⟨F.o5,W,S,t,r⟩ 100 43000:=⟨⟩
instance {W : List Loc} {S : AS} {t r : Bool} : Rk ⟨F.o5,W,S,t,r⟩ 102 44000:=⟨⟩
instance {W : List Loc} {S : AS} {t r : Bool} : Rk ⟨F.o5,W,S,t,r⟩ 103 45000:=⟨⟩
instance {W : List Loc} {S : AS} {t r : Bool} : Rk ⟨F.o5,W,S,t,r⟩ 105 46000:=⟨⟩
instance {W : List Loc} {S : AS} {t r : Bool} : Rk ⟨F.o5,W,S,t,r⟩ 106 47000:=⟨⟩
instance {W : List Loc} {S : AS} {t r : Bool} : Rk ⟨F.o5,W,S,t,r⟩ 107 48000:=⟨⟩
instance {W : List Loc} {S : AS} {t r : Bool} : Rk ⟨F.o5,W,S,t,r⟩ 108 49000:=⟨⟩
instance {W : List Loc} {S : AS} {t r : Bool} : Rk ⟨F.o5,W,S,t,r⟩ 110 50000:=⟨⟩
instance {W : List Loc} {S : AS} {t r : Bool} : Rk ⟨F.o5,W,S,t,r⟩ 111 51000:=⟨⟩
instance {W : List Loc} {S : AS} {t r : Bool} : Rk ⟨F.o5,W,S,t,r⟩ 113 52000:=⟨⟩
instance {W : List Loc} {S : AS} {t r : Bool} : Rk ⟨F.o5,W,S,t,r⟩ 114 53000:=⟨⟩
instance {W : List Loc} {S : AS} {t r : Bool} : Rk ⟨F.o5,W,S,t,r⟩ 33 54000:=⟨⟩
instance {W : List Loc} {S : AS} {t r : Bool} : Rk ⟨F.o5,W,S,t,r⟩ 34 55000:=⟨⟩
instance {W : List Loc} {S : AS} {t r : Bool} : Rk ⟨F.o5,W,S,t,r⟩ 36 56000:=⟨⟩
instance {W : List Loc} {S : AS} {t r : Bool} : Rk ⟨F.o5,W,S,t,r⟩ 44 57000:=⟨⟩
instance {W : List Loc} {S : AS} {t r : Bool} : Rk ⟨F.o5,W,S,t,r⟩ 45 58000:=⟨⟩
instance {W : List Loc} {S : AS} {t r : Bool} : Rk ⟨F.o5,W,S,t,r⟩ 46 59000:=⟨⟩
instance {P : Program} [hc : ab5 P] : PtrI P 30:=⟨hc.pt_30⟩
instance {P : Program} [hc : ab5 P] : IfcI P 52:=⟨hc.ni_52⟩
instance (x : D.l9) : NilC (y8 x) (D.l9.isnil x):=⟨by cases x <;> simp only [y8] <;> rfl⟩
instance : MapI 59 (fun (k : D.aN0)=>Value.agg #[Value.int .i64 k.pc,Value.int .i64 k.at_,Value.string (bs k.rest)]) (fun v=>.int .i64 v):=⟨⟩
instance {P : Program} [hc : ab5 P] : co8 P F.aD6 1 3:=⟨8,34,4,rfl,hc.cln_int,fun _=>rfl,hc.un_ints,by decide⟩
instance (k : IntKind) (v el : Int) : SpE (aD9 k) 0 [.int k v] el v:=⟨rfl⟩
instance ok_law08_awake {P : Program} [hc : ab5 P]  : CallsC P F.ai3 [] (ai3) (fun (r : Bool)=>[.bool r]):=⟨fun r h args ha=>by
  cases h
  obtain rfl : args = []:=by simpa [RVN,RVLC] using ha
  exact hc.ext_awake,fun _=>rfl⟩
instance ok_slices_Repeat_int_int {P : Program} [hc : ab5 P] (a0 : (List Int)) (a1 : Int) : CallsC P F.ae0 [.sl 1 (a0.map (aD9 .i64)),.int .i64 a1] (ae0 a0 a1) (fun (r : (List Int))=>[.sl 1 (r.map (aD9 .i64))]):=⟨fun r h args ha=>by
  unfold ae0 at h
  split at h
  case isFalse=>cases h
  rename_i hs
  obtain ⟨rfl,rfl⟩:=hs
  cases h
  exact rep_args ha hc.ext_rep,fun _=>rfl⟩
instance ok_slices_Clone_code_Inst_code_Inst {P : Program} [hc : ab5 P] (a0 : (List D.ac0)) : CallsC P F.ac5 [.sl 7 (a0.map ap7)] (ac5 a0) (fun (r : (List D.ac0))=>[.sl 7 (r.map ap7)]):=⟨fun r h args ha=>(clone_ok rfl hc.cln_inst (fun _=>rfl) (fun _=>rfl) hc.un_insts rfl a0 r h 0 args ha).b,fun _=>rfl⟩
instance (p1 : Int) (p3 : Int) (p4 : Int) (p5 : Int) (p6 : Int) : bf8 (ay7 p1 p3 p4 p5 p6) (fun (p2,p7,p8,p9,p10)=>[(1,.c (.v (.int .u8 p1))),(4,.loc 500 0),(5,.loc 501 0),(6,.c (.v (.int .i64 p2)))]) (fun (p2,p7,p8,p9,p10)=>[(500,.cel false [4] (some 4) 26 [.v (.int .u64 p3),.v (.int .u64 p4),.v (.int .u64 p5),.v (.int .u64 p6)]),(501,.cel false [5] (some 5) 26 [.v (.int .u64 p7),.v (.int .u64 p8),.v (.int .u64 p9),.v (.int .u64 p10)])]) (fun (p15,p16,p17,p18)=>[(4,.loc 500 0),(5,.loc 501 0)]) (fun (p15,p16,p17,p18)=>[(500,.cel false [4] (some 4) 26 [.v (.int .u64 p3),.v (.int .u64 p4),.v (.int .u64 p5),.v (.int .u64 p6)]),(501,.cel false [5] (some 5) 26 [.v (.int .u64 p15),.v (.int .u64 p16),.v (.int .u64 p17),.v (.int .u64 p18)])]):=⟨⟩
instance (p1 : (List D.l9)) (p2 : Int) : bf8 (aa1 p1 p2) (fun p3=>[(0,.c (.v (.sl 1 (List.map ad8 p1)))),(1,.c (.v (.fnv 80 []))),(7,.c (.v (.int .i64 p2))),(8,.c (.v (.int .i64 p3)))]) (fun p3=>[]) (fun _=>[]) (fun _=>[]):=⟨⟩
instance (p1 : (List D.l9)) (p2 : Int) : bf8 (ad7 p1 p2) (fun p3=>[(0,.c (.v (.sl 1 (List.map ad8 p1)))),(1,.c (.v (.fnv 82 []))),(7,.c (.v (.int .i64 p2))),(8,.c (.v (.int .i64 p3)))]) (fun p3=>[]) (fun _=>[]) (fun _=>[]):=⟨⟩
instance {fu : Nat} {rec_tree_looker_right : D.aa4 → D.l9 → Option (D.aa4 × Bool)} (p3 : D.l9) (p4 : (List D.l9)) (p5 : Int) : bf8 (ai6 fu rec_tree_looker_right p3 p4 p5) (fun (p6,q7)=>[(0,.c (.k 0)),(1,.c (.v (y8 p3))),(14,.c (.v (.sl 1 (List.map ad8 p4)))),(15,.c (.v (.int .i64 p5))),(16,.c (.v (.int .i64 p6)))]) (fun (p6,q7)=>[(0,.own true [] (.ptr 110 (ah2 q7))),(599,.jnk true [])]) (fun q9=>[(0,.c (.k 0)),(1,.c (.v (y8 p3)))]) (fun q9=>[(0,.own true [] (.ptr 110 (ah2 q9))),(599,.jnk true [])]):=⟨⟩
instance {fu : Nat} {rec_tree_Groups : D.l9 → Option Int} (p3 : (List D.l9)) (p4 : Int) : bf8 (aI2 fu rec_tree_Groups p3 p4) (fun (p2,p5)=>[(3,.c (.v (.int .i64 p2))),(17,.c (.v (.sl 1 (List.map ad8 p3)))),(18,.c (.v (.int .i64 p4))),(19,.c (.v (.int .i64 p5)))]) (fun (p2,p5)=>[]) (fun p6=>[(3,.c (.v (.int .i64 p6)))]) (fun p6=>[]):=⟨⟩
instance {fu : Nat} {rec_tree_Groups : D.l9 → Option Int} (p11 : (List D.l9)) (p12 : Int) : bf8 (ar2 fu rec_tree_Groups p11 p12) (fun (p10,p13)=>[(3,.c (.v (.int .i64 p10))),(17,.c (.v (.sl 1 (List.map ad8 p11)))),(18,.c (.v (.int .i64 p12))),(19,.c (.v (.int .i64 p13)))]) (fun (p10,p13)=>[]) (fun p14=>[(3,.c (.v (.int .i64 p14)))]) (fun p14=>[]):=⟨⟩
instance {fu : Nat} {rec_code_builder_node : D.aa2 → D.l9 → Option D.aa2} (p5 : (List D.l9)) (p6 : Int) : bf8 (ai7 fu rec_code_builder_node p5 p6) (fun (p7,q8)=>[(0,.c (.k 0)),(55,.c (.v (.sl 1 (List.map ad8 p5)))),(56,.c (.v (.int .i64 p6))),(57,.c (.v (.int .i64 p7)))]) (fun (p7,q8)=>[(0,.own true [] (.ptr 69 (ag0 q8))),(599,.jnk true [])]) (fun q9=>[]) (fun q9=>[(0,.own true [] (.ptr 69 (ag0 q9))),(599,.jnk true [])]):=⟨⟩
instance {fu : Nat} {rec_law03_Real : D.aa5 → Option D.l9} (p2 : (List D.aa5)) (p3 : Int) (q5 : D.aa5) : bf8 (au3 fu rec_law03_Real p2 p3 q5) (fun (p4,q6)=>[(1,.loc 500 0),(3,.c (.k 501)),(7,.c (.v (.sl 9 (List.map ad4 p2)))),(8,.c (.v (.int .i64 p3))),(9,.c (.v (.int .i64 p4)))]) (fun (p4,q6)=>[(500,.cel false [1] (some 1) 28 [.v (.int .i64 q5.Kind),.v (.int .u64 q5.Set.x0),.v (.int .u64 q5.Set.x1),.v (.int .u64 q5.Set.x2),.v (.int .u64 q5.Set.x3),.v (.sl 9 (List.map ad4 q5.Parts)),.v (.int .i64 q5.Min),.v (.int .i64 q5.Max),.v (.int .i64 q5.Number)]),(501,.own false [17] (.gs 1 52 (List.map ad8 q6)))]) (fun q8=>[(1,.loc 500 0),(3,.c (.k 501))]) (fun q8=>[(500,.cel false [1] (some 1) 28 [.v (.int .i64 q5.Kind),.v (.int .u64 q5.Set.x0),.v (.int .u64 q5.Set.x1),.v (.int .u64 q5.Set.x2),.v (.int .u64 q5.Set.x3),.v (.sl 9 (List.map ad4 q5.Parts)),.v (.int .i64 q5.Min),.v (.int .i64 q5.Max),.v (.int .i64 q5.Number)]),(501,.own false [17] (.gs 1 52 (List.map ad8 q8)))]):=⟨⟩
instance (p1 : (List D.aa5)) (p2 : Int) (q4 : D.aa5) : bf8 (au1 p1 p2 q4) (fun (p3,q5)=>[(0,.c (.v (.sl 9 (List.map ad4 p1)))),(2,.loc 500 0),(3,.c (.k 501)),(6,.c (.v (.int .i64 p2))),(7,.c (.v (.int .i64 p3)))]) (fun (p3,q5)=>[(500,.cel false [2] (some 2) 28 [.v (.int .i64 q4.Kind),.v (.int .u64 q4.Set.x0),.v (.int .u64 q4.Set.x1),.v (.int .u64 q4.Set.x2),.v (.int .u64 q4.Set.x3),.v (.sl 9 (List.map ad4 q4.Parts)),.v (.int .i64 q4.Min),.v (.int .i64 q4.Max),.v (.int .i64 q4.Number)]),(501,.own false [21,32] (.gs 9 28 (List.map ad4 q5)))]) (fun q7=>[(2,.loc 500 0),(3,.c (.k 501))]) (fun q7=>[(500,.cel false [2] (some 2) 28 [.v (.int .i64 q4.Kind),.v (.int .u64 q4.Set.x0),.v (.int .u64 q4.Set.x1),.v (.int .u64 q4.Set.x2),.v (.int .u64 q4.Set.x3),.v (.sl 9 (List.map ad4 q4.Parts)),.v (.int .i64 q4.Min),.v (.int .i64 q4.Max),.v (.int .i64 q4.Number)]),(501,.own false [21,32] (.gs 9 28 (List.map ad4 q7)))]):=⟨⟩
instance {fu : Nat} {rec_match_machine_run : D.y7 → Int → Int → Option D.y7} (p6 : (List Int)) (p7 : (List Int)) : bf8 (ad3 fu rec_match_machine_run p6 p7) (fun (p4,p5,q8)=>[(1,.c (.v (.int .i64 p4))),(2,.c (.v (.int .i64 p5))),(3,.loc 500 0),(6,.loc 501 0),(7,.loc 502 0)]) (fun (p4,p5,q8)=>[(500,.cel false [3] (some 3) 55 [.k 0]),(501,.cel false [6] (some 6) 34 [.v (.sl 1 (List.map (aD9 .i64) p6))]),(502,.cel false [7] (some 7) 34 [.v (.sl 1 (List.map (aD9 .i64) p7))]),(0,.own true [] (.ptr 61 (ar5 q8))),(599,.jnk true [])]) (fun _=>[]) (fun _=>[]):=⟨⟩
instance {fu : Nat} (p1 : (Option D.ah5)) (p2 : List UInt8) (p3 : Int) : bf8 (ah7 fu p1 p2 p3) (fun p4=>[(0,.c (.v (vref aE3 p1))),(1,.c (.v (.str p2))),(2,.c (.v (.int .i64 p3))),(8,.c (.v (.int .i64 p4)))]) (fun p4=>[]) (fun _=>[]) (fun _=>[]):=⟨⟩
instance (p1 : (List Int)) (p2 : (List Int)) (p3 : Int) : bf8 (ak9 p1 p2 p3) (fun p4=>[(0,.c (.v (.sl 1 (List.map (aD9 .i64) p1)))),(1,.c (.v (.sl 1 (List.map (aD9 .i64) p2)))),(12,.c (.v (.int .i64 p3))),(13,.c (.v (.int .i64 p4)))]) (fun p4=>[]) (fun _=>[]) (fun _=>[]):=⟨⟩
instance {fu : Nat} (p3 : List UInt8) (p4 : List UInt8) (p5 : Int) (p6 : Int) : bf8 (ak7 fu p3 p4 p5 p6) (fun (p7,q8)=>[(0,.c (.v (.str p3))),(1,.c (.v (.str p4))),(2,.c (.v (.int .u8 p5))),(7,.c (.k 500)),(28,.c (.v (.int .i64 p6))),(29,.c (.v (.int .i64 p7)))]) (fun (p7,q8)=>[(500,.own false [38] (.gs 9 28 (List.map ad4 q8)))]) (fun q12=>[(0,.c (.v (.str p3))),(1,.c (.v (.str p4))),(2,.c (.v (.int .u8 p5))),(7,.c (.k 500))]) (fun q12=>[(500,.own false [38] (.gs 9 28 (List.map ad4 q12)))]):=⟨⟩
instance {fu : Nat} (p19 : List UInt8) (p20 : List UInt8) (p21 : (List Int)) (p22 : Bool) : bf8 (af9 fu p19 p20 p21 p22) (fun p23=>[(0,.c (.v (.str p19))),(1,.c (.v (.str p20))),(11,.c (.v (.sl 1 (List.map (aD9 .i64) p21)))),(12,.c (.v (.bool p22))),(13,.c (.v (.int .i64 p23)))]) (fun p23=>[]) (fun _=>[(11,.c (.v (.sl 1 (List.map (aD9 .i64) p21)))),(12,.c (.v (.bool p22)))]) (fun _=>[]):=⟨⟩
open Go.RowKit
set_option maxHeartbeats 1000000
set_option maxRecDepth 100000
instance ok_tree_kids {P : Program} [hc : ab5 P] (a0 : D.l9) : CallsC P F.ab7 [.v (y8 a0)] (ab7 a0) (fun (r : (List D.l9))=>[.sl 1 (r.map ad8)]):=⟨fun r h args ha=>aC6 (b:=K.ab7) rfl hc.ab7 (fun _=>rfl) rfl rfl (fun L=>by
  unfold ab7 at h
  dsimp only [insE,insH,rvO,rvP,rvE,isOb,List.map,List.cons_append,List.nil_append,List.append_nil]
  repeat' first
   | (refine ag6 ?_; first
     | refine am3 rfl ?_
     | refine aq7 (t_ta rfl) ?_
     | refine au6 ?_
     | refine v_st rfl rfl rfl rfl rfl rfl rfl ?_
     | refine bc4 rfl rfl rfl rfl rfl ?_
     | refine bv7 rfl rfl rfl ?_)
   | (refine ag7 ?_; first
     | refine av1 ?_
     | refine au8 ?_
     | refine as8 ?_
     | refine au5 ?_
     | refine av3 ?_
     | (refine aw5 h rfl ?_ ?_ <;> intro _ h))
   | (refine ag4 ?_; first
     | refine au7 ?_
     | refine ax0 ?_
     | refine aD4 ?_
     | refine aI8 ?_
     | (obtain rfl:=Option.some.inj h; first |  exact am1 rfl rfl rfl rfl | exact ai5 rfl | refine an0 rfl rfl rfl ?_ | refine an1 rfl rfl ?_ | refine an2 rfl rfl rfl ?_ | refine am8 rfl rfl ?_ | refine am7 (by repeat first | exact trivial | refine ⟨rfl,?_⟩) rfl | refine am9 (by repeat first | exact trivial | refine ⟨rfl,?_⟩) rfl | (refine av5 fun h=>?_; try dsimp only at h)))
   | (cases h; done)) ha,fun _=>rfl⟩
instance ok_tree_told {P : Program} [hc : ab5 P] (a0 : D.l9) : CallsC P F.ar1 [.v (y8 a0)] (ar1 a0) (fun (r : D.l9)=>[.v (y8 r)]):=⟨fun r h args ha=>aC6 (b:=K.ar1) rfl hc.ar1 (fun _=>rfl) rfl rfl (fun L=>by
  unfold ar1 at h
  dsimp only [insE,insH,rvO,rvP,rvE,isOb,List.map,List.cons_append,List.nil_append,List.append_nil]
  repeat' first
   | (refine ag6 ?_; first
     | refine am3 rfl ?_
     | refine aq7 (t_ni rfl rfl) ?_
     | refine au6 ?_)
   | (refine ag7 ?_; first
     | refine av1 ?_
     | refine au8 ?_
     | refine au5 ?_
     | refine av3 ?_
     | (refine aw5 h rfl ?_ ?_ <;> intro _ h))
   | (refine ag4 ?_; first
     | refine au7 ?_
     | refine ax0 ?_
     | (obtain rfl:=Option.some.inj h; first |  exact am1 rfl rfl rfl rfl | exact ai5 rfl | refine an0 rfl rfl rfl ?_ | refine an1 rfl rfl ?_ | refine an2 rfl rfl rfl ?_ | refine am8 rfl rfl ?_ | refine am7 (by repeat first | exact trivial | refine ⟨rfl,?_⟩) rfl | refine am9 (by repeat first | exact trivial | refine ⟨rfl,?_⟩) rfl | (refine av5 fun h=>?_; try dsimp only at h)))
   | (cases h; done)) ha,fun _=>rfl⟩
instance ok_tree_plain {P : Program} [hc : ab5 P] (a0 : D.l9) : CallsC P F.an8 [.v (y8 a0)] (an8 a0) (fun (r : Bool)=>[.bool r]):=⟨fun r h args ha=>aC6 (b:=K.an8) rfl hc.an8 (fun _=>rfl) rfl rfl (fun L=>by
  unfold an8 at h
  dsimp only [insE,insH,rvO,rvP,rvE,isOb,List.map,List.cons_append,List.nil_append,List.append_nil]
  repeat' first
   | (refine ag6 ?_; first
     | refine am3 rfl ?_
     | refine aq7 (t_or rfl rfl) ?_
     | refine aq7 (t_ta rfl) ?_
     | refine au6 ?_
     | (refine aq4 _ h (fun _ e=>aq0 e rfl) ?_; intro _ _ h))
   | (refine ag7 ?_; first
     | refine av1 ?_
     | refine au8 ?_
     | refine as8 ?_
     | refine au5 ?_
     | refine av3 ?_
     | (refine aw5 h rfl ?_ ?_ <;> intro _ h))
   | (refine ag4 ?_; first
     | refine au7 ?_
     | refine ax0 ?_
     | refine aD4 ?_
     | refine aI8 ?_
     | (obtain rfl:=Option.some.inj h; first |  exact am1 rfl rfl rfl rfl | exact ai5 rfl | refine an0 rfl rfl rfl ?_ | refine an1 rfl rfl ?_ | refine an2 rfl rfl rfl ?_ | refine am8 rfl rfl ?_ | refine am7 (by repeat first | exact trivial | refine ⟨rfl,?_⟩) rfl | refine am9 (by repeat first | exact trivial | refine ⟨rfl,?_⟩) rfl | (refine av5 fun h=>?_; try dsimp only at h)))
   | (cases h; done)) ha,fun _=>rfl⟩
instance ok_tree_looker_shaped_1 {P : Program} [hc : ab5 P] (a0 : D.l9) : CallsC P F.ab2 [.v (y8 a0)] (ab2 a0) (fun (r : Bool)=>[.bool r]):=⟨fun r h args ha=>aC6 (b:=K.ab2) rfl hc.ab2 (fun _=>rfl) rfl rfl (fun L=>by
  unfold ab2 at h
  dsimp only [insE,insH,rvO,rvP,rvE,isOb,List.map,List.cons_append,List.nil_append,List.append_nil]
  repeat' first
   | (refine ag6 ?_; first
     | refine am3 rfl ?_
     | refine au6 ?_
     | (refine aq4 _ h (fun _ e=>aq0 e rfl) ?_; intro _ _ h))
   | (refine ag7 ?_; first
     | refine av1 ?_
     | refine au8 ?_
     | refine av3 ?_)
   | (refine ag4 ?_; first
     | refine au7 ?_
     | (obtain rfl:=Option.some.inj h; first |  exact am1 rfl rfl rfl rfl | exact ai5 rfl | refine an0 rfl rfl rfl ?_ | refine an1 rfl rfl ?_ | refine an2 rfl rfl rfl ?_ | refine am8 rfl rfl ?_ | refine am7 (by repeat first | exact trivial | refine ⟨rfl,?_⟩) rfl | refine am9 (by repeat first | exact trivial | refine ⟨rfl,?_⟩) rfl | (refine av5 fun h=>?_; try dsimp only at h)))
   | (cases h; done)) ha,fun _=>rfl⟩
instance ok_slices_IndexFunc_tree_Node_tree_Node_tree_looker_shaped_1 {P : Program} [hc : ab5 P] (a0 : (List D.l9)) : CallsC P F.ae7 [.sl 1 (a0.map ad8),.v (.fnv 80 [])] (o9 a0) (fun (r : Int)=>[.int .i64 r]):=⟨fun r h args ha=>aC6 (b:=K.o9) rfl hc.o9 (fun _=>rfl) rfl rfl (fun L=>by
  unfold o9 at h
  dsimp only [insE,insH,rvO,rvP,rvE,isOb,List.map,List.cons_append,List.nil_append,List.append_nil]
  repeat' first
   | (refine ag6 ?_; first
     | refine am3 rfl ?_
     | refine v_cd rfl hc.ab2 ?_
     | refine aq7 (t_ll rfl) ?_
     | refine au6 ?_
     | (refine aq4 _ h (fun _ e=>aq0 e rfl) ?_; intro _ _ h)
     | (refine aq4 _ h (fun _ e=>t_ia e rfl rfl) ?_; intro _ _ h))
   | (refine ag7 ?_; first
     | refine av1 ?_
     | refine au8 ?_
     | refine as8 ?_
     | refine au5 ?_
     | refine aT4 ?_
     | refine av3 ?_
     | (refine aD5 h rfl ?_ ?_ <;> intro _ h)
     | (refine aw5 h rfl ?_ ?_ <;> intro _ h)
     | (refine aD2 h (by repeat first | exact trivial | refine ⟨rfl,?_⟩) rfl ?_ ?_ <;> (repeat refine aD0 fun _=>?_) <;> first | (intro _ _ h; dsimp only [aa1,pinL] at h) | (intro _ h; try dsimp only at h)))
   | (refine ag4 ?_; first
     | refine au7 ?_
     | refine ax0 ?_
     | refine aS2 ?_
     | refine aD4 ?_
     | refine aI8 ?_
     | (obtain rfl:=Option.some.inj h; first |  exact am1 rfl rfl rfl rfl | exact ai5 rfl | refine an0 rfl rfl rfl ?_ | refine an1 rfl rfl ?_ | refine an2 rfl rfl rfl ?_ | refine am8 rfl rfl ?_ | refine am7 (by repeat first | exact trivial | refine ⟨rfl,?_⟩) rfl | refine am9 (by repeat first | exact trivial | refine ⟨rfl,?_⟩) rfl | (refine av5 fun h=>?_; try dsimp only at h)))
   | (cases h; done)) ha,fun _=>rfl⟩
instance ok_slices_ContainsFunc_tree_Node_tree_Node_tree_looker_shaped_1 {P : Program} [hc : ab5 P] (a0 : (List D.l9)) : CallsC P F.ad9 [.sl 1 (a0.map ad8),.v (.fnv 80 [])] (o8 a0) (fun (r : Bool)=>[.bool r]):=⟨fun r h args ha=>aC6 (b:=K.o8) rfl hc.o8 (fun _=>rfl) rfl rfl (fun L=>by
  unfold o8 at h
  dsimp only [insE,insH,rvO,rvP,rvE,isOb,List.map,List.cons_append,List.nil_append,List.append_nil]
  repeat' first
   | (refine ag6 ?_; first
     | refine am3 rfl ?_
     | refine au6 ?_
     | (refine aq4 _ h (fun _ e=>aq0 e rfl) ?_; intro _ _ h))
   | (refine ag7 ?_; first
     | refine av1 ?_
     | refine au8 ?_
     | refine av3 ?_)
   | (refine ag4 ?_; first
     | refine au7 ?_
     | (obtain rfl:=Option.some.inj h; first |  exact am1 rfl rfl rfl rfl | exact ai5 rfl | refine an0 rfl rfl rfl ?_ | refine an1 rfl rfl ?_ | refine an2 rfl rfl rfl ?_ | refine am8 rfl rfl ?_ | refine am7 (by repeat first | exact trivial | refine ⟨rfl,?_⟩) rfl | refine am9 (by repeat first | exact trivial | refine ⟨rfl,?_⟩) rfl | (refine av5 fun h=>?_; try dsimp only at h)))
   | (cases h; done)) ha,fun _=>rfl⟩
instance ok_tree_alt {P : Program} [hc : ab5 P] (a0 : D.l9) : CallsC P F.at7 [.v (y8 a0)] (at7 a0) (fun (r : Bool)=>[.bool r]):=⟨fun r h args ha=>aC6 (b:=K.at7) rfl hc.at7 (fun _=>rfl) rfl rfl (fun L=>by
  unfold at7 at h
  dsimp only [insE,insH,rvO,rvP,rvE,isOb,List.map,List.cons_append,List.nil_append,List.append_nil]
  repeat' first
   | (refine ag6 ?_; first
     | refine am3 rfl ?_
     | refine aq7 (t_ta rfl) ?_
     | refine au6 ?_
     | refine v_st rfl rfl rfl rfl rfl rfl rfl ?_
     | refine bc4 rfl rfl rfl rfl rfl ?_)
   | (refine ag7 ?_; first
     | refine av1 ?_
     | refine au8 ?_
     | refine av3 ?_)
   | (refine ag4 ?_; first
     | refine au7 ?_
     | (obtain rfl:=Option.some.inj h; first |  exact am1 rfl rfl rfl rfl | exact ai5 rfl | refine an0 rfl rfl rfl ?_ | refine an1 rfl rfl ?_ | refine an2 rfl rfl rfl ?_ | refine am8 rfl rfl ?_ | refine am7 (by repeat first | exact trivial | refine ⟨rfl,?_⟩) rfl | refine am9 (by repeat first | exact trivial | refine ⟨rfl,?_⟩) rfl | (refine av5 fun h=>?_; try dsimp only at h)))
   | (cases h; done)) ha,fun _=>rfl⟩
instance ok_slices_IndexFunc_tree_Node_tree_Node_tree_alt {P : Program} [hc : ab5 P] (a0 : (List D.l9)) : CallsC P F.ae7 [.sl 1 (a0.map ad8),.v (.fnv 82 [])] (aa0 a0) (fun (r : Int)=>[.int .i64 r]):=⟨fun r h args ha=>aC6 (b:=K.aa0) rfl hc.aa0 (fun _=>rfl) rfl rfl (fun L=>by
  unfold aa0 at h
  dsimp only [insE,insH,rvO,rvP,rvE,isOb,List.map,List.cons_append,List.nil_append,List.append_nil]
  repeat' first
   | (refine ag6 ?_; first
     | refine am3 rfl ?_
     | refine v_cd rfl hc.at7 ?_
     | refine aq7 (t_ll rfl) ?_
     | refine au6 ?_
     | (refine aq4 _ h (fun _ e=>aq0 e rfl) ?_; intro _ _ h)
     | (refine aq4 _ h (fun _ e=>t_ia e rfl rfl) ?_; intro _ _ h))
   | (refine ag7 ?_; first
     | refine av1 ?_
     | refine au8 ?_
     | refine as8 ?_
     | refine au5 ?_
     | refine aT4 ?_
     | refine av3 ?_
     | (refine aD5 h rfl ?_ ?_ <;> intro _ h)
     | (refine aw5 h rfl ?_ ?_ <;> intro _ h)
     | (refine aD2 h (by repeat first | exact trivial | refine ⟨rfl,?_⟩) rfl ?_ ?_ <;> (repeat refine aD0 fun _=>?_) <;> first | (intro _ _ h; dsimp only [ad7,pinL] at h) | (intro _ h; try dsimp only at h)))
   | (refine ag4 ?_; first
     | refine au7 ?_
     | refine ax0 ?_
     | refine aS2 ?_
     | refine aD4 ?_
     | refine aI8 ?_
     | (obtain rfl:=Option.some.inj h; first |  exact am1 rfl rfl rfl rfl | exact ai5 rfl | refine an0 rfl rfl rfl ?_ | refine an1 rfl rfl ?_ | refine an2 rfl rfl rfl ?_ | refine am8 rfl rfl ?_ | refine am7 (by repeat first | exact trivial | refine ⟨rfl,?_⟩) rfl | refine am9 (by repeat first | exact trivial | refine ⟨rfl,?_⟩) rfl | (refine av5 fun h=>?_; try dsimp only at h)))
   | (cases h; done)) ha,fun _=>rfl⟩
instance ok_slices_ContainsFunc_tree_Node_tree_Node_tree_alt {P : Program} [hc : ab5 P] (a0 : (List D.l9)) : CallsC P F.ad9 [.sl 1 (a0.map ad8),.v (.fnv 82 [])] (y9 a0) (fun (r : Bool)=>[.bool r]):=⟨fun r h args ha=>aC6 (b:=K.y9) rfl hc.y9 (fun _=>rfl) rfl rfl (fun L=>by
  unfold y9 at h
  dsimp only [insE,insH,rvO,rvP,rvE,isOb,List.map,List.cons_append,List.nil_append,List.append_nil]
  repeat' first
   | (refine ag6 ?_; first
     | refine am3 rfl ?_
     | refine au6 ?_
     | (refine aq4 _ h (fun _ e=>aq0 e rfl) ?_; intro _ _ h))
   | (refine ag7 ?_; first
     | refine av1 ?_
     | refine au8 ?_
     | refine av3 ?_)
   | (refine ag4 ?_; first
     | refine au7 ?_
     | (obtain rfl:=Option.some.inj h; first |  exact am1 rfl rfl rfl rfl | exact ai5 rfl | refine an0 rfl rfl rfl ?_ | refine an1 rfl rfl ?_ | refine an2 rfl rfl rfl ?_ | refine am8 rfl rfl ?_ | refine am7 (by repeat first | exact trivial | refine ⟨rfl,?_⟩) rfl | refine am9 (by repeat first | exact trivial | refine ⟨rfl,?_⟩) rfl | (refine av5 fun h=>?_; try dsimp only at h)))
   | (cases h; done)) ha,fun _=>rfl⟩
instance ok_tree_looker_shaped {P : Program} [hc : ab5 P] (a0 : D.aa4) (a1 : D.l9) : aB5 P F.o7 [.o (.ptr 110 (ah2 a0)),.r (.v (y8 a1))] (o7 a0 a1) (fun (r : (D.aa4 × Bool))=>[.o (.ptr 110 (ah2 r.1)),.x]) (fun (r : (D.aa4 × Bool))=>[.r (.bool r.2)]):=⟨fun r h=>cc5 (b:=K.o7) rfl hc.o7 rfl rfl rfl (fun L S0 F args=>by
  unfold o7 at h
  dsimp only [insE,insH,rvO,rvP,rvE,isOb,List.map,List.cons_append,List.nil_append,List.append_nil]
  repeat' first
   | (refine ag6 ?_; first
     | refine am3 rfl ?_
     | refine bR5 rfl (fun hb=>by repeat first | exact trivial | refine ⟨hb,?_⟩ | refine ⟨trivial,?_⟩ | refine ⟨andL hb,?_⟩ | refine ⟨andL (andL hb),?_⟩) rfl ?_
     | refine aq7 (t_ll rfl) ?_
     | refine aq7 (cl5 rfl rfl) ?_
     | refine aq7 (t_ta rfl) ?_
     | refine au6 ?_
     | refine bv8 rfl ?_
     | refine bn4 rfl rfl rfl rfl ?_
     | refine v_st rfl rfl rfl rfl rfl rfl rfl ?_
     | refine bc4 rfl rfl rfl rfl rfl ?_
     | (refine cr0 _ h rfl (fun hb=>by repeat first | exact trivial | refine ⟨hb,?_⟩ | refine ⟨trivial,?_⟩ | refine ⟨andL hb,?_⟩ | refine ⟨andL (andL hb),?_⟩) (fun _ e _=>aq0 e rfl) ?_; intro _ h))
   | (refine ag7 ?_; first
     | refine av1 ?_
     | refine au8 ?_
     | refine bu9 ?_
     | refine as8 ?_
     | refine au5 ?_
     | refine av3 ?_
     | (refine aw5 h rfl ?_ ?_ <;> intro _ h))
   | (refine ag4 ?_; first
     | refine au7 ?_
     | refine ax0 ?_
     | refine aD4 ?_
     | refine aI8 ?_
     | (obtain rfl:=Option.some.inj h; first |  exact am1 rfl rfl rfl rfl | exact ai5 rfl | refine an0 rfl rfl rfl ?_ | refine an1 rfl rfl ?_ | refine an2 rfl rfl rfl ?_ | refine am8 rfl rfl ?_ | refine am7 (by repeat first | exact trivial | refine ⟨rfl,?_⟩) rfl | refine am9 (by repeat first | exact trivial | refine ⟨rfl,?_⟩) rfl | (refine av5 fun h=>?_; try dsimp only at h)))
   | (cases h; done)),rfl,fun _=>⟨rfl,rfl⟩⟩
theorem aV6 {P : Program} [hc : ab5 P] (fu : Nat) (rec_tree_looker_right : D.aa4 → D.l9 → Option (D.aa4 × Bool)) [hr_tree_looker_right : ∀ (a0 : D.aa4) (a1 : D.l9),aB5 P F.y5 [.o (.ptr 110 (ah2 a0)),.r (.v (y8 a1))] (rec_tree_looker_right a0 a1) (fun (r : (D.aa4 × Bool))=>[.o (.ptr 110 (ah2 r.1)),.x]) (fun (r : (D.aa4 × Bool))=>[.r (.bool r.2)])] (a0 : D.aa4) (a1 : D.l9) : aB5 P F.y5 [.o (.ptr 110 (ah2 a0)),.r (.v (y8 a1))] (ad2 fu rec_tree_looker_right a0 a1) (fun (r : (D.aa4 × Bool))=>[.o (.ptr 110 (ah2 r.1)),.x]) (fun (r : (D.aa4 × Bool))=>[.r (.bool r.2)]):=⟨fun r h=>cc5 (b:=K.y5) rfl hc.y5 rfl rfl rfl (fun L S0 F args=>by
  unfold ad2 at h
  dsimp only [insE,insH,rvO,rvP,rvE,isOb,List.map,List.cons_append,List.nil_append,List.append_nil]
  repeat' first
   | (refine ag6 ?_; first
     | refine am3 rfl ?_
     | refine aq7 (t_ll rfl) ?_
     | refine aq7 (t_ta rfl) ?_
     | refine au6 ?_
     | refine bv8 rfl ?_
     | refine bn4 rfl rfl rfl rfl ?_
     | refine v_st rfl rfl rfl rfl rfl rfl rfl ?_
     | refine bc4 rfl rfl rfl rfl rfl ?_
     | refine bv7 rfl rfl rfl ?_
     | (refine aq4 _ h (fun _ e=>aq0 e rfl) ?_; intro _ _ h)
     | (refine aq4 _ h (fun _ e=>t_ia e rfl rfl) ?_; intro _ _ h)
     | (refine bt6 h rfl rfl rfl ?_; intro _ _ h)
     | (refine cI1 h rfl rfl rfl (by first | exact .v rfl | exact .s rfl | exact .n rfl rfl | exact .k rfl rfl | exact .l rfl rfl) rfl rfl rfl ?_; intro _ _ h))
   | (refine ag7 ?_; first
     | refine av1 ?_
     | refine au8 ?_
     | refine bu9 ?_
     | refine as8 ?_
     | refine au5 ?_
     | refine aT4 ?_
     | refine av3 ?_
     | (refine aD5 h rfl ?_ ?_ <;> intro _ h)
     | (refine aw5 h rfl ?_ ?_ <;> intro _ h)
     | (refine aD2 h (by repeat first | exact trivial | refine ⟨rfl,?_⟩) rfl ?_ ?_ <;> (repeat refine aD0 fun _=>?_) <;> first | (intro _ _ h; dsimp only [ai6,pinL] at h) | (intro _ h; try dsimp only at h)))
   | (refine ag4 ?_; first
     | refine au7 ?_
     | refine ax0 ?_
     | refine aS2 ?_
     | refine aD4 ?_
     | refine aI8 ?_
     | (obtain rfl:=Option.some.inj h; first |  exact am1 rfl rfl rfl rfl | exact ai5 rfl | refine an0 rfl rfl rfl ?_ | refine an1 rfl rfl ?_ | refine an2 rfl rfl rfl ?_ | refine am8 rfl rfl ?_ | refine am7 (by repeat first | exact trivial | refine ⟨rfl,?_⟩) rfl | refine am9 (by repeat first | exact trivial | refine ⟨rfl,?_⟩) rfl | (refine av5 fun h=>?_; try dsimp only at h)))
   | (cases h; done)),rfl,fun _=>⟨rfl,rfl⟩⟩
theorem aC3 {P : Program} [hc : ab5 P] : ∀ (fu : Nat) (a0 : D.aa4) (a1 : D.l9),aB5 P F.y5 [.o (.ptr 110 (ah2 a0)),.r (.v (y8 a1))] (y5 fu a0 a1) (fun (r : (D.aa4 × Bool))=>[.o (.ptr 110 (ah2 r.1)),.x]) (fun (r : (D.aa4 × Bool))=>[.r (.bool r.2)])
 | 0,a0,a1=>⟨fun r h=>(by have h : (none : Option _) = some r:=h; cases h),rfl,fun _=>⟨rfl,rfl⟩⟩
 | fu + 1,a0,a1=>aV6 fu (y5 fu) (hr_tree_looker_right:=aC3 fu) a0 a1
instance ok_tree_looker_right {P : Program} [hc : ab5 P] (fu : Nat) (a0 : D.aa4) (a1 : D.l9) : aB5 P F.y5 [.o (.ptr 110 (ah2 a0)),.r (.v (y8 a1))] (y5 fu a0 a1) (fun (r : (D.aa4 × Bool))=>[.o (.ptr 110 (ah2 r.1)),.x]) (fun (r : (D.aa4 × Bool))=>[.r (.bool r.2)]):=aC3 fu a0 a1
instance ok_tree_Right {P : Program} [hc : ab5 P] (fu : Nat) (a0 : D.l9) : CallsC P F.al8 [.v (y8 a0)] (al8 fu a0) (fun (r : Bool)=>[.bool r]):=⟨fun r h args ha=>aC6 (b:=K.al8) rfl hc.al8 (fun _=>rfl) rfl rfl (fun L=>by
  unfold al8 at h
  dsimp only [insE,insH,rvO,rvP,rvE,isOb,List.map,List.cons_append,List.nil_append,List.append_nil]
  repeat' first
   | (refine ag6 ?_; first
     | refine am3 rfl ?_
     | refine au6 ?_
     | refine bn5 rfl rfl rfl rfl rfl ?_
     | (refine bt6 h rfl rfl rfl ?_; intro _ _ h))
   | (refine ag7 ?_; first
     | refine av1 ?_
     | refine au8 ?_
     | refine av3 ?_)
   | (refine ag4 ?_; first
     | refine au7 ?_
     | (obtain rfl:=Option.some.inj h; first |  exact am1 rfl rfl rfl rfl | exact ai5 rfl | refine an0 rfl rfl rfl ?_ | refine an1 rfl rfl ?_ | refine an2 rfl rfl rfl ?_ | refine am8 rfl rfl ?_ | refine am7 (by repeat first | exact trivial | refine ⟨rfl,?_⟩) rfl | refine am9 (by repeat first | exact trivial | refine ⟨rfl,?_⟩) rfl | (refine av5 fun h=>?_; try dsimp only at h)))
   | (cases h; done)) ha,fun _=>rfl⟩
theorem bC2 {P : Program} [hc : ab5 P] (fu : Nat) (rec_tree_Groups : D.l9 → Option Int) [hr_tree_Groups : ∀ (a0 : D.l9),CallsC P F.ac9 [.v (y8 a0)] (rec_tree_Groups a0) (fun (r : Int)=>[.int .i64 r])] (a0 : D.l9) : CallsC P F.ac9 [.v (y8 a0)] (ah4 fu rec_tree_Groups a0) (fun (r : Int)=>[.int .i64 r]):=⟨fun r h args ha=>aC6 (b:=K.ac9) rfl hc.ac9 (fun _=>rfl) rfl rfl (fun L=>by
  unfold ah4 at h
  dsimp only [insE,insH,rvO,rvP,rvE,isOb,List.map,List.cons_append,List.nil_append,List.append_nil]
  repeat' first
   | (refine ag6 ?_; first
     | refine am3 rfl ?_
     | refine aq7 (t_ll rfl) ?_
     | refine aq7 (t_ta rfl) ?_
     | refine au6 ?_
     | refine v_st rfl rfl rfl rfl rfl rfl rfl ?_
     | refine bc4 rfl rfl rfl rfl rfl ?_
     | (refine aq4 _ h (fun _ e=>aq0 e rfl) ?_; intro _ _ h)
     | (refine aq4 _ h (fun _ e=>t_ia e rfl rfl) ?_; intro _ _ h))
   | (refine ag7 ?_; first
     | refine av1 ?_
     | refine au8 ?_
     | refine as8 ?_
     | refine au5 ?_
     | refine aT4 ?_
     | refine av3 ?_
     | (refine aD5 h rfl ?_ ?_ <;> intro _ h)
     | (refine aw5 h rfl ?_ ?_ <;> intro _ h)
     | (refine aD2 h (by repeat first | exact trivial | refine ⟨rfl,?_⟩) rfl ?_ ?_ <;> (repeat refine aD0 fun _=>?_) <;> first | (intro _ _ h; dsimp only [aI2,ar2,pinL] at h) | (intro _ h; try dsimp only at h)))
   | (refine ag4 ?_; first
     | refine au7 ?_
     | refine aS2 ?_
     | refine aD4 ?_
     | (obtain rfl:=Option.some.inj h; first |  exact am1 rfl rfl rfl rfl | exact ai5 rfl | refine an0 rfl rfl rfl ?_ | refine an1 rfl rfl ?_ | refine an2 rfl rfl rfl ?_ | refine am8 rfl rfl ?_ | refine am7 (by repeat first | exact trivial | refine ⟨rfl,?_⟩) rfl | refine am9 (by repeat first | exact trivial | refine ⟨rfl,?_⟩) rfl | (refine av5 fun h=>?_; try dsimp only at h)))
   | (cases h; done)) ha,fun _=>rfl⟩
theorem aR4 {P : Program} [hc : ab5 P] : ∀ (fu : Nat) (a0 : D.l9),CallsC P F.ac9 [.v (y8 a0)] (ac9 fu a0) (fun (r : Int)=>[.int .i64 r])
 | 0,a0=>⟨fun r h=>(by have h : (none : Option _) = some r:=h; cases h),fun _=>rfl⟩
 | fu + 1,a0=>bC2 fu (ac9 fu) (hr_tree_Groups:=aR4 fu) a0
instance ok_tree_Groups {P : Program} [hc : ab5 P] (fu : Nat) (a0 : D.l9) : CallsC P F.ac9 [.v (y8 a0)] (ac9 fu a0) (fun (r : Int)=>[.int .i64 r]):=aR4 fu a0
open Go.RowKit
set_option maxHeartbeats 1000000
set_option maxRecDepth 100000
instance ok_code_builder_put {P : Program} [hc : ab5 P] (a0 : D.aa2) (a1 : D.ac0) : aB5 P F.aa6 [.o (.ptr 69 (ag0 a0)),.r (.agg (ap7 a1))] (aa6 a0 a1) (fun (r : (D.aa2 × Int))=>[.o (.ptr 69 (ag0 r.1)),.x]) (fun (r : (D.aa2 × Int))=>[.r (.int .i64 r.2)]):=⟨fun r h=>cc5 (b:=K.aa6) rfl hc.aa6 rfl rfl rfl (fun L S0 F args=>by
  unfold aa6 at h
  dsimp only [insE,insH,rvO,rvP,rvE,isOb,List.map,List.cons_append,List.nil_append,List.append_nil]
  repeat' first
   | (refine ag6 ?_; first
     | refine am3 rfl ?_
     | refine aq7 (t_llK rfl rfl) ?_
     | refine au6 ?_
     | refine bv8 rfl ?_
     | refine bn4 rfl rfl rfl rfl ?_
     | refine v_st rfl rfl rfl rfl rfl rfl rfl ?_
     | refine bn5 rfl rfl rfl rfl rfl ?_
     | refine bv7 rfl rfl rfl ?_
     | (refine cI1 h rfl rfl rfl (by first | exact .v rfl | exact .s rfl | exact .n rfl rfl | exact .k rfl rfl | exact .l rfl rfl) rfl rfl rfl ?_; intro _ _ h))
   | (refine ag7 ?_; first
     | refine av1 ?_
     | refine au8 ?_
     | refine bu9 ?_
     | refine au5 ?_
     | refine av3 ?_
     | (refine aD5 h rfl ?_ ?_ <;> intro _ h))
   | (refine ag4 ?_; first
     | refine au7 ?_
     | refine ax0 ?_
     | (obtain rfl:=Option.some.inj h; first |  exact am1 rfl rfl rfl rfl | exact ai5 rfl | refine an0 rfl rfl rfl ?_ | refine an1 rfl rfl ?_ | refine an2 rfl rfl rfl ?_ | refine am8 rfl rfl ?_ | refine am7 (by repeat first | exact trivial | refine ⟨rfl,?_⟩) rfl | refine am9 (by repeat first | exact trivial | refine ⟨rfl,?_⟩) rfl | (refine av5 fun h=>?_; try dsimp only at h)))
   | (cases h; done)),rfl,fun _=>⟨rfl,rfl⟩⟩
theorem aS8 {P : Program} [hc : ab5 P] (fu : Nat) (rec_code_builder_node : D.aa2 → D.l9 → Option D.aa2) [hr_code_builder_node : ∀ (a0 : D.aa2) (a1 : D.l9),aB5 P F.o6 [.o (.ptr 69 (ag0 a0)),.r (.v (y8 a1))] (rec_code_builder_node a0 a1) (fun (r : D.aa2)=>[.o (.ptr 69 (ag0 r)),.x]) (fun (r : D.aa2)=>[])] (a0 : D.aa2) (a1 : D.l9) : aB5 P F.o6 [.o (.ptr 69 (ag0 a0)),.r (.v (y8 a1))] (ae3 fu rec_code_builder_node a0 a1) (fun (r : D.aa2)=>[.o (.ptr 69 (ag0 r)),.x]) (fun (r : D.aa2)=>[]):=⟨fun r h=>cc5 (b:=K.o6) rfl hc.o6 rfl rfl rfl (fun L S0 F args=>by
  unfold ae3 at h
  dsimp only [insE,insH,rvO,rvP,rvE,isOb,List.map,List.cons_append,List.nil_append,List.append_nil]
  repeat' first
   | (refine ag6 ?_; first
     | refine am3 rfl ?_
     | refine aq7 (t_ll rfl) ?_
     | refine aq7 (t_ta rfl) ?_
     | refine au6 ?_
     | refine bn4 rfl rfl rfl rfl ?_
     | refine v_st rfl rfl rfl rfl rfl rfl rfl ?_
     | refine bc4 rfl rfl rfl rfl rfl ?_
     | (refine aq4 _ h (fun _ e=>t_ia e rfl rfl) ?_; intro _ _ h)
     | (refine bt6 h rfl rfl rfl ?_; intro _ _ h))
   | (refine ag7 ?_; first
     | refine av1 ?_
     | refine au8 ?_
     | refine as8 ?_
     | refine au5 ?_
     | refine aT4 ?_
     | refine av3 ?_
     | (refine aD5 h rfl ?_ ?_ <;> intro _ h)
     | (refine aw5 h rfl ?_ ?_ <;> intro _ h)
     | (refine aD2 h (by repeat first | exact trivial | refine ⟨rfl,?_⟩) rfl ?_ ?_ <;> (repeat refine aD0 fun _=>?_) <;> first | (intro _ _ h; dsimp only [ai7,pinL] at h) | (intro _ h; try dsimp only at h)))
   | (refine ag4 ?_; first
     | refine au7 ?_
     | refine ax0 ?_
     | refine aS2 ?_
     | refine aD4 ?_
     | (obtain rfl:=Option.some.inj h; first |  exact am1 rfl rfl rfl rfl | exact ai5 rfl | refine an0 rfl rfl rfl ?_ | refine an1 rfl rfl ?_ | refine an2 rfl rfl rfl ?_ | refine am8 rfl rfl ?_ | refine am7 (by repeat first | exact trivial | refine ⟨rfl,?_⟩) rfl | refine am9 (by repeat first | exact trivial | refine ⟨rfl,?_⟩) rfl | (refine av5 fun h=>?_; try dsimp only at h)))
   | (cases h; done)),rfl,fun _=>⟨rfl,rfl⟩⟩
theorem aC1 {P : Program} [hc : ab5 P] : ∀ (fu : Nat) (a0 : D.aa2) (a1 : D.l9),aB5 P F.o6 [.o (.ptr 69 (ag0 a0)),.r (.v (y8 a1))] (o6 fu a0 a1) (fun (r : D.aa2)=>[.o (.ptr 69 (ag0 r)),.x]) (fun (r : D.aa2)=>[])
 | 0,a0,a1=>⟨fun r h=>(by have h : (none : Option _) = some r:=h; cases h),rfl,fun _=>⟨rfl,rfl⟩⟩
 | fu + 1,a0,a1=>aS8 fu (o6 fu) (hr_code_builder_node:=aC1 fu) a0 a1
instance ok_code_builder_node {P : Program} [hc : ab5 P] (fu : Nat) (a0 : D.aa2) (a1 : D.l9) : aB5 P F.o6 [.o (.ptr 69 (ag0 a0)),.r (.v (y8 a1))] (o6 fu a0 a1) (fun (r : D.aa2)=>[.o (.ptr 69 (ag0 r)),.x]) (fun (r : D.aa2)=>[]):=aC1 fu a0 a1
instance ok_code_Compile {P : Program} [hc : ab5 P] (fu : Nat) (a0 : D.l9) : CallsC P F.ag8 [.v (y8 a0)] (ag8 fu a0) (fun (r : (D.ac3 × Int))=>[.agg (aA9 r.1),.int .i64 r.2]):=⟨fun r h args ha=>aC6 (b:=K.ag8) rfl hc.ag8 (fun _=>rfl) rfl rfl (fun L=>by
  unfold ag8 at h
  dsimp only [insE,insH,rvO,rvP,rvE,isOb,List.map,List.cons_append,List.nil_append,List.append_nil]
  repeat' first
   | (refine ag6 ?_; first
     | refine am3 rfl ?_
     | refine au6 ?_
     | refine bn4 rfl rfl rfl rfl ?_
     | refine v_st rfl rfl rfl rfl rfl rfl rfl ?_
     | refine bc4 rfl rfl rfl rfl rfl ?_
     | refine bn5 rfl rfl rfl rfl rfl ?_
     | (refine aq4 _ h (fun _ e=>aq0 e rfl) ?_; intro _ _ h)
     | (refine bt6 h rfl rfl rfl ?_; intro _ _ h))
   | (refine ag7 ?_; first
     | refine av1 ?_
     | refine au8 ?_
     | refine au5 ?_
     | refine av3 ?_
     | (refine aw5 h rfl ?_ ?_ <;> intro _ h))
   | (refine ag4 ?_; first
     | refine au7 ?_
     | refine ax0 ?_
     | (obtain rfl:=Option.some.inj h; first |  exact am1 rfl rfl rfl rfl | exact ai5 rfl | refine an0 rfl rfl rfl ?_ | refine an1 rfl rfl ?_ | refine an2 rfl rfl rfl ?_ | refine am8 rfl rfl ?_ | refine am7 (by repeat first | exact trivial | refine ⟨rfl,?_⟩) rfl | refine am9 (by repeat first | exact trivial | refine ⟨rfl,?_⟩) rfl | (refine av5 fun h=>?_; try dsimp only at h)))
   | (cases h; done)) ha,fun _=>rfl⟩
instance ok_code_Program_Copy {P : Program} [hc : ab5 P] (a0 : D.ac3) : CallsC P F.ac6 [.agg (aA9 a0)] (ac6 a0) (fun (r : D.ac3)=>[.agg (aA9 r)]):=⟨fun r h args ha=>aC6 (b:=K.ac6) rfl hc.ac6 (fun _=>rfl) rfl rfl (fun L=>by
  unfold ac6 at h
  dsimp only [insE,insH,rvO,rvP,rvE,isOb,List.map,List.cons_append,List.nil_append,List.append_nil]
  repeat' first
   | (refine ag6 ?_; first
     | refine am3 rfl ?_
     | refine au6 ?_
     | refine v_st rfl rfl rfl rfl rfl rfl rfl ?_
     | refine bc4 rfl rfl rfl rfl rfl ?_
     | refine bn5 rfl rfl rfl rfl rfl ?_
     | (refine aq4 _ h (fun _ e=>aq0 e rfl) ?_; intro _ _ h))
   | (refine ag7 ?_; first
     | refine av1 ?_
     | refine au8 ?_
     | refine av3 ?_)
   | (refine ag4 ?_; first
     | refine au7 ?_
     | (obtain rfl:=Option.some.inj h; first |  exact am1 rfl rfl rfl rfl | exact ai5 rfl | refine an0 rfl rfl rfl ?_ | refine an1 rfl rfl ?_ | refine an2 rfl rfl rfl ?_ | refine am8 rfl rfl ?_ | refine am7 (by repeat first | exact trivial | refine ⟨rfl,?_⟩) rfl | refine am9 (by repeat first | exact trivial | refine ⟨rfl,?_⟩) rfl | (refine av5 fun h=>?_; try dsimp only at h)))
   | (cases h; done)) ha,fun _=>rfl⟩
open Go.RowKit
set_option maxHeartbeats 1000000
set_option maxRecDepth 100000
instance ok_ref01_With {P : Program} [hc : ab5 P] (a0 : A4) (a1 : Int) : CallsC P F.al4 [.agg ((c_A4 .u64) a0),.int .u8 a1] (al4 a0 a1) (fun (r : A4)=>[.agg ((c_A4 .u64) r)]):=⟨fun r h args ha=>aC6 (b:=K.al4) rfl hc.al4 (fun _=>rfl) rfl rfl (fun L=>by
  unfold al4 at h
  dsimp only [insE,insH,rvO,rvP,rvE,isOb,List.map,List.cons_append,List.nil_append,List.append_nil]
  repeat' first
   | (refine ag6 ?_; first
     | refine am3 rfl ?_
     | refine aq7 (t_ldA rfl rfl rfl rfl rfl rfl (by assumption)) ?_
     | refine v_stA rfl rfl rfl rfl rfl rfl rfl (by assumption) ?_
     | (refine aq4 _ h (fun _ e=>t_iaa e rfl rfl) ?_; intro _ _ h)
     | refine au6 ?_
     | refine v_st rfl rfl rfl rfl rfl rfl rfl ?_
     | refine bc4 rfl rfl rfl rfl rfl ?_
     | refine bn5 rfl rfl rfl rfl rfl ?_
     | (refine aq4 _ h (fun _ e=>t_shl e rfl rfl) ?_; intro _ _ h))
   | (refine ag7 ?_; first
     | refine av1 ?_
     | refine au8 ?_
     | refine av3 ?_)
   | (refine ag4 ?_; first
     | refine au7 ?_
     | (obtain rfl:=Option.some.inj h; first |  exact am1 rfl rfl rfl rfl | exact ai5 rfl | refine an0 rfl rfl rfl ?_ | refine an1 rfl rfl ?_ | refine an2 rfl rfl rfl ?_ | refine am8 rfl rfl ?_ | refine am7 (by repeat first | exact trivial | refine ⟨rfl,?_⟩) rfl | refine am9 (by repeat first | exact trivial | refine ⟨rfl,?_⟩) rfl | (refine av5 fun h=>?_; try dsimp only at h)))
   | (cases h; done)) ha,fun _=>rfl⟩
instance ok_ref01_Span {P : Program} [hc : ab5 P] (a0 : Int) (a1 : Int) : CallsC P F.al7 [.int .u8 a0,.int .u8 a1] (al7 a0 a1) (fun (r : A4)=>[.agg ((c_A4 .u64) r)]):=⟨fun r h args ha=>aC6 (b:=K.al7) rfl hc.al7 (fun _=>rfl) rfl rfl (fun L=>by
  unfold al7 at h
  dsimp only [insE,insH,rvO,rvP,rvE,isOb,List.map,List.cons_append,List.nil_append,List.append_nil]
  repeat' first
   | (refine ag6 ?_; first
     | refine am3 rfl ?_
     | refine au6 ?_
     | refine v_st rfl rfl rfl rfl rfl rfl rfl ?_
     | refine bc4 rfl rfl rfl rfl rfl ?_
     | (refine aq4 _ h (fun _ e=>aq0 e rfl) ?_; intro _ _ h))
   | (refine ag7 ?_; first
     | refine av1 ?_
     | refine au8 ?_
     | refine as8 ?_
     | refine au5 ?_
     | refine aT4 ?_
     | refine av3 ?_
     | (refine aD5 h rfl ?_ ?_ <;> intro _ h)
     | (refine aD2 h (by repeat first | exact trivial | refine ⟨rfl,?_⟩) rfl ?_ ?_ <;> (repeat refine aD0 fun _=>?_) <;> first | (intro _ _ h; dsimp only [ay7,pinL] at h) | (intro _ h; try dsimp only at h)))
   | (refine ag4 ?_; first
     | refine au7 ?_
     | refine aS2 ?_
     | refine aD4 ?_
     | (obtain rfl:=Option.some.inj h; first |  exact am1 rfl rfl rfl rfl | exact ai5 rfl | refine an0 rfl rfl rfl ?_ | refine an1 rfl rfl ?_ | refine an2 rfl rfl rfl ?_ | refine am8 rfl rfl ?_ | refine am7 (by repeat first | exact trivial | refine ⟨rfl,?_⟩) rfl | refine am9 (by repeat first | exact trivial | refine ⟨rfl,?_⟩) rfl | (refine av5 fun h=>?_; try dsimp only at h)))
   | (cases h; done)) ha,fun _=>rfl⟩
open Go.RowKit
set_option maxHeartbeats 1000000
set_option maxRecDepth 100000
instance ok_ref03_Byte {P : Program} [hc : ab5 P] (a0 : Int) : CallsC P F.al9 [.int .u8 a0] (al9 a0) (fun (r : D.aa5)=>[.agg [.int .i64 r.Kind,.int .u64 r.Set.x0,.int .u64 r.Set.x1,.int .u64 r.Set.x2,.int .u64 r.Set.x3,.sl 9 (List.map ad4 r.Parts),.int .i64 r.Min,.int .i64 r.Max,.int .i64 r.Number]]):=⟨fun r h args ha=>aC6 (b:=K.al9) rfl hc.al9 (fun _=>rfl) rfl rfl (fun L=>by
  unfold al9 at h
  dsimp only [insE,insH,rvO,rvP,rvE,isOb,List.map,List.cons_append,List.nil_append,List.append_nil]
  repeat' first
   | (refine ag6 ?_; first
     | refine am3 rfl ?_
     | refine au6 ?_
     | refine v_st rfl rfl rfl rfl rfl rfl rfl ?_
     | refine bc4 rfl rfl rfl rfl rfl ?_
     | (refine aq4 _ h (fun _ e=>aq0 e rfl) ?_; intro _ _ h))
   | (refine ag7 ?_; first
     | refine av1 ?_
     | refine au8 ?_
     | refine av3 ?_)
   | (refine ag4 ?_; first
     | refine au7 ?_
     | (obtain rfl:=Option.some.inj h; first |  exact am1 rfl rfl rfl rfl | exact ai5 rfl | exact ai5 (by simp only [al1,List.map_cons,List.map_nil]; rfl) | refine an0 rfl rfl rfl ?_ | refine an1 rfl rfl ?_ | refine an2 rfl rfl rfl ?_ | refine am8 rfl rfl ?_ | refine am7 (by repeat first | exact trivial | refine ⟨rfl,?_⟩) rfl | refine am9 (by repeat first | exact trivial | refine ⟨rfl,?_⟩) rfl | (refine av5 fun h=>?_; try dsimp only at h)))
   | (cases h; done)) ha,fun _=>rfl⟩
instance ok_ref03_Of {P : Program} [hc : ab5 P] (a0 : D.aa5) : CallsC P F.aq8 [.agg [.int .i64 a0.Kind,.int .u64 a0.Set.x0,.int .u64 a0.Set.x1,.int .u64 a0.Set.x2,.int .u64 a0.Set.x3,.sl 9 (List.map ad4 a0.Parts),.int .i64 a0.Min,.int .i64 a0.Max,.int .i64 a0.Number]] (aq8 a0) (fun (r : D.aa5)=>[.agg [.int .i64 r.Kind,.int .u64 r.Set.x0,.int .u64 r.Set.x1,.int .u64 r.Set.x2,.int .u64 r.Set.x3,.sl 9 (List.map ad4 r.Parts),.int .i64 r.Min,.int .i64 r.Max,.int .i64 r.Number]]):=⟨fun r h args ha=>aC6 (b:=K.aq8) rfl hc.aq8 (fun _=>rfl) rfl rfl (fun L=>by
  unfold aq8 at h
  dsimp only [insE,insH,rvO,rvP,rvE,isOb,List.map,List.cons_append,List.nil_append,List.append_nil]
  repeat' first
   | (refine ag6 ?_; first
     | refine cF7 rfl rfl ?_
     | refine am3 rfl ?_
     | refine aq7 (t_ll rfl) ?_
     | refine au6 ?_
     | refine v_st rfl rfl rfl rfl rfl rfl rfl ?_
     | refine bc4 rfl rfl rfl rfl rfl ?_
     | refine bn5 rfl rfl rfl rfl rfl ?_
     | (refine aq4 _ h (fun _ e=>t_ia e rfl rfl) ?_; intro _ _ h))
   | (refine ag7 ?_; first
     | refine av1 ?_
     | refine au8 ?_
     | refine au5 ?_
     | refine av3 ?_
     | (refine aD5 h rfl ?_ ?_ <;> intro _ h))
   | (refine ag4 ?_; first
     | refine au7 ?_
     | refine ax0 ?_
     | (obtain rfl:=Option.some.inj h; first |  exact am1 rfl rfl rfl rfl | exact ai5 rfl | exact ai5 (by simp only [al1,List.map_cons,List.map_nil]; rfl) | refine an0 rfl rfl rfl ?_ | refine an1 rfl rfl ?_ | refine an2 rfl rfl rfl ?_ | refine am8 rfl rfl ?_ | refine am7 (by repeat first | exact trivial | refine ⟨rfl,?_⟩) rfl | refine am9 (by repeat first | exact trivial | refine ⟨rfl,?_⟩) rfl | (refine av5 fun h=>?_; try dsimp only at h)))
   | (cases h; done)) ha,fun _=>rfl⟩
instance ok_ref03_Kids {P : Program} [hc : ab5 P] (a0 : D.aa5) : CallsC P F.ak8 [.agg [.int .i64 a0.Kind,.int .u64 a0.Set.x0,.int .u64 a0.Set.x1,.int .u64 a0.Set.x2,.int .u64 a0.Set.x3,.sl 9 (List.map ad4 a0.Parts),.int .i64 a0.Min,.int .i64 a0.Max,.int .i64 a0.Number]] (ak8 a0) (fun (r : (List D.aa5))=>[.sl 9 (r.map ad4)]):=⟨fun r h args ha=>aC6 (b:=K.ak8) rfl hc.ak8 (fun _=>rfl) rfl rfl (fun L=>by
  unfold ak8 at h
  dsimp only [insE,insH,rvO,rvP,rvE,isOb,List.map,List.cons_append,List.nil_append,List.append_nil]
  repeat' first
   | (refine ag6 ?_; first
     | refine am3 rfl ?_
     | refine au6 ?_
     | refine bn5 rfl rfl rfl rfl rfl ?_
     | refine bv7 rfl rfl rfl ?_
     | (refine aq4 _ h (fun _ e=>aq0 e rfl) ?_; intro _ _ h))
   | (refine ag7 ?_; first
     | refine av1 ?_
     | refine au8 ?_
     | refine as8 ?_
     | refine au5 ?_
     | refine av3 ?_
     | (refine aD5 h rfl ?_ ?_ <;> intro _ h))
   | (refine ag4 ?_; first
     | refine au7 ?_
     | refine ax0 ?_
     | refine aD4 ?_
     | refine aI8 ?_
     | (obtain rfl:=Option.some.inj h; first |  exact am1 rfl rfl rfl rfl | exact ai5 rfl | exact ai5 (by simp only [al1,List.map_cons,List.map_nil]; rfl) | refine an0 rfl rfl rfl ?_ | refine an1 rfl rfl ?_ | refine an2 rfl rfl rfl ?_ | refine am8 rfl rfl ?_ | refine am7 (by repeat first | exact trivial | refine ⟨rfl,?_⟩) rfl | refine am9 (by repeat first | exact trivial | refine ⟨rfl,?_⟩) rfl | (refine av5 fun h=>?_; try dsimp only at h)))
   | (cases h; done)) ha,fun _=>rfl⟩
instance ok_ref03_Join {P : Program} [hc : ab5 P] (a0 : (List D.aa5)) : CallsC P F.ae1 [.sl 9 (a0.map ad4)] (ae1 a0) (fun (r : D.aa5)=>[.agg [.int .i64 r.Kind,.int .u64 r.Set.x0,.int .u64 r.Set.x1,.int .u64 r.Set.x2,.int .u64 r.Set.x3,.sl 9 (List.map ad4 r.Parts),.int .i64 r.Min,.int .i64 r.Max,.int .i64 r.Number]]):=⟨fun r h args ha=>aC6 (b:=K.ae1) rfl hc.ae1 (fun _=>rfl) rfl rfl (fun L=>by
  unfold ae1 at h
  dsimp only [insE,insH,rvO,rvP,rvE,isOb,List.map,List.cons_append,List.nil_append,List.append_nil]
  repeat' first
   | (refine ag6 ?_; first
     | refine cF7 rfl rfl ?_
     | refine am3 rfl ?_
     | refine aq7 (t_ll rfl) ?_
     | refine aq7 (t_llK rfl rfl) ?_
     | refine au6 ?_
     | refine v_st rfl rfl rfl rfl rfl rfl rfl ?_
     | refine bc4 rfl rfl rfl rfl rfl ?_
     | refine bv7 rfl rfl rfl ?_
     | (refine aq4 _ h (fun _ e=>t_ia e rfl rfl) ?_; intro _ _ h)
     | (refine aq4 _ h (fun _ e=>t_iaK e rfl rfl rfl) ?_; intro _ _ h)
     | (refine cI1 h rfl rfl rfl (by first | exact .v rfl | exact .s rfl | exact .n rfl rfl | exact .k rfl rfl | exact .k rfl (by simp only [al1,List.map_cons,List.map_nil]; rfl) | exact .l rfl rfl) rfl rfl rfl ?_; intro _ _ h))
   | (refine ag7 ?_; first
     | refine av1 ?_
     | refine au8 ?_
     | refine as8 ?_
     | refine au5 ?_
     | refine aT4 ?_
     | refine av3 ?_
     | refine cd9 h rfl rfl rfl ?_
     | (refine aD5 h rfl ?_ ?_ <;> intro _ h)
     | (refine aD2 h (by repeat first | exact trivial | refine ⟨rfl,?_⟩) rfl ?_ ?_ <;> (repeat refine aD0 fun _=>?_) <;> first | (intro _ _ h; dsimp only [au1,pinL] at h) | (intro _ h; try dsimp only at h)))
   | (refine ag4 ?_; first
     | refine au7 ?_
     | refine ax0 ?_
     | refine aS2 ?_
     | refine aD4 ?_
     | (obtain rfl:=Option.some.inj h; first |  exact am1 rfl rfl rfl rfl | exact ai5 rfl | exact ai5 (by simp only [al1,List.map_cons,List.map_nil]; rfl) | refine an0 rfl rfl rfl ?_ | refine an1 rfl rfl ?_ | refine an2 rfl rfl rfl ?_ | refine am8 rfl rfl ?_ | refine am7 (by repeat first | exact trivial | refine ⟨rfl,?_⟩) rfl | refine am9 (by repeat first | exact trivial | refine ⟨rfl,?_⟩) rfl | (refine av5 fun h=>?_; try dsimp only at h)))
   | (cases h; done)) ha,fun _=>rfl⟩
open Go.RowKit
set_option maxHeartbeats 1000000
set_option maxRecDepth 100000
theorem bK4 {P : Program} [hc : ab5 P] (fu : Nat) (rec_law03_Real : D.aa5 → Option D.l9) [hr_law03_Real : ∀ (a0 : D.aa5),CallsC P F.aa9 [.agg [.int .i64 a0.Kind,.int .u64 a0.Set.x0,.int .u64 a0.Set.x1,.int .u64 a0.Set.x2,.int .u64 a0.Set.x3,.sl 9 (List.map ad4 a0.Parts),.int .i64 a0.Min,.int .i64 a0.Max,.int .i64 a0.Number]] (rec_law03_Real a0) (fun (r : D.l9)=>[.v (y8 r)])] (a0 : D.aa5) : CallsC P F.aa9 [.agg [.int .i64 a0.Kind,.int .u64 a0.Set.x0,.int .u64 a0.Set.x1,.int .u64 a0.Set.x2,.int .u64 a0.Set.x3,.sl 9 (List.map ad4 a0.Parts),.int .i64 a0.Min,.int .i64 a0.Max,.int .i64 a0.Number]] (ai2 fu rec_law03_Real a0) (fun (r : D.l9)=>[.v (y8 r)]):=⟨fun r h args ha=>aC6 (b:=K.aa9) rfl hc.aa9 (fun _=>rfl) rfl rfl (fun L=>by
  unfold ai2 at h
  dsimp only [insE,insH,rvO,rvP,rvE,isOb,List.map,List.cons_append,List.nil_append,List.append_nil]
  repeat' first
   | (refine ag6 ?_; first
     | refine cF7 rfl rfl ?_
     | refine aq7 (t_miK rfl rfl) ?_
     | refine am3 rfl ?_
     | refine aq7 (t_ll rfl) ?_
     | refine au6 ?_
     | refine bv8 rfl ?_
     | refine v_st rfl rfl rfl rfl rfl rfl rfl ?_
     | refine bc4 rfl rfl rfl rfl rfl ?_
     | refine bn5 rfl rfl rfl rfl rfl ?_
     | refine bv7 rfl rfl rfl ?_
     | (refine aq4 _ h (fun _ e=>aq0 e rfl) ?_; intro _ _ h)
     | (refine aq4 _ h (fun _ e=>t_ia e rfl rfl) ?_; intro _ _ h)
     | (refine aq4 _ h (fun _ e=>t_iaK e rfl rfl rfl) ?_; intro _ _ h)
     | (refine cI1 h rfl rfl rfl (by first | exact .v rfl | exact .s rfl | exact .n rfl rfl | exact .k rfl rfl | exact .k rfl (by simp only [al1,List.map_cons,List.map_nil]; rfl) | exact .l rfl rfl) rfl rfl rfl ?_; intro _ _ h))
   | (refine ag7 ?_; first
     | refine av1 ?_
     | refine au8 ?_
     | refine bu9 ?_
     | refine as8 ?_
     | refine au5 ?_
     | refine aT4 ?_
     | refine av3 ?_
     | refine cd9 h rfl rfl rfl ?_
     | (refine aD5 h rfl ?_ ?_ <;> intro _ h)
     | (refine aD2 h (by repeat first | exact trivial | refine ⟨rfl,?_⟩) rfl ?_ ?_ <;> (repeat refine aD0 fun _=>?_) <;> first | (intro _ _ h; dsimp only [au3,pinL] at h) | (intro _ h; try dsimp only at h)))
   | (refine ag4 ?_; first
     | refine au7 ?_
     | refine ax0 ?_
     | refine aS2 ?_
     | refine aD4 ?_
     | refine aI8 ?_
     | (obtain rfl:=Option.some.inj h; first |  exact am1 rfl rfl rfl rfl | exact ai5 rfl | exact ai5 (by simp only [al1,List.map_cons,List.map_nil]; rfl) | refine an0 rfl rfl rfl ?_ | refine an1 rfl rfl ?_ | refine an2 rfl rfl rfl ?_ | refine am8 rfl rfl ?_ | refine am7 (by repeat first | exact trivial | refine ⟨rfl,?_⟩) rfl | refine am9 (by repeat first | exact trivial | refine ⟨rfl,?_⟩) rfl | (refine av5 fun h=>?_; try dsimp only at h)))
   | (cases h; done)) ha,fun _=>rfl⟩
theorem bh6 {P : Program} [hc : ab5 P] : ∀ (fu : Nat) (a0 : D.aa5),CallsC P F.aa9 [.agg [.int .i64 a0.Kind,.int .u64 a0.Set.x0,.int .u64 a0.Set.x1,.int .u64 a0.Set.x2,.int .u64 a0.Set.x3,.sl 9 (List.map ad4 a0.Parts),.int .i64 a0.Min,.int .i64 a0.Max,.int .i64 a0.Number]] (aa9 fu a0) (fun (r : D.l9)=>[.v (y8 r)])
 | 0,a0=>⟨fun r h=>(by have h : (none : Option _) = some r:=h; cases h),fun _=>rfl⟩
 | fu + 1,a0=>bK4 fu (aa9 fu) (hr_law03_Real:=bh6 fu) a0
instance ok_law03_Real {P : Program} [hc : ab5 P] (fu : Nat) (a0 : D.aa5) : CallsC P F.aa9 [.agg [.int .i64 a0.Kind,.int .u64 a0.Set.x0,.int .u64 a0.Set.x1,.int .u64 a0.Set.x2,.int .u64 a0.Set.x3,.sl 9 (List.map ad4 a0.Parts),.int .i64 a0.Min,.int .i64 a0.Max,.int .i64 a0.Number]] (aa9 fu a0) (fun (r : D.l9)=>[.v (y8 r)]):=bh6 fu a0
open Go.RowKit
set_option maxHeartbeats 1000000
set_option maxRecDepth 100000
instance ok_octet_Set_Has {P : Program} [hc : ab5 P] (a0 : A4) (a1 : Int) : CallsC P F.af7 [.agg ((c_A4 .u64) a0),.int .u8 a1] (af7 a0 a1) (fun (r : Bool)=>[.bool r]):=⟨fun r h args ha=>aC6 (b:=K.af7) rfl hc.af7 (fun _=>rfl) rfl rfl (fun L=>by
  unfold af7 at h
  dsimp only [insE,insH,rvO,rvP,rvE,isOb,List.map,List.cons_append,List.nil_append,List.append_nil]
  repeat' first
   | (refine ag6 ?_; first
     | refine am3 rfl ?_
     | refine aq7 (t_ldA rfl rfl rfl rfl rfl rfl (by assumption)) ?_
     | (refine aq4 _ h (fun _ e=>t_iaa e rfl rfl) ?_; intro _ _ h)
     | refine au6 ?_
     | refine bn5 rfl rfl rfl rfl rfl ?_
     | (refine aq4 _ h (fun _ e=>t_shr e rfl rfl) ?_; intro _ _ h))
   | (refine ag7 ?_; first
     | refine av1 ?_
     | refine au8 ?_
     | refine av3 ?_)
   | (refine ag4 ?_; first
     | refine au7 ?_
     | (obtain rfl:=Option.some.inj h; first |  exact am1 rfl rfl rfl rfl | exact ai5 rfl | refine an0 rfl rfl rfl ?_ | refine an1 rfl rfl ?_ | refine an2 rfl rfl rfl ?_ | refine am8 rfl rfl ?_ | refine am7 (by repeat first | exact trivial | refine ⟨rfl,?_⟩) rfl | refine am9 (by repeat first | exact trivial | refine ⟨rfl,?_⟩) rfl | (refine av5 fun h=>?_; try dsimp only at h)))
   | (cases h; done)) ha,fun _=>rfl⟩
open Go.RowKit
set_option maxHeartbeats 1000000
set_option maxRecDepth 100000
instance ok_match_New {P : Program} [hc : ab5 P] (a0 : D.ac3) : CallsC P F.ao9 [.agg (aA9 a0)] (ao9 a0) (fun (r : (Option D.ah5))=>[.v (vref aE3 r)]):=⟨fun r h args ha=>by
  cases r with
  | none=>exfalso; unfold ao9 at h; revert h; simp [Option.bind_eq_some_iff]
  | some el=>exact v_funP (b:=K.ao9) rfl hc.ao9 (fun _=>rfl) rfl rfl rfl (fun L=>by
  unfold ao9 at h
  dsimp only [insE,insH,rvO,rvP,rvE,isOb,List.map,List.cons_append,List.nil_append,List.append_nil]
  repeat' first
   | (refine ag6 ?_; first
     | refine am3 rfl ?_
     | refine au6 ?_
     | refine bn5 rfl rfl rfl rfl rfl ?_
     | (refine aq4 _ h (fun _ e=>aq0 e rfl) ?_; intro _ _ h))
   | (refine ag7 ?_; first
     | refine av1 ?_
     | refine au8 ?_
     | refine av3 ?_)
   | (refine ag4 ?_; first
     | refine au7 ?_
     | (obtain rfl:=Option.some.inj (Option.some.inj h); exact v_fitP rfl rfl rfl))
   | (cases h; done)) ha,fun _=>rfl⟩
instance ok_match_machine_found {P : Program} [hc : ab5 P] (a0 : D.y7) (a1 : Int) : aB5 P F.ab6 [.o (.ptr 61 (ar5 a0)),.r (.int .i64 a1)] (ab6 a0 a1) (fun (r : D.y7)=>[.o (.ptr 61 (ar5 r)),.x]) (fun (r : D.y7)=>[]):=⟨fun r h=>cc5 (b:=K.ab6) rfl hc.ab6 rfl rfl rfl (fun L S0 F args=>by
  unfold ab6 at h
  dsimp only [insE,insH,rvO,rvP,rvE,isOb,List.map,List.cons_append,List.nil_append,List.append_nil]
  repeat' first
   | (refine ag6 ?_; first
     | refine am3 rfl ?_
     | refine bR5 rfl (fun hb=>by repeat first | exact trivial | refine ⟨hb,?_⟩ | refine ⟨trivial,?_⟩ | refine ⟨andL hb,?_⟩ | refine ⟨andL (andL hb),?_⟩) rfl ?_
     | (refine aq4 _ h (fun _ e=>t_cloneR e rfl rfl rfl) ?_; intro _ _ h)
     | refine aq7 (t_ll rfl) ?_
     | refine aq7 (t_orG rfl rfl) ?_
     | refine au6 ?_
     | refine bn4 rfl rfl rfl rfl ?_
     | refine v_st rfl rfl rfl rfl rfl rfl rfl ?_
     | (refine cr0 _ h rfl (fun hb=>by repeat first | exact trivial | refine ⟨hb,?_⟩ | refine ⟨trivial,?_⟩ | refine ⟨andL hb,?_⟩ | refine ⟨andL (andL hb),?_⟩) (fun _ e _=>t_ia e rfl rfl) ?_; intro _ h))
   | (refine ag7 ?_; first
     | refine av1 ?_
     | refine au8 ?_
     | refine au5 ?_
     | (refine aw5 h rfl ?_ ?_ <;> intro _ h))
   | (refine ag4 ?_; first
     | refine au7 ?_
     | (obtain rfl:=Option.some.inj h; first |  exact am1 rfl rfl rfl rfl | exact ai5 rfl | refine an0 rfl rfl rfl ?_ | refine an1 rfl rfl ?_ | refine an2 rfl rfl rfl ?_ | refine am8 rfl rfl ?_ | refine am7 (by repeat first | exact trivial | refine ⟨rfl,?_⟩) rfl | refine am9 (by repeat first | exact trivial | refine ⟨rfl,?_⟩) rfl | (refine av5 fun h=>?_; try dsimp only at h)))
   | (cases h; done)),rfl,fun _=>⟨rfl,rfl⟩⟩
instance ok_match_machine_move {P : Program} [hc : ab5 P] (a0 : D.y7) (a1 : D.ac0) (a2 : Int) : CallsQ P F.ab9 [.o (.ptr 61 (ar5 a0)),.r (.agg (ap7 a1)),.r (.int .i64 a2)] (ab9 a0 a1 a2) (fun (r : (Int × Bool))=>[.int .i64 r.1,.bool r.2]):=⟨fun r h=>v_funQ (b:=K.ab9) rfl hc.ab9 (fun _=>rfl) rfl rfl rfl (fun L S0 F=>by
  unfold ab9 at h
  dsimp only [insE,insH,rvO,rvP,rvE,isOb,List.map,List.cons_append,List.nil_append,List.append_nil]
  repeat' first
   | (refine ag6 ?_; first
     | refine am3 rfl ?_
     | refine bR5 rfl (fun hb=>by repeat first | exact trivial | refine ⟨hb,?_⟩ | refine ⟨trivial,?_⟩ | refine ⟨andL hb,?_⟩ | refine ⟨andL (andL hb),?_⟩) rfl ?_
     | refine aq7 (cl5 rfl rfl) ?_
     | refine au6 ?_
     | refine bv8 rfl ?_
     | refine bn4 rfl rfl rfl rfl ?_
     | refine bn5 rfl rfl rfl rfl rfl ?_
     | (refine cr0 _ h rfl (fun hb=>by repeat first | exact trivial | refine ⟨hb,?_⟩ | refine ⟨trivial,?_⟩ | refine ⟨andL hb,?_⟩ | refine ⟨andL (andL hb),?_⟩) (fun _ e _=>aq0 e rfl) ?_; intro _ h)
     | (refine cr0 _ h rfl (fun hb=>by repeat first | exact trivial | refine ⟨hb,?_⟩ | refine ⟨trivial,?_⟩ | refine ⟨andL hb,?_⟩ | refine ⟨andL (andL hb),?_⟩) (fun _ e _=>t_xs e rfl rfl) ?_; intro _ h))
   | (refine ag7 ?_; first
     | refine av1 ?_
     | refine au8 ?_
     | refine bu9 ?_
     | refine as8 ?_
     | refine av3 ?_
     | (refine aD5 h rfl ?_ ?_ <;> intro _ h))
   | (refine ag4 ?_; first
     | refine au7 ?_
     | refine ax0 ?_
     | refine aI8 ?_
     | (obtain rfl:=Option.some.inj h; first |  exact am1 rfl rfl rfl rfl | exact ai5 rfl | refine an0 rfl rfl rfl ?_ | refine an1 rfl rfl ?_ | refine an2 rfl rfl rfl ?_ | refine am8 rfl rfl ?_ | refine am7 (by repeat first | exact trivial | refine ⟨rfl,?_⟩) rfl | refine am9 (by repeat first | exact trivial | refine ⟨rfl,?_⟩) rfl | (refine av5 fun h=>?_; try dsimp only at h)))
   | (cases h; done)),⟨rfl,rfl⟩,fun _=>rfl⟩
theorem aQ2 {P : Program} [hc : ab5 P] (fu : Nat) (rec_match_machine_run : D.y7 → Int → Int → Option D.y7) [hr_match_machine_run : ∀ (a0 : D.y7) (a1 : Int) (a2 : Int),aB5 P F.o5 [.o (.ptr 61 (al3 a0)),.r (.int .i64 a1),.r (.int .i64 a2)] (rec_match_machine_run a0 a1 a2) (fun (r : D.y7)=>[.o (.ptr 61 (al3 r)),.x,.x]) (fun (r : D.y7)=>[])] (a0 : D.y7) (a1 : Int) (a2 : Int) : aB5 P F.o5 [.o (.ptr 61 (al3 a0)),.r (.int .i64 a1),.r (.int .i64 a2)] (aj3 fu rec_match_machine_run a0 a1 a2) (fun (r : D.y7)=>[.o (.ptr 61 (al3 r)),.x,.x]) (fun (r : D.y7)=>[]):=⟨fun r h=>v_funD (hG:=⟨hc.gw⟩) rfl (hc.o5) hc.rest_run rfl rfl rfl rfl rfl (fun L S0 F args=>by
  unfold aj3 at h
  dsimp only [insE,insH,rvO,rvP,rvE,isOb,List.map,List.cons_append,List.nil_append,List.append_nil]
  repeat' first
   | (refine ag6 ?_; first
     | refine am3 rfl ?_
     | refine aq7 t_mf ?_
     | (refine v_iaR h rfl rfl rfl ?_; intro _ _ h)
     | refine v_stR rfl rfl rfl (idx_at (by assumption)) rfl ?_
     | (refine v_cloneK h rfl rfl rfl rfl ?_; intro h)
     | (refine v_cloneV h rfl rfl (fun _=>rfl) rfl ?_; intro h)
     | refine au6 ?_
     | refine bv8 rfl ?_
     | refine bn4 rfl rfl rfl rfl ?_
     | refine v_st rfl rfl rfl rfl rfl rfl rfl ?_
     | refine bc4 rfl rfl rfl rfl rfl ?_
     | refine bn5 rfl rfl rfl rfl rfl ?_
     | (refine aq4 _ h (fun _ e=>t_readQ e rfl) ?_; intro _ _ h)
     | (refine aq4 _ h (fun _ e=>t_ia e rfl rfl) ?_; intro _ _ h)
     | (refine bt6 h rfl rfl rfl ?_; intro _ _ h))
   | (refine ag7 ?_; first
     | refine av1 ?_
     | refine au8 ?_
     | refine bu9 ?_
     | refine as8 ?_
     | refine au5 ?_
     | refine av3 ?_
     | (refine aD5 h rfl ?_ ?_ <;> intro _ h)
     | (refine aw5 h rfl ?_ ?_ <;> intro _ h)
     | (refine aD2 h (by repeat first | exact trivial | refine ⟨rfl,?_⟩) rfl ?_ ?_ <;> (repeat refine aD0 fun _=>?_) <;> first | (intro _ _ h; dsimp only [ad3,pinL] at h) | (intro _ h; try dsimp only at h)))
   | (refine ag4 ?_; first
     | refine au7 ?_
     | refine ax0 ?_
     | refine aD4 ?_
     | refine aI8 ?_
     | refine v_opnL rfl rfl rfl rfl ?_
     | (obtain rfl:=Option.some.inj h; first | refine v_leave rfl rfl rfl rfl rfl rfl rfl rfl rfl rfl rfl rfl rfl (am1 rfl rfl rfl rfl) | exact am1 rfl rfl rfl rfl | exact ai5 rfl | refine an0 rfl rfl rfl ?_ | refine an1 rfl rfl ?_ | refine an2 rfl rfl rfl ?_ | refine am8 rfl rfl ?_ | refine am7 (by repeat first | exact trivial | refine ⟨rfl,?_⟩) rfl | refine am9 (by repeat first | exact trivial | refine ⟨rfl,?_⟩) rfl | (refine av5 fun h=>?_; try dsimp only at h)))
   | (cases h; done)),rfl,fun _=>⟨rfl,rfl⟩⟩
theorem aB7 {P : Program} [hc : ab5 P] : ∀ (fu : Nat) (a0 : D.y7) (a1 : Int) (a2 : Int),aB5 P F.o5 [.o (.ptr 61 (al3 a0)),.r (.int .i64 a1),.r (.int .i64 a2)] (o5 fu a0 a1 a2) (fun (r : D.y7)=>[.o (.ptr 61 (al3 r)),.x,.x]) (fun (r : D.y7)=>[])
 | 0,a0,a1,a2=>⟨fun r h=>(by have h : (none : Option _) = some r:=h; cases h),rfl,fun _=>⟨rfl,rfl⟩⟩
 | fu + 1,a0,a1,a2=>aQ2 fu (o5 fu) (hr_match_machine_run:=aB7 fu) a0 a1 a2
instance ok_match_machine_run {P : Program} [hc : ab5 P] (fu : Nat) (a0 : D.y7) (a1 : Int) (a2 : Int) : aB5 P F.o5 [.o (.ptr 61 (al3 a0)),.r (.int .i64 a1),.r (.int .i64 a2)] (o5 fu a0 a1 a2) (fun (r : D.y7)=>[.o (.ptr 61 (al3 r)),.x,.x]) (fun (r : D.y7)=>[]):=aB7 fu a0 a1 a2
instance ok_match_Regex_Find {P : Program} [hc : ab5 P] (fu : Nat) (a0 : (Option D.ah5)) (a1 : List UInt8) (a2 : Int) : CallsC P F.ac7 [.v (vref aE3 a0),.str a1,.int .i64 a2] (ac7 fu a0 a1 a2) (fun (r : ((List Int) × Bool))=>[.sl 1 (r.1.map (aD9 .i64)),.bool r.2]):=⟨fun r h args ha=>aC6 (b:=K.ac7) rfl hc.ac7 (fun _=>rfl) rfl rfl (fun L=>by
  unfold ac7 at h
  dsimp only [insE,insH,rvO,rvP,rvE,isOb,List.map,List.cons_append,List.nil_append,List.append_nil]
  repeat' first
   | (refine ag6 ?_; first
     | refine am3 rfl ?_
     | refine bR5 rfl (fun hb=>by repeat first | exact trivial | refine ⟨hb,?_⟩ | refine ⟨trivial,?_⟩ | refine ⟨andL hb,?_⟩ | refine ⟨andL (andL hb),?_⟩) rfl ?_
     | refine v_mkN rfl rfl ?_
     | refine aq7 (t_ll rfl) ?_
     | refine aq7 (cl5 rfl rfl) ?_
     | refine aq7 (t_max rfl rfl) ?_
     | refine au6 ?_
     | refine bv8 rfl ?_
     | refine bn4 rfl rfl rfl rfl ?_
     | refine bn5 rfl rfl rfl rfl rfl ?_
     | refine bv7 rfl rfl rfl ?_
     | (refine aq4 _ h (fun _ e=>aq0 e rfl) ?_; intro _ _ h)
     | (refine aq4 _ h (fun _ e=>t_ncV e rfl) ?_; intro _ _ h)
     | (refine bt6 h rfl rfl rfl ?_; intro _ _ h))
   | (refine ag7 ?_; first
     | refine av1 ?_
     | refine au8 ?_
     | refine bu9 ?_
     | refine as8 ?_
     | refine au5 ?_
     | refine aT4 ?_
     | refine av3 ?_
     | (refine aD5 h rfl ?_ ?_ <;> intro _ h)
     | (refine aw5 h rfl ?_ ?_ <;> intro _ h)
     | (refine aD2 h (by repeat first | exact trivial | refine ⟨rfl,?_⟩) rfl ?_ ?_ <;> (repeat refine aD0 fun _=>?_) <;> first | (intro _ _ h; dsimp only [ah7,pinL] at h) | (intro _ h; try dsimp only at h)))
   | (refine ag4 ?_; first
     | refine au7 ?_
     | refine ax0 ?_
     | refine aS2 ?_
     | refine aD4 ?_
     | refine aI8 ?_
     | (obtain rfl:=Option.some.inj h; first |  exact am1 rfl rfl rfl rfl | exact ai5 rfl | refine an0 rfl rfl rfl ?_ | refine an1 rfl rfl ?_ | refine an2 rfl rfl rfl ?_ | refine am8 rfl rfl ?_ | refine am7 (by repeat first | exact trivial | refine ⟨rfl,?_⟩) rfl | refine am9 (by repeat first | exact trivial | refine ⟨rfl,?_⟩) rfl | (refine av5 fun h=>?_; try dsimp only at h)))
   | (cases h; done)) ha,fun _=>rfl⟩
open Go.RowKit
set_option maxHeartbeats 1000000
set_option maxRecDepth 100000
instance ok_law08_Made {P : Program} [hc : ab5 P] (fu : Nat) (a0 : D.aa5) : CallsC P F.ae2 [.agg [.int .i64 a0.Kind,.int .u64 a0.Set.x0,.int .u64 a0.Set.x1,.int .u64 a0.Set.x2,.int .u64 a0.Set.x3,.sl 9 (List.map ad4 a0.Parts),.int .i64 a0.Min,.int .i64 a0.Max,.int .i64 a0.Number]] (ae2 fu a0) (fun (r : ((Option D.ah5) × Bool))=>[.v (vref aE3 r.1),.bool r.2]):=⟨fun r h args ha=>aC6 (b:=K.ae2) rfl hc.ae2 (fun _=>rfl) rfl rfl (fun L=>by
  unfold ae2 at h
  dsimp only [insE,insH,rvO,rvP,rvE,isOb,List.map,List.cons_append,List.nil_append,List.append_nil]
  repeat' first
   | (refine ag6 ?_; first
     | refine am3 rfl ?_
     | refine bR5 rfl (fun hb=>by repeat first | exact trivial | refine ⟨hb,?_⟩ | refine ⟨trivial,?_⟩ | refine ⟨andL hb,?_⟩ | refine ⟨andL (andL hb),?_⟩) rfl ?_
     | refine aq7 (t_np rfl rfl) ?_
     | refine aq7 (t_orG rfl rfl) ?_
     | refine au6 ?_
     | refine v_st rfl rfl rfl rfl rfl rfl rfl ?_
     | refine bc4 rfl rfl rfl rfl rfl ?_
     | refine bn5 rfl rfl rfl rfl rfl ?_
     | (refine aq4 _ h (fun _ e=>aq0 e rfl) ?_; intro _ _ h)
     | refine v_gua rfl (fun hb=>by repeat first | exact trivial | refine ⟨hb,?_⟩ | refine ⟨trivial,?_⟩ | refine ⟨andL hb,?_⟩ | refine ⟨andL (andL hb),?_⟩) (fun _=>t_ll rfl) ?_)
   | (refine ag7 ?_; first
     | refine av1 ?_
     | refine au8 ?_
     | refine au5 ?_
     | refine av3 ?_
     | (refine aw5 h rfl ?_ ?_ <;> intro _ h))
   | (refine ag4 ?_; first
     | refine au7 ?_
     | refine ax0 ?_
     | (obtain rfl:=Option.some.inj h; first |  exact am1 rfl rfl rfl rfl | exact ai5 rfl | exact ai5 (by simp only [al1,List.map_cons,List.map_nil]; rfl) | refine an0 rfl rfl rfl ?_ | refine an1 rfl rfl ?_ | refine an2 rfl rfl rfl ?_ | refine am8 rfl rfl ?_ | refine am7 (by repeat first | exact trivial | refine ⟨rfl,?_⟩) rfl | refine am9 (by repeat first | exact trivial | refine ⟨rfl,?_⟩) rfl | (refine av5 fun h=>?_; try dsimp only at h)))
   | (cases h; done)) ha,fun _=>rfl⟩
instance ok_law08_Slots {P : Program} [hc : ab5 P] (a0 : (List Int)) (a1 : (List Int)) : CallsC P F.ag5 [.sl 1 (a0.map (aD9 .i64)),.sl 1 (a1.map (aD9 .i64))] (ag5 a0 a1) (fun (r : Bool)=>[.bool r]):=⟨fun r h args ha=>aC6 (b:=K.ag5) rfl hc.ag5 (fun _=>rfl) rfl rfl (fun L=>by
  unfold ag5 at h
  dsimp only [insE,insH,rvO,rvP,rvE,isOb,List.map,List.cons_append,List.nil_append,List.append_nil]
  repeat' first
   | (refine ag6 ?_; first
     | refine am3 rfl ?_
     | refine aq7 (t_ll rfl) ?_
     | refine au6 ?_
     | refine bv8 rfl ?_
     | (refine aq4 _ h (fun _ e=>t_ia e rfl rfl) ?_; intro _ _ h))
   | (refine ag7 ?_; first
     | refine av1 ?_
     | refine au8 ?_
     | refine bu9 ?_
     | refine as8 ?_
     | refine au5 ?_
     | refine aT4 ?_
     | refine av3 ?_
     | (refine aD5 h rfl ?_ ?_ <;> intro _ h)
     | (refine aD2 h (by repeat first | exact trivial | refine ⟨rfl,?_⟩) rfl ?_ ?_ <;> (repeat refine aD0 fun _=>?_) <;> first | (intro _ _ h; dsimp only [ak9,pinL] at h) | (intro _ h; try dsimp only at h)))
   | (refine ag4 ?_; first
     | refine au7 ?_
     | refine ax0 ?_
     | refine aS2 ?_
     | refine aD4 ?_
     | refine aI8 ?_
     | (obtain rfl:=Option.some.inj h; first |  exact am1 rfl rfl rfl rfl | exact ai5 rfl | refine an0 rfl rfl rfl ?_ | refine an1 rfl rfl ?_ | refine an2 rfl rfl rfl ?_ | refine am8 rfl rfl ?_ | refine am7 (by repeat first | exact trivial | refine ⟨rfl,?_⟩) rfl | refine am9 (by repeat first | exact trivial | refine ⟨rfl,?_⟩) rfl | (refine av5 fun h=>?_; try dsimp only at h)))
   | (cases h; done)) ha,fun _=>rfl⟩
instance ok_law08_MatchPlain {P : Program} [hc : ab5 P] (fu : Nat) (a0 : List UInt8) (a1 : List UInt8) (a2 : Int) : CallsC P F.ac8 [.str a0,.str a1,.int .u8 a2] (ac8 fu a0 a1 a2) (fun (r : Bool)=>[.bool r]):=⟨fun r h args ha=>aC6 (b:=K.ac8) rfl hc.ac8 (fun _=>rfl) rfl rfl (fun L=>by
  unfold ac8 at h
  dsimp only [insE,insH,rvO,rvP,rvE,isOb,List.map,List.cons_append,List.nil_append,List.append_nil]
  repeat' first
   | (refine ag6 ?_; first
     | refine am3 rfl ?_
     | refine bR5 rfl (fun hb=>by repeat first | exact trivial | refine ⟨hb,?_⟩ | refine ⟨trivial,?_⟩ | refine ⟨andL hb,?_⟩ | refine ⟨andL (andL hb),?_⟩) rfl ?_
     | refine aq7 (t_and rfl rfl) ?_
     | refine aq7 (cl5 rfl rfl) ?_
     | refine aq7 (t_orG rfl rfl) ?_
     | refine au6 ?_
     | refine bv7 rfl rfl rfl ?_
     | (refine aq4 _ h (fun _ e=>aq0 e rfl) ?_; intro _ _ h)
     | (refine aq4 _ h (fun _ e=>t_xs e rfl rfl) ?_; intro _ _ h)
     | (refine aq4 _ h (fun _ e=>t_ss e rfl rfl rfl) ?_; intro _ _ h)
     | (refine cI1 h rfl rfl rfl (by first | exact .v rfl | exact .s rfl | exact .n rfl rfl | exact .k rfl rfl | exact .k rfl (by simp only [al1,List.map_cons,List.map_nil]; rfl) | exact .l rfl rfl) rfl rfl rfl ?_; intro _ _ h)
     | refine v_gua rfl (fun hb=>by repeat first | exact trivial | refine ⟨hb,?_⟩ | refine ⟨trivial,?_⟩ | refine ⟨andL hb,?_⟩ | refine ⟨andL (andL hb),?_⟩) (fun _=>t_ll rfl) ?_
     | refine v_gT rfl ((by assumption)) (fun hb=>by repeat first | exact trivial | refine ⟨hb,?_⟩ | refine ⟨trivial,?_⟩ | refine ⟨andL hb,?_⟩ | refine ⟨andL (andL hb),?_⟩) ?_
     | refine v_gF rfl (eqFb (by assumption)) ?_
     | (refine v_gsplit h ?_ ?_ <;> intro _ h))
   | (refine ag7 ?_; first
     | refine av1 ?_
     | refine au8 ?_
     | refine as8 ?_
     | refine au5 ?_
     | refine aT4 ?_
     | refine av3 ?_
     | refine cd9 h rfl rfl rfl ?_
     | (refine aD5 h rfl ?_ ?_ <;> intro _ h)
     | (refine aw5 h rfl ?_ ?_ <;> intro _ h)
     | (refine aD2 h (by repeat first | exact trivial | refine ⟨rfl,?_⟩) rfl ?_ ?_ <;> (repeat refine aD0 fun _=>?_) <;> first | (intro _ _ h; dsimp only [ak7,af9,pinL] at h) | (intro _ h; try dsimp only at h)))
   | (refine ag4 ?_; first
     | refine au7 ?_
     | refine ax0 ?_
     | refine aS2 ?_
     | refine aD4 ?_
     | refine aI8 ?_
     | (obtain rfl:=Option.some.inj h; first |  exact am1 rfl rfl rfl rfl | exact ai5 rfl | exact ai5 (by simp only [al1,List.map_cons,List.map_nil]; rfl) | refine an0 rfl rfl rfl ?_ | refine an1 rfl rfl ?_ | refine an2 rfl rfl rfl ?_ | refine am8 rfl rfl ?_ | refine am7 (by repeat first | exact trivial | refine ⟨rfl,?_⟩) rfl | refine am9 (by repeat first | exact trivial | refine ⟨rfl,?_⟩) rfl | (refine av5 fun h=>?_; try dsimp only at h)))
   | (cases h; done)) ha,fun _=>rfl⟩
open Go.ChangeShapes Go.WideShapes Go.ChangeAt Go.RowKit Go.Deep
mutual
def bz2 : DataW Unit → List Value
 | .lit (.int k n)=>[.int k n]
 | .agg l=>b87 l
 | _=>[]
def b87 : List (DataW Unit) → List Value
 | []=>[]
 | d :: r=>bz2 d ++ b87 r
end
def putCells (cs : Array Value) : Obj → Obj
 | .cells _ t frozen=>.cells cs t frozen
 | o=>o
noncomputable def laidWorld (os : Os) : World :=
 { World.holding Tryz.prog os ⟨#[],#[],[]⟩ with heap:=(((World.holding Tryz.prog os ⟨#[],#[],[]⟩).heap.modify 1 (putCells (bz2 Rows.laid_math_bits_deBruijn32tab).toArray)).modify 2 (putCells (bz2 Rows.laid_math_bits_deBruijn64tab).toArray)).modify 0 (putCells (bz2 Rows.laid_internal_strconv_uint64pow10).toArray) }
namespace matchPlain
theorem own : ownKnob Tryz.prog.godebug = none:=by kernel_rfl
theorem laidOut : laidOutB Tryz.prog = true:=by kernel_rfl
theorem runs (s0 s1 : ByteArray) (k : Nat) (hk : k < 256) (W : World) (args' : Array Value) (ha : CRel (Gh.start W) [.lit (.string s0),.lit (.string s1),.lit (.int .u8 k)] args'.toList) :
  Calls Tryz.prog F.ac8 args' W fun e W'=>e = .returned (.bool true) ∧ Below W.heap.size W W':=by
 obtain ⟨v,h1,h2⟩:=(ok_law08_MatchPlain (P:=Tryz.prog) 100 (toL s0) (toL s1) (k : Int)).ok true (bU0 (toL s0) (toL s1) k hk) [.lit (.string (bs (toL s0))),.lit (.string (bs (toL s1))),.lit (.int .u8 k)] ⟨_,_,rfl,rfl,_,_,rfl,rfl,_,_,rfl,rfl,rfl⟩
 obtain rfl : v = .lit (.bool true):=h2
 rw [ca6,ca6] at h1
 exact cw6 cfgOk givenOk bn2 h1 (fun x hx=>(nomatch hx)) ha
set_option maxRecDepth 100000 in
theorem contract (H : Type) (enc : TypeId × Value → H) (W : World) (base : Nat) (args : Array Value) (ds gs : List (DataW H)) (before : List MemPlace)
  (hval : ∀ (j : Nat) t v,Tryz.f3.params[j]? = some t → args[j]? = some v → Value.okWide Tryz.prog W .any base t v)
  (hW : DataW.Whole enc Tryz.prog Tryz.f3.params.toList Rows.matchPlainSpec.vars false W args.toList ds gs before) :
  Calls Tryz.prog 3 args W fun e W'=>∃ v,e = .returned v ∧ Rows.matchPlainSpec.post enc Tryz.prog Tryz.f3 false true false false W args v W':=by
 have hW':=hW
 obtain ⟨p,q,hA0,hV,rfl,hfz,hnd⟩:=hW
 have hA : DataW.TrodAll enc Tryz.prog W 0 (fun _=>true) true Tryz.f3.params.toList args.toList ds p:=hA0
 rw [Tryz.params3] at hA hval
 obtain ⟨v0,vs0,d0,ds0,p0,q0,hargs,rfl,rfl,h0,r0⟩:=trodAll_cons hA
 obtain ⟨v1,vs1,d1,ds1,p1,q1,rfl,rfl,rfl,h1,r1⟩:=trodAll_cons r0
 obtain ⟨v2,vs2,d2,ds2,p2,q2,rfl,rfl,rfl,h2,r2⟩:=trodAll_cons r1
 obtain ⟨rfl,rfl,rfl⟩:=trodAll_nil r2
 obtain rfl : args = #[v0,v1,v2]:=by cases args; simp_all
 obtain ⟨rfl,rfl⟩:=trodVars_none hV
 obtain ⟨s0,rfl⟩:=okWide_string Tryz.underlying9 (hval 0 9 v0 rfl rfl)
 obtain ⟨s1,rfl⟩:=okWide_string Tryz.underlying9 (hval 1 9 v1 rfl rfl)
 obtain ⟨n2,rfl⟩:=okWide_int Tryz.underlying5 (hval 2 5 v2 rfl rfl)
 obtain ⟨fuel2,h2⟩:=h2
 obtain ⟨y2,e2,w2⟩ : ∃ y2 : Int,CRel (Gh.start W) [.lit (.int .u8 y2)] (Value.int .u8 n2).cells.toList ∧ (Lit.int .u8 y2).wf = true:=(Sh.int .u8).open (by kernel_rfl) h2
 clear hA0
 simp only [Lit.wf,Bool.and_eq_true,decide_eq_true_eq] at w2
 have m1 : IntKind.u8.min = 0:=rfl
 have m2 : IntKind.u8.max = 255:=rfl
 obtain ⟨k,rfl⟩ : ∃ k : Nat,y2 = (k : Int):=⟨y2.toNat,by omega⟩
 refine (runs s0 s1 k (by omega) W #[.string s0,.string s1,.int .u8 n2] (CRel.cons (.lit _) (CRel.cons (.lit _) (CRel.cons (CRel.head e2) (CRel.nil _))))).mono fun e W' ⟨he,hb⟩=>?_
 subst he
 exact ⟨_,rfl,cH4 laidOut (by kernel_rfl) rfl Tryz.underlying4 rfl (fun x hx=>by match x,hx with | [a,b,c],_=>rfl) hW' hb⟩
def wA : Array Value:=#[.string ByteArray.empty,.string ByteArray.empty,.int .u8 0]
theorem laid_met (os : Os) : laidMet Tryz.prog Rows.matchPlainRow.laid ((laidWorld os).forCall (fun _ _=>0) ⟨#[],wA,[]⟩).memory :=
 laidMet_of_run' 8 (by kernel_rfl) (by kernel_rfl)
theorem reads (os : Os) {H : Type} (enc : TypeId × Value → H) : ∃ ds places,DataW.whole enc Tryz.prog ((laidWorld os).forCall (fun _ _=>0) ⟨#[],wA,[]⟩).memory Tryz.f3.params.toList Rows.matchPlainSpec.vars false wA.toList 8 = some (ds,[],places) :=
 ⟨[.lit (.string []),.lit (.string []),.lit (.int .u8 0)],[],by kernel_rfl⟩
set_option maxRecDepth 100000 in
theorem lifted (os : Os) (started : os.Started) (H : Type) (enc : TypeId × Value → H) (F : Stop.Interp) :
  ReturnsInHanded {} Tryz.checked os 3 .any ((OpenSpec.ofChange Rows.matchPlainSpec).preRow enc Tryz.prog Tryz.f3 Rows.matchPlainRow.domain false Rows.matchPlainRow.laid) (((OpenSpec.ofChange Rows.matchPlainSpec).at F).post enc Tryz.prog Tryz.f3 false true false false):=by
 obtain ⟨ds0,places,hx⟩:=reads os enc
 refine returnsInHanded_of_row (C:=Tryz.checked) (s:=OpenSpec.ofChange Rows.matchPlainSpec) own started (by kernel_rfl) Tryz.func3
  (witness_row_at (enc:=enc) (C:=Tryz.checked) false (laidWorld os) wA rfl (by kernel_rfl) (by kernel_rfl) (by kernel_rfl)
   (OpenSpec.preRow_of_cond 8 hx (by kernel_rfl) (fun k hk=>by cases hk) (by kernel_rfl) (laid_met os))) ?_
 intro W base args ds gs before hval hW _ _ _ _ _ _
 exact contract H enc W base args ds gs before hval hW
end matchPlain
namespace matchPlain
def clos : List FuncId:=[3,4,10,19,35,50,51,52,75,76,77,93,102,13,20,113,104,105,119,103,114,107,94,95,106,53,78,96,108,7,54,6,15,25,40,14,21,36,55,79,97,80,81,98,82,83,32,45,37,22,23,24,38,56,57,39,58,16,26,41,8,17,27,42,43,18,28,29,31,30,44,60,85,100,109,110,73,115,116,111,112,117,118,120,121,59,84,99,61,62,33,47,72,46,63,69,91,64,86,65,87,88,66,89,90,101,67,68,70,71,34,48,49,74,92,9,11,12,5]
theorem fuel_eq : 1 + (Tryz.prog.funcs.toList.map fun g=>(Tryz.prog.leadsTo g).length + 1).sum = 428:=by kernel_rfl
theorem via_eq : Tryz.prog.closureVia 428 [3] [] = clos:=by kernel_rfl
theorem bS7 : Tryz.prog.closure 3 = clos:=by
 unfold Program.closure
 rw [fuel_eq]
 exact via_eq
theorem cv5 : Tryz.prog.inPlace 3 = Rows.matchPlainRow.inPlace:=by
 unfold Program.inPlace
 rw [bS7]
 as_aux_lemma=>kernel_rfl
theorem br0 : Tryz.prog.unfollowed 3 = true:=by
 unfold Program.unfollowed
 rw [bS7]
 as_aux_lemma=>kernel_rfl
theorem cf5 : Tryz.prog.recurses 3 = true:=by
 unfold Program.recurses
 rw [br0,Bool.true_or]
theorem vars_eq : Tryz.prog.varsNamed 3 = Rows.matchPlainRow.named:=by
 unfold Program.varsNamed
 rw [bS7]
 as_aux_lemma=>kernel_rfl
theorem cJ7 : (clos.any fun g=>(Tryz.prog.funcs[g]?).any Func.goes) = false:=by kernel_rfl
theorem goes_all : Tryz.prog.funcs.any Func.goes = false:=by kernel_rfl
theorem goes_eq : Tryz.prog.goes 3 = false:=by
 unfold Program.goes
 rw [bS7,cJ7,goes_all,Bool.and_false,Bool.or_false]
theorem cm4 : Tryz.prog.funcNamed Rows.matchPlainRow.func = some 3:=by kernel_rfl
theorem cA3 : false = Rows.matchPlainRow.goesBy Tryz.prog:=by
 unfold OpenClaim.goesBy Program.goesAt Program.goesFrom
 rw [cm4,Option.any_some,goes_eq,Bool.false_or]
 as_aux_lemma=>kernel_rfl
theorem facts_eq : joinedFacts Tryz.prog 3 Tryz.f3 (OpenSpec.ofChange Rows.matchPlainSpec).bare Rows.matchPlainRow = true:=by
 unfold joinedFacts
 rw [cv5,br0,cf5,vars_eq]
 as_aux_lemma=>kernel_rfl
end matchPlain
end Go.Proofs.YtdcfkmgnkhkoeaaGreatDoor
