/-
  Code: written by a program.
-/
import Derived.Test.YtjdccpmbaobpdaaGreatDoorNames
import Derived.Test.YtjdccpmbaobpdaaGreatDoorGT
namespace Go.Proofs.YtjdccpmbaobpdaaGreatDoor
open Go.RowKit

def K.mach_Shown_p0 : BC := .ops [⟨(some 24), none, .none, .cl 13 [(.t 3), (.c (.lit (.string (bs [92, 92]))))]⟩]
def K.mach_Shown_p1 : BC := .ops [⟨(some 32), none, .none, .mv (.t 5)⟩,
   ⟨(some 33), none, .none, .cl 14 [(.t 3), (.t 32)]⟩]
def K.mach_Shown_p2 : BC := .ops [⟨(some 42), none, .none, .mv (.t 5)⟩,
   ⟨(some 43), none, .none, .ib .sub (.t 42) (.c (.lit (.int .u8 7)))⟩,
   ⟨(some 44), none, .none, .xs (.c (.lit (.string (bs [97, 98, 116, 110, 118, 102, 114])))) (.t 43)⟩,
   ⟨(some 45), none, .none, .cl 14 [(.t 3), (.t 44)]⟩]
def K.mach_Shown_p3 : BC := .seq (.ops [⟨(some 41), none, .none, .cl 14 [(.t 3), (.c (.lit (.int .u8 92)))]⟩]) K.mach_Shown_p2
def K.mach_Shown_p4 : BC := .ops [⟨(some 14), none, .none, .mv (.t 5)⟩,
   ⟨(some 15), none, (.at (.t 14)), .cvi .i64 (.t 14)⟩,
   ⟨(some 16), none, .none, .ib .add (.t 15) (.c (.lit (.int .i64 512)))⟩,
   ⟨(some 17), none, .none, .cl 15 [(.t 16), (.c (.lit (.int .i64 8)))]⟩,
   ⟨(some 18), none, .none, .sls (.t 17) (some (.c (.lit (.int .i64 1)))) none⟩,
   ⟨(some 19), none, .none, .sb .add (.c (.lit (.string (bs [92])))) (.t 18)⟩,
   ⟨(some 20), none, .none, .cl 13 [(.t 3), (.t 19)]⟩]
def K.mach_Shown_p5 : BC := .cond (.t 34) K.mach_Shown_p3 K.mach_Shown_p4
def K.mach_Shown_p6 : BC := .seq (.ops [⟨(some 35), none, .none, .mv (.t 5)⟩,
    ⟨(some 36), none, .none, .ib .geq (.t 35) (.c (.lit (.int .u8 7)))⟩,
    ⟨(some 37), none, .none, .mv (.t 36)⟩,
    ⟨(some 38), (some (37, true)), .none, .mv (.t 5)⟩,
    ⟨(some 39), (some (37, true)), .none, .ib .leq (.t 38) (.c (.lit (.int .u8 13)))⟩,
    ⟨(some 40), none, .none, .pk (.t 37) (.t 39) (.c (.lit (.bool false)))⟩,
    ⟨(some 34), none, .none, .mv (.t 40)⟩]) K.mach_Shown_p5
def K.mach_Shown_p7 : BC := .cond (.t 25) K.mach_Shown_p1 K.mach_Shown_p6
def K.mach_Shown_p8 : BC := .seq (.ops [⟨(some 26), none, .none, .mv (.t 5)⟩,
    ⟨(some 27), none, .none, .ib .geq (.t 26) (.c (.lit (.int .u8 32)))⟩,
    ⟨(some 28), none, .none, .mv (.t 27)⟩,
    ⟨(some 29), (some (28, true)), .none, .mv (.t 5)⟩,
    ⟨(some 30), (some (28, true)), .none, .ib .leq (.t 29) (.c (.lit (.int .u8 126)))⟩,
    ⟨(some 31), none, .none, .pk (.t 28) (.t 30) (.c (.lit (.bool false)))⟩,
    ⟨(some 25), none, .none, .mv (.t 31)⟩]) K.mach_Shown_p7
def K.mach_Shown_p9 : BC := .cond (.t 21) K.mach_Shown_p0 K.mach_Shown_p8
def K.mach_Shown_p10 : BC := .block 2 (.seq (.ops [⟨(some 22), none, .none, .mv (.t 5)⟩,
     ⟨(some 23), none, .none, .ib .eql (.t 22) (.c (.lit (.int .u8 92)))⟩,
     ⟨(some 21), none, .none, .mv (.t 23)⟩]) K.mach_Shown_p9)
def K.mach_Shown_p11 : BC := .seq (.ops [⟨(some 11), none, .none, .mv (.t 0)⟩,
    ⟨(some 12), none, .none, .mv (.t 4)⟩,
    ⟨(some 13), none, .none, .xs (.t 11) (.t 12)⟩,
    ⟨(some 5), none, .none, .mv (.t 13)⟩]) K.mach_Shown_p10
def K.mach_Shown_p12 : BC := .ops [⟨(some 46), none, .none, .ib .add (.t 8) (.c (.lit (.int .i64 1)))⟩,
   ⟨(some 8), none, .none, .mv (.t 46)⟩]
def K.mach_Shown_p13 : BC := .seq (.block 1 (.seq (.ops [⟨(some 10), none, .none, .mv (.t 8)⟩,
      ⟨(some 4), none, .none, .mv (.t 10)⟩]) K.mach_Shown_p11)) K.mach_Shown_p12
def K.mach_Shown_p14 : BC := .seq (.cond (.t 9) .skip (.exit 0)) K.mach_Shown_p13
def K.mach_Shown_p15 : BC := .seq (.ops [⟨(some 9), none, .none, .ib .lss (.t 8) (.t 7)⟩]) K.mach_Shown_p14
def K.mach_Shown_p16 : BC := .seq (.ops [⟨(some 47), none, .none, .cl 16 [(.t 3)]⟩,
    ⟨(some 2), none, .none, .mv (.t 47)⟩]) .ret
def K.mach_Shown_p17 : BC := .block 0 (.loop K.mach_Shown_p15)
def K.mach_Shown_p18 : BC := .seq (.seq (.ops [⟨(some 6), none, .none, .mv (.t 0)⟩,
     ⟨(some 7), none, (.at (.t 6)), .ls (.t 6)⟩,
     ⟨(some 8), none, .none, .mv (.c (.lit (.int .i64 0)))⟩]) K.mach_Shown_p17) K.mach_Shown_p16
def K.mach_Shown_p19 : BC := .seq (.ops [⟨(some 3), none, .here, .al 47 [(.lit (.pointer none)), (.lit (.slice none 0 0))]⟩]) K.mach_Shown_p18
def K.mach_Shown : BFn := ⟨48, [.t 2],
  .seq (.ops [⟨(some 2), none, .none, .mv (.c (.lit (.string (bs []))))⟩]) K.mach_Shown_p19⟩
def K.ref06_Digits_p0 : BC := .cond (.t 5) .skip (.exit 0)
def K.ref06_Digits_p1 : BC := .ops [⟨(some 14), none, .none, .mv (.t 0)⟩,
   ⟨(some 15), none, .none, .ib .quo (.t 14) (.c (.lit (.int .i64 10)))⟩,
   ⟨(some 0), none, .none, .mv (.t 15)⟩]
def K.ref06_Digits_p2 : BC := .block 1 (.seq (.ops [⟨(some 6), none, .none, .mv (.t 0)⟩,
     ⟨(some 7), none, .none, .ib .rem (.t 6) (.c (.lit (.int .i64 10)))⟩,
     ⟨(some 8), none, .none, .mv (.t 0)⟩,
     ⟨(some 9), none, .none, .ib .rem (.t 8) (.c (.lit (.int .i64 10)))⟩,
     ⟨(some 10), none, .none, .ib .add (.t 9) (.c (.lit (.int .i64 1)))⟩,
     ⟨(some 11), none, .none, .sls (.c (.lit (.string (bs [48, 49, 50, 51, 52, 53, 54, 55, 56, 57])))) (some (.t 7)) (some (.t 10))⟩,
     ⟨(some 12), none, .none, .mv (.t 3)⟩,
     ⟨(some 13), none, .none, .sb .add (.t 11) (.t 12)⟩,
     ⟨(some 3), none, .none, .mv (.t 13)⟩]) K.ref06_Digits_p1)
def K.ref06_Digits_p3 : BC := .seq (.seq (.ops [⟨(some 4), none, .none, .mv (.t 0)⟩,
     ⟨(some 5), none, .none, .ib .geq (.t 4) (.c (.lit (.int .i64 10)))⟩]) K.ref06_Digits_p0) K.ref06_Digits_p2
def K.ref06_Digits_p4 : BC := .seq (.ops [⟨(some 16), none, .none, .mv (.t 0)⟩,
    ⟨(some 17), none, .none, .mv (.t 0)⟩,
    ⟨(some 18), none, .none, .ib .add (.t 17) (.c (.lit (.int .i64 1)))⟩,
    ⟨(some 19), none, .none, .sls (.c (.lit (.string (bs [48, 49, 50, 51, 52, 53, 54, 55, 56, 57])))) (some (.t 16)) (some (.t 18))⟩,
    ⟨(some 20), none, .none, .mv (.t 3)⟩,
    ⟨(some 21), none, .none, .sb .add (.t 19) (.t 20)⟩,
    ⟨(some 2), none, .none, .mv (.t 21)⟩]) .ret
def K.ref06_Digits_p5 : BC := .seq (.block 0 (.loop K.ref06_Digits_p3)) K.ref06_Digits_p4
def K.ref06_Digits_p6 : BC := .seq (.ops [⟨(some 3), none, .none, .mv (.c (.lit (.string (bs []))))⟩]) K.ref06_Digits_p5
def K.ref06_Digits : BFn := ⟨22, [.t 2],
  .seq (.ops [⟨(some 2), none, .none, .mv (.c (.lit (.string (bs []))))⟩]) K.ref06_Digits_p6⟩
def K.ref19_Shown_p0 : BC := .ops [⟨(some 35), none, .none, .mv (.t 3)⟩,
   ⟨(some 36), none, .none, .sb .add (.t 35) (.c (.lit (.string (bs [92, 92]))))⟩,
   ⟨(some 3), none, .none, .mv (.t 36)⟩]
def K.ref19_Shown_p1 : BC := .ops [⟨(some 44), none, .none, .mv (.t 3)⟩,
   ⟨(some 45), none, .none, .mv (.t 0)⟩,
   ⟨(some 46), none, .none, .mv (.t 4)⟩,
   ⟨(some 47), none, .none, .mv (.t 4)⟩,
   ⟨(some 48), none, .none, .ib .add (.t 47) (.c (.lit (.int .i64 1)))⟩,
   ⟨(some 49), none, .none, .sls (.t 45) (some (.t 46)) (some (.t 48))⟩,
   ⟨(some 50), none, .none, .sb .add (.t 44) (.t 49)⟩,
   ⟨(some 3), none, .none, .mv (.t 50)⟩]
def K.ref19_Shown_p2 : BC := .ops [⟨(some 58), none, .none, .mv (.t 3)⟩,
   ⟨(some 59), none, .none, .sb .add (.t 58) (.c (.lit (.string (bs [92]))))⟩,
   ⟨(some 60), none, .none, .mv (.t 5)⟩,
   ⟨(some 61), none, .none, .ib .sub (.t 60) (.c (.lit (.int .u8 7)))⟩,
   ⟨(some 62), none, .none, .mv (.t 5)⟩,
   ⟨(some 63), none, .none, .ib .sub (.t 62) (.c (.lit (.int .u8 6)))⟩,
   ⟨(some 64), none, .none, .sls (.c (.lit (.string (bs [97, 98, 116, 110, 118, 102, 114])))) (some (.t 61)) (some (.t 63))⟩,
   ⟨(some 65), none, .none, .sb .add (.t 59) (.t 64)⟩,
   ⟨(some 3), none, .none, .mv (.t 65)⟩]
def K.ref19_Shown_p3 : BC := .ops [⟨(some 14), none, .none, .mv (.t 3)⟩,
   ⟨(some 15), none, .none, .sb .add (.t 14) (.c (.lit (.string (bs [92]))))⟩,
   ⟨(some 16), none, .none, .mv (.t 5)⟩,
   ⟨(some 17), none, .none, .ib .quo (.t 16) (.c (.lit (.int .u8 64)))⟩,
   ⟨(some 18), none, (.at (.t 17)), .cvi .i64 (.t 17)⟩,
   ⟨(some 19), none, .none, .cl 17 [(.t 18)]⟩,
   ⟨(some 20), none, .none, .sb .add (.t 15) (.t 19)⟩,
   ⟨(some 21), none, .none, .mv (.t 5)⟩,
   ⟨(some 22), none, .none, .ib .quo (.t 21) (.c (.lit (.int .u8 8)))⟩,
   ⟨(some 23), none, .none, .ib .rem (.t 22) (.c (.lit (.int .u8 8)))⟩,
   ⟨(some 24), none, (.at (.t 23)), .cvi .i64 (.t 23)⟩,
   ⟨(some 25), none, .none, .cl 17 [(.t 24)]⟩,
   ⟨(some 26), none, .none, .sb .add (.t 20) (.t 25)⟩,
   ⟨(some 27), none, .none, .mv (.t 5)⟩,
   ⟨(some 28), none, .none, .ib .rem (.t 27) (.c (.lit (.int .u8 8)))⟩,
   ⟨(some 29), none, (.at (.t 28)), .cvi .i64 (.t 28)⟩,
   ⟨(some 30), none, .none, .cl 17 [(.t 29)]⟩,
   ⟨(some 31), none, .none, .sb .add (.t 26) (.t 30)⟩,
   ⟨(some 3), none, .none, .mv (.t 31)⟩]
def K.ref19_Shown_p4 : BC := .cond (.t 51) K.ref19_Shown_p2 K.ref19_Shown_p3
def K.ref19_Shown_p5 : BC := .seq (.ops [⟨(some 52), none, .none, .mv (.t 5)⟩,
    ⟨(some 53), none, .none, .ib .geq (.t 52) (.c (.lit (.int .u8 7)))⟩,
    ⟨(some 54), none, .none, .mv (.t 53)⟩,
    ⟨(some 55), (some (54, true)), .none, .mv (.t 5)⟩,
    ⟨(some 56), (some (54, true)), .none, .ib .leq (.t 55) (.c (.lit (.int .u8 13)))⟩,
    ⟨(some 57), none, .none, .pk (.t 54) (.t 56) (.c (.lit (.bool false)))⟩,
    ⟨(some 51), none, .none, .mv (.t 57)⟩]) K.ref19_Shown_p4
def K.ref19_Shown_p6 : BC := .cond (.t 37) K.ref19_Shown_p1 K.ref19_Shown_p5
def K.ref19_Shown_p7 : BC := .seq (.ops [⟨(some 38), none, .none, .mv (.t 5)⟩,
    ⟨(some 39), none, .none, .ib .geq (.t 38) (.c (.lit (.int .u8 32)))⟩,
    ⟨(some 40), none, .none, .mv (.t 39)⟩,
    ⟨(some 41), (some (40, true)), .none, .mv (.t 5)⟩,
    ⟨(some 42), (some (40, true)), .none, .ib .lss (.t 41) (.c (.lit (.int .u8 127)))⟩,
    ⟨(some 43), none, .none, .pk (.t 40) (.t 42) (.c (.lit (.bool false)))⟩,
    ⟨(some 37), none, .none, .mv (.t 43)⟩]) K.ref19_Shown_p6
def K.ref19_Shown_p8 : BC := .cond (.t 32) K.ref19_Shown_p0 K.ref19_Shown_p7
def K.ref19_Shown_p9 : BC := .block 2 (.seq (.ops [⟨(some 33), none, .none, .mv (.t 5)⟩,
     ⟨(some 34), none, .none, .ib .eql (.t 33) (.c (.lit (.int .u8 92)))⟩,
     ⟨(some 32), none, .none, .mv (.t 34)⟩]) K.ref19_Shown_p8)
def K.ref19_Shown_p10 : BC := .seq (.ops [⟨(some 11), none, .none, .mv (.t 0)⟩,
    ⟨(some 12), none, .none, .mv (.t 4)⟩,
    ⟨(some 13), none, .none, .xs (.t 11) (.t 12)⟩,
    ⟨(some 5), none, .none, .mv (.t 13)⟩]) K.ref19_Shown_p9
def K.ref19_Shown_p11 : BC := .ops [⟨(some 66), none, .none, .ib .add (.t 8) (.c (.lit (.int .i64 1)))⟩,
   ⟨(some 8), none, .none, .mv (.t 66)⟩]
def K.ref19_Shown_p12 : BC := .seq (.block 1 (.seq (.ops [⟨(some 10), none, .none, .mv (.t 8)⟩,
      ⟨(some 4), none, .none, .mv (.t 10)⟩]) K.ref19_Shown_p10)) K.ref19_Shown_p11
def K.ref19_Shown_p13 : BC := .seq (.cond (.t 9) .skip (.exit 0)) K.ref19_Shown_p12
def K.ref19_Shown_p14 : BC := .seq (.ops [⟨(some 9), none, .none, .ib .lss (.t 8) (.t 7)⟩]) K.ref19_Shown_p13
def K.ref19_Shown_p15 : BC := .seq (.ops [⟨(some 67), none, .none, .mv (.t 3)⟩,
    ⟨(some 2), none, .none, .mv (.t 67)⟩]) .ret
def K.ref19_Shown_p16 : BC := .block 0 (.loop K.ref19_Shown_p14)
def K.ref19_Shown_p17 : BC := .seq (.seq (.ops [⟨(some 6), none, .none, .mv (.t 0)⟩,
     ⟨(some 7), none, (.at (.t 6)), .ls (.t 6)⟩,
     ⟨(some 8), none, .none, .mv (.c (.lit (.int .i64 0)))⟩]) K.ref19_Shown_p16) K.ref19_Shown_p15
def K.ref19_Shown_p18 : BC := .seq (.ops [⟨(some 3), none, .none, .mv (.c (.lit (.string (bs []))))⟩]) K.ref19_Shown_p17
def K.ref19_Shown : BFn := ⟨68, [.t 2],
  .seq (.ops [⟨(some 2), none, .none, .mv (.c (.lit (.string (bs []))))⟩]) K.ref19_Shown_p18⟩
def K.law19_MachShows_p0 : BC := .seq (.ops [⟨(some 2), none, .none, .mv (.c (.lit (.bool false)))⟩]) .ret
def K.law19_MachShows_p1 : BC := .cond (.t 29) K.law19_MachShows_p0 .skip
def K.law19_MachShows_p2 : BC := .seq (.ops [⟨(some 20), none, .none, .mv (.t 3)⟩,
    ⟨(some 21), none, .none, .mv (.t 4)⟩,
    ⟨(some 22), none, .none, .xs (.t 20) (.t 21)⟩,
    ⟨(some 23), none, .none, .ib .lss (.t 22) (.c (.lit (.int .u8 32)))⟩,
    ⟨(some 24), none, .none, .mv (.t 23)⟩,
    ⟨(some 25), (some (24, false)), .none, .mv (.t 3)⟩,
    ⟨(some 26), (some (24, false)), .none, .mv (.t 4)⟩,
    ⟨(some 27), (some (24, false)), .none, .xs (.t 25) (.t 26)⟩,
    ⟨(some 28), (some (24, false)), .none, .ib .gtr (.t 27) (.c (.lit (.int .u8 126)))⟩,
    ⟨(some 29), none, .none, .pk (.t 24) (.c (.lit (.bool true))) (.t 28)⟩]) K.law19_MachShows_p1
def K.law19_MachShows_p3 : BC := .ops [⟨(some 30), none, .none, .ib .add (.t 17) (.c (.lit (.int .i64 1)))⟩,
   ⟨(some 17), none, .none, .mv (.t 30)⟩]
def K.law19_MachShows_p4 : BC := .seq (.block 1 (.seq (.ops [⟨(some 19), none, .none, .mv (.t 17)⟩,
      ⟨(some 4), none, .none, .mv (.t 19)⟩]) K.law19_MachShows_p2)) K.law19_MachShows_p3
def K.law19_MachShows_p5 : BC := .seq (.cond (.t 18) .skip (.exit 0)) K.law19_MachShows_p4
def K.law19_MachShows_p6 : BC := .seq (.ops [⟨(some 18), none, .none, .ib .lss (.t 17) (.t 16)⟩]) K.law19_MachShows_p5
def K.law19_MachShows_p7 : BC := .seq (.ops [⟨(some 31), none, .none, .mv (.t 3)⟩,
    ⟨(some 32), none, .none, .mv (.t 0)⟩,
    ⟨(some 33), none, .none, .cl 6 [(.t 32)]⟩,
    ⟨(some 34), none, .none, .sb .eql (.t 31) (.t 33)⟩,
    ⟨(some 2), none, .none, .mv (.t 34)⟩]) .ret
def K.law19_MachShows_p8 : BC := .seq (.ops [⟨(some 12), none, .none, .cl 4 []⟩,
    ⟨(some 2), none, .none, .mv (.t 12)⟩]) .ret
def K.law19_MachShows_p9 : BC := .cond (.t 11) K.law19_MachShows_p8 .skip
def K.law19_MachShows_p10 : BC := .block 0 (.loop K.law19_MachShows_p6)
def K.law19_MachShows_p11 : BC := .seq (.seq (.ops [⟨(some 15), none, .none, .mv (.t 3)⟩,
     ⟨(some 16), none, (.at (.t 15)), .ls (.t 15)⟩,
     ⟨(some 17), none, .none, .mv (.c (.lit (.int .i64 0)))⟩]) K.law19_MachShows_p10) K.law19_MachShows_p7
def K.law19_MachShows_p12 : BC := .seq (.ops [⟨(some 13), none, .none, .mv (.t 0)⟩,
    ⟨(some 14), none, .none, .cl 5 [(.t 13)]⟩,
    ⟨(some 3), none, .none, .mv (.t 14)⟩]) K.law19_MachShows_p11
def K.law19_MachShows_p13 : BC := .seq (.seq (.ops [⟨(some 5), none, .none, .cl 4 []⟩,
     ⟨(some 6), none, .none, .nt (.t 5)⟩,
     ⟨(some 7), none, .none, .mv (.t 6)⟩,
     ⟨(some 8), (some (7, false)), .none, .mv (.t 0)⟩,
     ⟨(some 9), (some (7, false)), (.at (.t 8)), .ls (.t 8)⟩,
     ⟨(some 10), (some (7, false)), .none, .ib .gtr (.t 9) (.c (.lit (.int .i64 300)))⟩,
     ⟨(some 11), none, .none, .pk (.t 7) (.c (.lit (.bool true))) (.t 10)⟩]) K.law19_MachShows_p9) K.law19_MachShows_p12
def K.law19_MachShows : BFn := ⟨35, [.t 2],
  .seq (.ops [⟨(some 2), none, .none, .mv (.c (.lit (.bool false)))⟩]) K.law19_MachShows_p13⟩
class CodeAll (P : Program) : Prop where
  mach_Shown : compF P F.mach_Shown = some K.mach_Shown
  ref06_Digits : compF P F.ref06_Digits = some K.ref06_Digits
  ref19_Shown : compF P F.ref19_Shown = some K.ref19_Shown
  law19_MachShows : compF P F.law19_MachShows = some K.law19_MachShows
  bld : BldC P 44 47 172 4 5 65 36 13 14 16
  ext_law19_awake (r : Bool) (h : (some true : Option Bool) = some r) : ∃ v, callT P F.law19_awake [] .bare = some (.ret v, none) ∧ ResC [.bool r] v
  ext_strconv_FormatInt (a0 : Int) (a1 : Int) (r : List UInt8) (h : G.fmt8 a0 a1 = some r) : ∃ v, callT P F.strconv_FormatInt [.lit (.int .i64 a0), .lit (.int .i64 a1)] .bare = some (.ret v, none) ∧ ResC [.str r] v
end Go.Proofs.YtjdccpmbaobpdaaGreatDoor
