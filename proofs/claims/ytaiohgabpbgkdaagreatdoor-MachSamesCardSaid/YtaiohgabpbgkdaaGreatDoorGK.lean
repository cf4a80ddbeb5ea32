/-
  Code: written by a program.
-/
import Derived.Test.YtaiohgabpbgkdaaGreatDoorNames
import Derived.Test.YtaiohgabpbgkdaaGreatDoorGT
namespace Go.Proofs.YtaiohgabpbgkdaaGreatDoor
open Go.RowKit

def K.slices_Equal_int_int_p0 : BC := .seq (.ops [⟨(some 4), none, .none, .mv (.c (.lit (.bool false)))⟩]) .ret
def K.slices_Equal_int_int_p1 : BC := .cond (.t 24) K.slices_Equal_int_int_p0 .skip
def K.slices_Equal_int_int_p2 : BC := .seq (.draw [⟨(some 16), none, .none, .mv (.t 0)⟩,
    ⟨(some 17), none, .none, .mv (.t 5)⟩,
    ⟨(some 18), none, .none, .ia 1 (.t 16) (.t 17)⟩,
    ⟨(some 19), none, (.at (.t 18)), .ld1 (.t 18)⟩,
    ⟨(some 20), none, .none, .mv (.t 1)⟩,
    ⟨(some 21), none, .none, .mv (.t 5)⟩,
    ⟨(some 22), none, .none, .ia 1 (.t 20) (.t 21)⟩,
    ⟨(some 23), none, (.at (.t 22)), .ld1 (.t 22)⟩,
    ⟨(some 24), none, .none, .ib .neq (.t 19) (.t 23)⟩] []) K.slices_Equal_int_int_p1
def K.slices_Equal_int_int_p3 : BC := .ops [⟨(some 25), none, .none, .ib .add (.t 13) (.c (.lit (.int .i64 1)))⟩,
   ⟨(some 13), none, .none, .mv (.t 25)⟩]
def K.slices_Equal_int_int_p4 : BC := .seq (.block 1 (.seq (.ops [⟨(some 15), none, .none, .mv (.t 13)⟩,
      ⟨(some 5), none, .none, .mv (.t 15)⟩]) K.slices_Equal_int_int_p2)) K.slices_Equal_int_int_p3
def K.slices_Equal_int_int_p5 : BC := .seq (.cond (.t 14) .skip (.exit 0)) K.slices_Equal_int_int_p4
def K.slices_Equal_int_int_p6 : BC := .seq (.ops [⟨(some 14), none, .none, .ib .lss (.t 13) (.t 12)⟩]) K.slices_Equal_int_int_p5
def K.slices_Equal_int_int_p7 : BC := .seq (.ops [⟨(some 4), none, .none, .mv (.c (.lit (.bool true)))⟩]) .ret
def K.slices_Equal_int_int_p8 : BC := .seq (.ops [⟨(some 4), none, .none, .mv (.c (.lit (.bool false)))⟩]) .ret
def K.slices_Equal_int_int_p9 : BC := .cond (.t 10) K.slices_Equal_int_int_p8 .skip
def K.slices_Equal_int_int_p10 : BC := .block 0 (.loop K.slices_Equal_int_int_p6)
def K.slices_Equal_int_int_p11 : BC := .seq (.seq (.ops [⟨(some 11), none, .none, .mv (.t 0)⟩,
     ⟨(some 12), none, (.at (.t 11)), .ll (.t 11)⟩,
     ⟨(some 13), none, .none, .mv (.c (.lit (.int .i64 0)))⟩]) K.slices_Equal_int_int_p10) K.slices_Equal_int_int_p7
def K.slices_Equal_int_int_p12 : BC := .seq (.seq (.ops [⟨(some 6), none, .none, .mv (.t 0)⟩,
     ⟨(some 7), none, (.at (.t 6)), .ll (.t 6)⟩,
     ⟨(some 8), none, .none, .mv (.t 1)⟩,
     ⟨(some 9), none, (.at (.t 8)), .ll (.t 8)⟩,
     ⟨(some 10), none, .none, .ib .neq (.t 7) (.t 9)⟩]) K.slices_Equal_int_int_p9) K.slices_Equal_int_int_p11
def K.slices_Equal_int_int : BFn := ⟨26, [.t 4],
  .seq (.ops [⟨(some 4), none, .none, .mv (.c (.lit (.bool false)))⟩]) K.slices_Equal_int_int_p12⟩
def K.slices_Equal_mach_Item_mach_Item_p0 : BC := .seq (.ops [⟨(some 4), none, .none, .mv (.c (.lit (.bool false)))⟩]) .ret
def K.slices_Equal_mach_Item_mach_Item_p1 : BC := .cond (.t 24) K.slices_Equal_mach_Item_mach_Item_p0 .skip
def K.slices_Equal_mach_Item_mach_Item_p2 : BC := .seq (.draw [⟨(some 16), none, .none, .mv (.t 0)⟩,
    ⟨(some 17), none, .none, .mv (.t 5)⟩,
    ⟨(some 18), none, .none, .ia 2 (.t 16) (.t 17)⟩,
    ⟨(some 19), none, (.at (.t 18)), .ldn 2 (.t 18)⟩,
    ⟨(some 20), none, .none, .mv (.t 1)⟩,
    ⟨(some 21), none, .none, .mv (.t 5)⟩,
    ⟨(some 22), none, .none, .ia 2 (.t 20) (.t 21)⟩,
    ⟨(some 23), none, (.at (.t 22)), .ldn 2 (.t 22)⟩,
    ⟨(some 24), none, .none, .ce true [(0, 0), (1, 2)] (.t 19) (.t 23)⟩] []) K.slices_Equal_mach_Item_mach_Item_p1
def K.slices_Equal_mach_Item_mach_Item_p3 : BC := .ops [⟨(some 25), none, .none, .ib .add (.t 13) (.c (.lit (.int .i64 1)))⟩,
   ⟨(some 13), none, .none, .mv (.t 25)⟩]
def K.slices_Equal_mach_Item_mach_Item_p4 : BC := .seq (.block 1 (.seq (.ops [⟨(some 15), none, .none, .mv (.t 13)⟩,
      ⟨(some 5), none, .none, .mv (.t 15)⟩]) K.slices_Equal_mach_Item_mach_Item_p2)) K.slices_Equal_mach_Item_mach_Item_p3
def K.slices_Equal_mach_Item_mach_Item_p5 : BC := .seq (.cond (.t 14) .skip (.exit 0)) K.slices_Equal_mach_Item_mach_Item_p4
def K.slices_Equal_mach_Item_mach_Item_p6 : BC := .seq (.ops [⟨(some 14), none, .none, .ib .lss (.t 13) (.t 12)⟩]) K.slices_Equal_mach_Item_mach_Item_p5
def K.slices_Equal_mach_Item_mach_Item_p7 : BC := .seq (.ops [⟨(some 4), none, .none, .mv (.c (.lit (.bool true)))⟩]) .ret
def K.slices_Equal_mach_Item_mach_Item_p8 : BC := .seq (.ops [⟨(some 4), none, .none, .mv (.c (.lit (.bool false)))⟩]) .ret
def K.slices_Equal_mach_Item_mach_Item_p9 : BC := .cond (.t 10) K.slices_Equal_mach_Item_mach_Item_p8 .skip
def K.slices_Equal_mach_Item_mach_Item_p10 : BC := .block 0 (.loop K.slices_Equal_mach_Item_mach_Item_p6)
def K.slices_Equal_mach_Item_mach_Item_p11 : BC := .seq (.seq (.ops [⟨(some 11), none, .none, .mv (.t 0)⟩,
     ⟨(some 12), none, (.at (.t 11)), .ll (.t 11)⟩,
     ⟨(some 13), none, .none, .mv (.c (.lit (.int .i64 0)))⟩]) K.slices_Equal_mach_Item_mach_Item_p10) K.slices_Equal_mach_Item_mach_Item_p7
def K.slices_Equal_mach_Item_mach_Item_p12 : BC := .seq (.seq (.ops [⟨(some 6), none, .none, .mv (.t 0)⟩,
     ⟨(some 7), none, (.at (.t 6)), .ll (.t 6)⟩,
     ⟨(some 8), none, .none, .mv (.t 1)⟩,
     ⟨(some 9), none, (.at (.t 8)), .ll (.t 8)⟩,
     ⟨(some 10), none, .none, .ib .neq (.t 7) (.t 9)⟩]) K.slices_Equal_mach_Item_mach_Item_p9) K.slices_Equal_mach_Item_mach_Item_p11
def K.slices_Equal_mach_Item_mach_Item : BFn := ⟨26, [.t 4],
  .seq (.ops [⟨(some 4), none, .none, .mv (.c (.lit (.bool false)))⟩]) K.slices_Equal_mach_Item_mach_Item_p12⟩
def K.mach_Same_p0 : BC := .seq (.ops [⟨(some 5), none, .none, .fa 0 (.t 2)⟩,
    ⟨(some 6), none, (.at (.t 5)), .ld1 (.t 5)⟩,
    ⟨(some 7), none, .none, .fa 0 (.t 3)⟩,
    ⟨(some 8), none, (.at (.t 7)), .ld1 (.t 7)⟩,
    ⟨(some 9), none, .none, .ib .eql (.t 6) (.t 8)⟩,
    ⟨(some 10), none, .none, .mv (.t 9)⟩,
    ⟨(some 11), (some (10, true)), .none, .fa 1 (.t 2)⟩,
    ⟨(some 12), (some (10, true)), (.at (.t 11)), .ld1 (.t 11)⟩,
    ⟨(some 13), (some (10, true)), .none, .fa 1 (.t 3)⟩,
    ⟨(some 14), (some (10, true)), (.at (.t 13)), .ld1 (.t 13)⟩,
    ⟨(some 15), (some (10, true)), .none, .sb .eql (.t 12) (.t 14)⟩,
    ⟨(some 16), none, .none, .pk (.t 10) (.t 15) (.c (.lit (.bool false)))⟩,
    ⟨(some 17), none, .none, .mv (.t 16)⟩,
    ⟨(some 18), (some (17, true)), .none, .fa 2 (.t 2)⟩,
    ⟨(some 19), (some (17, true)), (.at (.t 18)), .ld1 (.t 18)⟩,
    ⟨(some 20), (some (17, true)), .none, .fa 2 (.t 3)⟩,
    ⟨(some 21), (some (17, true)), (.at (.t 20)), .ld1 (.t 20)⟩,
    ⟨(some 22), (some (17, true)), .none, .sb .eql (.t 19) (.t 21)⟩,
    ⟨(some 23), none, .none, .pk (.t 17) (.t 22) (.c (.lit (.bool false)))⟩,
    ⟨(some 24), none, .none, .mv (.t 23)⟩,
    ⟨(some 25), (some (24, true)), .none, .fa 3 (.t 2)⟩,
    ⟨(some 26), (some (24, true)), (.at (.t 25)), .ld1 (.t 25)⟩,
    ⟨(some 27), (some (24, true)), .none, .fa 3 (.t 3)⟩,
    ⟨(some 28), (some (24, true)), (.at (.t 27)), .ld1 (.t 27)⟩,
    ⟨(some 29), (some (24, true)), .none, .bb false (.t 26) (.t 28)⟩,
    ⟨(some 30), none, .none, .pk (.t 24) (.t 29) (.c (.lit (.bool false)))⟩,
    ⟨(some 31), none, .none, .mv (.t 30)⟩,
    ⟨(some 32), (some (31, true)), .none, .fa 4 (.t 2)⟩,
    ⟨(some 33), (some (31, true)), (.at (.t 32)), .ld1 (.t 32)⟩,
    ⟨(some 34), (some (31, true)), .none, .fa 4 (.t 3)⟩,
    ⟨(some 35), (some (31, true)), (.at (.t 34)), .ld1 (.t 34)⟩,
    ⟨(some 36), (some (31, true)), .none, .ib .eql (.t 33) (.t 35)⟩,
    ⟨(some 37), none, .none, .pk (.t 31) (.t 36) (.c (.lit (.bool false)))⟩,
    ⟨(some 38), none, .none, .mv (.t 37)⟩,
    ⟨(some 39), (some (38, true)), .none, .fa 7 (.t 2)⟩,
    ⟨(some 40), (some (38, true)), (.at (.t 39)), .ld1 (.t 39)⟩,
    ⟨(some 41), (some (38, true)), .none, .fa 7 (.t 3)⟩,
    ⟨(some 42), (some (38, true)), (.at (.t 41)), .ld1 (.t 41)⟩,
    ⟨(some 43), (some (38, true)), .none, .bb false (.t 40) (.t 42)⟩,
    ⟨(some 44), none, .none, .pk (.t 38) (.t 43) (.c (.lit (.bool false)))⟩,
    ⟨(some 45), none, .none, .mv (.t 44)⟩,
    ⟨(some 46), (some (45, true)), .none, .fa 5 (.t 2)⟩,
    ⟨(some 47), (some (45, true)), (.at (.t 46)), .ld1 (.t 46)⟩,
    ⟨(some 48), (some (45, true)), .none, .fa 5 (.t 3)⟩,
    ⟨(some 49), (some (45, true)), (.at (.t 48)), .ld1 (.t 48)⟩,
    ⟨(some 50), (some (45, true)), .none, .cl 83 [(.t 47), (.t 49)]⟩,
    ⟨(some 51), none, .none, .pk (.t 45) (.t 50) (.c (.lit (.bool false)))⟩,
    ⟨(some 52), none, .none, .mv (.t 51)⟩,
    ⟨(some 53), (some (52, true)), .none, .fa 6 (.t 2)⟩,
    ⟨(some 54), (some (52, true)), (.at (.t 53)), .ld1 (.t 53)⟩,
    ⟨(some 55), (some (52, true)), .none, .fa 6 (.t 3)⟩,
    ⟨(some 56), (some (52, true)), (.at (.t 55)), .ld1 (.t 55)⟩,
    ⟨(some 57), (some (52, true)), .none, .cl 84 [(.t 54), (.t 56)]⟩,
    ⟨(some 58), none, .none, .pk (.t 52) (.t 57) (.c (.lit (.bool false)))⟩,
    ⟨(some 4), none, .none, .mv (.t 58)⟩]) .ret
def K.mach_Same : BFn := ⟨59, [.t 4],
  .seq (.ops [⟨(some 2), none, .here, .bx 118 (.t 0)⟩,
    ⟨(some 3), none, .here, .bx 118 (.t 1)⟩,
    ⟨(some 4), none, .none, .mv (.c (.lit (.bool false)))⟩]) K.mach_Same_p0⟩
def K.law19_stated_p0 : BC := .ops [⟨(some 30), none, .none, .fa 6 (.t 3)⟩,
   ⟨(some 31), none, (.at (.t 30)), .ld1 (.t 30)⟩,
   ⟨(some 32), none, .none, .fa 0 (.t 5)⟩,
   ⟨(some 33), none, (.at (.t 32)), .ld1 (.t 32)⟩,
   ⟨(some 34), none, .none, .fa 1 (.t 5)⟩,
   ⟨(some 35), none, (.at (.t 34)), .ld1 (.t 34)⟩,
   ⟨(some 36), none, .none, .bd [(.lit (.bool false)), (.lit (.string (bs [])))] [(0, 1, (.t 33)), (1, 1, (.t 35))]⟩,
   ⟨(some 37), none, .here, .bsl 213 2 [(.t 36)]⟩,
   ⟨(some 38), none, (.app (.t 31) (.t 37)), .ap 213 2 24 (.t 31) (.t 37)⟩,
   ⟨(some 39), none, .none, .fa 6 (.t 3)⟩,
   ⟨none, none, (.at (.t 39)), .st 1 (.t 39) (.t 38)⟩]
def K.law19_stated_p1 : BC := .ops [⟨(some 40), none, .none, .ib .add (.t 26) (.c (.lit (.int .i64 1)))⟩,
   ⟨(some 26), none, .none, .mv (.t 40)⟩]
def K.law19_stated_p2 : BC := .seq (.block 1 (.seq (.ops [⟨(some 28), none, .none, .ia 2 (.t 24) (.t 26)⟩,
      ⟨(some 29), none, (.at (.t 28)), .ldn 2 (.t 28)⟩,
      ⟨(some 5), none, .here, .al 217 [(.lit (.bool false)), (.lit (.string (bs [])))]⟩,
      ⟨none, none, (.at (.t 5)), .st 2 (.t 5) (.t 29)⟩]) K.law19_stated_p0)) K.law19_stated_p1
def K.law19_stated_p3 : BC := .seq (.cond (.t 27) .skip (.exit 0)) K.law19_stated_p2
def K.law19_stated_p4 : BC := .seq (.ops [⟨(some 27), none, .none, .ib .lss (.t 26) (.t 25)⟩]) K.law19_stated_p3
def K.law19_stated_p5 : BC := .seq (.ops [⟨(some 41), none, (.at (.t 3)), .ldn 8 (.t 3)⟩,
    ⟨none, none, (.at (.t 2)), .st 8 (.t 2) (.t 41)⟩]) .ret
def K.law19_stated_p6 : BC := .block 0 (.loop K.law19_stated_p4)
def K.law19_stated_p7 : BC := .seq (.seq (.ops [⟨(some 23), none, .none, .fa 6 (.t 1)⟩,
     ⟨(some 24), none, (.at (.t 23)), .ld1 (.t 23)⟩,
     ⟨(some 25), none, (.at (.t 24)), .ll (.t 24)⟩,
     ⟨(some 26), none, .none, .mv (.c (.lit (.int .i64 0)))⟩]) K.law19_stated_p6) K.law19_stated_p5
def K.law19_stated_p8 : BC := .seq (.draw [⟨(some 6), none, .none, .fa 0 (.t 1)⟩,
    ⟨(some 7), none, (.at (.t 6)), .ld1 (.t 6)⟩,
    ⟨(some 8), none, .none, .fa 1 (.t 1)⟩,
    ⟨(some 9), none, (.at (.t 8)), .ld1 (.t 8)⟩,
    ⟨(some 10), none, .none, .fa 2 (.t 1)⟩,
    ⟨(some 11), none, (.at (.t 10)), .ld1 (.t 10)⟩,
    ⟨(some 12), none, .none, .fa 3 (.t 1)⟩,
    ⟨(some 13), none, (.at (.t 12)), .ld1 (.t 12)⟩,
    ⟨(some 14), none, .none, .fa 4 (.t 1)⟩,
    ⟨(some 15), none, (.at (.t 14)), .ld1 (.t 14)⟩,
    ⟨(some 16), none, .here, .bsl 3 1 []⟩,
    ⟨(some 17), none, .none, .fa 5 (.t 1)⟩,
    ⟨(some 18), none, (.at (.t 17)), .ld1 (.t 17)⟩,
    ⟨(some 19), none, (.app (.t 16) (.t 18)), .ap 3 1 8 (.t 16) (.t 18)⟩,
    ⟨(some 20), none, .none, .fa 7 (.t 1)⟩,
    ⟨(some 21), none, (.at (.t 20)), .ld1 (.t 20)⟩,
    ⟨(some 22), none, .none, .bd [(.lit (.int .i64 0)), (.lit (.string (bs []))), (.lit (.string (bs []))), (.lit (.bool false)), (.lit (.int .i64 0)), (.lit (.slice none 0 0)), (.lit (.slice none 0 0)), (.lit (.bool false))] [(0, 1, (.t 7)), (1, 1, (.t 9)), (2, 1, (.t 11)), (3, 1, (.t 13)), (4, 1, (.t 15)), (5, 1, (.t 19)), (7, 1, (.t 21))]⟩,
    ⟨(some 3), none, .here, .al 118 [(.lit (.int .i64 0)), (.lit (.string (bs []))), (.lit (.string (bs []))), (.lit (.bool false)), (.lit (.int .i64 0)), (.lit (.slice none 0 0)), (.lit (.slice none 0 0)), (.lit (.bool false))]⟩,
    ⟨none, none, (.at (.t 3)), .st 8 (.t 3) (.t 22)⟩] [(1, 10), (3, 10), (5, 10), (7, 10), (9, 10), (10, 12), (1, 13), (3, 13), (5, 13), (7, 13), (9, 13), (10, 15), (13, 15), (1, 17), (3, 17), (5, 17), (7, 17), (9, 17), (10, 17), (12, 17), (13, 17), (15, 17)]) K.law19_stated_p7
def K.law19_stated : BFn := ⟨42, [.cn 2 8],
  .seq (.ops [⟨(some 1), none, .here, .bx 112 (.t 0)⟩,
    ⟨(some 2), none, .here, .al 118 [(.lit (.int .i64 0)), (.lit (.string (bs []))), (.lit (.string (bs []))), (.lit (.bool false)), (.lit (.int .i64 0)), (.lit (.slice none 0 0)), (.lit (.slice none 0 0)), (.lit (.bool false))]⟩]) K.law19_stated_p8⟩
def K.ref19_Same_p0 : BC := .seq (.ops [⟨(some 4), none, .none, .mv (.c (.lit (.bool false)))⟩]) .ret
def K.ref19_Same_p1 : BC := .cond (.t 81) K.ref19_Same_p0 .skip
def K.ref19_Same_p2 : BC := .seq (.draw [⟨(some 71), none, .none, .fa 5 (.t 2)⟩,
    ⟨(some 72), none, (.at (.t 71)), .ld1 (.t 71)⟩,
    ⟨(some 73), none, .none, .mv (.t 5)⟩,
    ⟨(some 74), none, .none, .ia 1 (.t 72) (.t 73)⟩,
    ⟨(some 75), none, (.at (.t 74)), .ld1 (.t 74)⟩,
    ⟨(some 76), none, .none, .fa 5 (.t 3)⟩,
    ⟨(some 77), none, (.at (.t 76)), .ld1 (.t 76)⟩,
    ⟨(some 78), none, .none, .mv (.t 5)⟩,
    ⟨(some 79), none, .none, .ia 1 (.t 77) (.t 78)⟩,
    ⟨(some 80), none, (.at (.t 79)), .ld1 (.t 79)⟩,
    ⟨(some 81), none, .none, .ib .neq (.t 75) (.t 80)⟩] []) K.ref19_Same_p1
def K.ref19_Same_p3 : BC := .ops [⟨(some 82), none, .none, .ib .add (.t 68) (.c (.lit (.int .i64 1)))⟩,
   ⟨(some 68), none, .none, .mv (.t 82)⟩]
def K.ref19_Same_p4 : BC := .seq (.block 1 (.seq (.ops [⟨(some 70), none, .none, .mv (.t 68)⟩,
      ⟨(some 5), none, .none, .mv (.t 70)⟩]) K.ref19_Same_p2)) K.ref19_Same_p3
def K.ref19_Same_p5 : BC := .seq (.cond (.t 69) .skip (.exit 0)) K.ref19_Same_p4
def K.ref19_Same_p6 : BC := .seq (.ops [⟨(some 69), none, .none, .ib .lss (.t 68) (.t 67)⟩]) K.ref19_Same_p5
def K.ref19_Same_p7 : BC := .seq (.ops [⟨(some 4), none, .none, .mv (.c (.lit (.bool false)))⟩]) .ret
def K.ref19_Same_p8 : BC := .cond (.t 99) K.ref19_Same_p7 .skip
def K.ref19_Same_p9 : BC := .seq (.draw [⟨(some 89), none, .none, .fa 6 (.t 2)⟩,
    ⟨(some 90), none, (.at (.t 89)), .ld1 (.t 89)⟩,
    ⟨(some 91), none, .none, .mv (.t 6)⟩,
    ⟨(some 92), none, .none, .ia 2 (.t 90) (.t 91)⟩,
    ⟨(some 93), none, (.at (.t 92)), .ldn 2 (.t 92)⟩,
    ⟨(some 94), none, .none, .fa 6 (.t 3)⟩,
    ⟨(some 95), none, (.at (.t 94)), .ld1 (.t 94)⟩,
    ⟨(some 96), none, .none, .mv (.t 6)⟩,
    ⟨(some 97), none, .none, .ia 2 (.t 95) (.t 96)⟩,
    ⟨(some 98), none, (.at (.t 97)), .ldn 2 (.t 97)⟩,
    ⟨(some 99), none, .none, .ce true [(0, 0), (1, 2)] (.t 93) (.t 98)⟩] []) K.ref19_Same_p8
def K.ref19_Same_p10 : BC := .ops [⟨(some 100), none, .none, .ib .add (.t 86) (.c (.lit (.int .i64 1)))⟩,
   ⟨(some 86), none, .none, .mv (.t 100)⟩]
def K.ref19_Same_p11 : BC := .seq (.block 3 (.seq (.ops [⟨(some 88), none, .none, .mv (.t 86)⟩,
      ⟨(some 6), none, .none, .mv (.t 88)⟩]) K.ref19_Same_p9)) K.ref19_Same_p10
def K.ref19_Same_p12 : BC := .seq (.cond (.t 87) .skip (.exit 2)) K.ref19_Same_p11
def K.ref19_Same_p13 : BC := .seq (.ops [⟨(some 87), none, .none, .ib .lss (.t 86) (.t 85)⟩]) K.ref19_Same_p12
def K.ref19_Same_p14 : BC := .seq (.ops [⟨(some 4), none, .none, .mv (.c (.lit (.bool true)))⟩]) .ret
def K.ref19_Same_p15 : BC := .block 2 (.loop K.ref19_Same_p13)
def K.ref19_Same_p16 : BC := .seq (.seq (.ops [⟨(some 83), none, .none, .fa 6 (.t 2)⟩,
     ⟨(some 84), none, (.at (.t 83)), .ld1 (.t 83)⟩,
     ⟨(some 85), none, (.at (.t 84)), .ll (.t 84)⟩,
     ⟨(some 86), none, .none, .mv (.c (.lit (.int .i64 0)))⟩]) K.ref19_Same_p15) K.ref19_Same_p14
def K.ref19_Same_p17 : BC := .seq (.ops [⟨(some 4), none, .none, .mv (.c (.lit (.bool false)))⟩]) .ret
def K.ref19_Same_p18 : BC := .cond (.t 64) K.ref19_Same_p17 .skip
def K.ref19_Same_p19 : BC := .block 0 (.loop K.ref19_Same_p6)
def K.ref19_Same_p20 : BC := .seq (.seq (.ops [⟨(some 65), none, .none, .fa 5 (.t 2)⟩,
     ⟨(some 66), none, (.at (.t 65)), .ld1 (.t 65)⟩,
     ⟨(some 67), none, (.at (.t 66)), .ll (.t 66)⟩,
     ⟨(some 68), none, .none, .mv (.c (.lit (.int .i64 0)))⟩]) K.ref19_Same_p19) K.ref19_Same_p16
def K.ref19_Same_p21 : BC := .seq (.seq (.ops [⟨(some 7), none, .none, .fa 0 (.t 2)⟩,
     ⟨(some 8), none, (.at (.t 7)), .ld1 (.t 7)⟩,
     ⟨(some 9), none, .none, .fa 0 (.t 3)⟩,
     ⟨(some 10), none, (.at (.t 9)), .ld1 (.t 9)⟩,
     ⟨(some 11), none, .none, .ib .neq (.t 8) (.t 10)⟩,
     ⟨(some 12), none, .none, .mv (.t 11)⟩,
     ⟨(some 13), (some (12, false)), .none, .fa 1 (.t 2)⟩,
     ⟨(some 14), (some (12, false)), (.at (.t 13)), .ld1 (.t 13)⟩,
     ⟨(some 15), (some (12, false)), .none, .fa 1 (.t 3)⟩,
     ⟨(some 16), (some (12, false)), (.at (.t 15)), .ld1 (.t 15)⟩,
     ⟨(some 17), (some (12, false)), .none, .sb .neq (.t 14) (.t 16)⟩,
     ⟨(some 18), none, .none, .pk (.t 12) (.c (.lit (.bool true))) (.t 17)⟩,
     ⟨(some 19), none, .none, .mv (.t 18)⟩,
     ⟨(some 20), (some (19, false)), .none, .fa 2 (.t 2)⟩,
     ⟨(some 21), (some (19, false)), (.at (.t 20)), .ld1 (.t 20)⟩,
     ⟨(some 22), (some (19, false)), .none, .fa 2 (.t 3)⟩,
     ⟨(some 23), (some (19, false)), (.at (.t 22)), .ld1 (.t 22)⟩,
     ⟨(some 24), (some (19, false)), .none, .sb .neq (.t 21) (.t 23)⟩,
     ⟨(some 25), none, .none, .pk (.t 19) (.c (.lit (.bool true))) (.t 24)⟩,
     ⟨(some 26), none, .none, .mv (.t 25)⟩,
     ⟨(some 27), (some (26, false)), .none, .fa 3 (.t 2)⟩,
     ⟨(some 28), (some (26, false)), (.at (.t 27)), .ld1 (.t 27)⟩,
     ⟨(some 29), (some (26, false)), .none, .fa 3 (.t 3)⟩,
     ⟨(some 30), (some (26, false)), (.at (.t 29)), .ld1 (.t 29)⟩,
     ⟨(some 31), (some (26, false)), .none, .bb true (.t 28) (.t 30)⟩,
     ⟨(some 32), none, .none, .pk (.t 26) (.c (.lit (.bool true))) (.t 31)⟩,
     ⟨(some 33), none, .none, .mv (.t 32)⟩,
     ⟨(some 34), (some (33, false)), .none, .fa 4 (.t 2)⟩,
     ⟨(some 35), (some (33, false)), (.at (.t 34)), .ld1 (.t 34)⟩,
     ⟨(some 36), (some (33, false)), .none, .fa 4 (.t 3)⟩,
     ⟨(some 37), (some (33, false)), (.at (.t 36)), .ld1 (.t 36)⟩,
     ⟨(some 38), (some (33, false)), .none, .ib .neq (.t 35) (.t 37)⟩,
     ⟨(some 39), none, .none, .pk (.t 33) (.c (.lit (.bool true))) (.t 38)⟩,
     ⟨(some 40), none, .none, .mv (.t 39)⟩,
     ⟨(some 41), (some (40, false)), .none, .fa 7 (.t 2)⟩,
     ⟨(some 42), (some (40, false)), (.at (.t 41)), .ld1 (.t 41)⟩,
     ⟨(some 43), (some (40, false)), .none, .fa 7 (.t 3)⟩,
     ⟨(some 44), (some (40, false)), (.at (.t 43)), .ld1 (.t 43)⟩,
     ⟨(some 45), (some (40, false)), .none, .bb true (.t 42) (.t 44)⟩,
     ⟨(some 46), none, .none, .pk (.t 40) (.c (.lit (.bool true))) (.t 45)⟩,
     ⟨(some 47), none, .none, .mv (.t 46)⟩,
     ⟨(some 48), (some (47, false)), .none, .fa 5 (.t 2)⟩,
     ⟨(some 49), (some (47, false)), (.at (.t 48)), .ld1 (.t 48)⟩,
     ⟨(some 50), (some (47, false)), (.at (.t 49)), .ll (.t 49)⟩,
     ⟨(some 51), (some (47, false)), .none, .fa 5 (.t 3)⟩,
     ⟨(some 52), (some (47, false)), (.at (.t 51)), .ld1 (.t 51)⟩,
     ⟨(some 53), (some (47, false)), (.at (.t 52)), .ll (.t 52)⟩,
     ⟨(some 54), (some (47, false)), .none, .ib .neq (.t 50) (.t 53)⟩,
     ⟨(some 55), none, .none, .pk (.t 47) (.c (.lit (.bool true))) (.t 54)⟩,
     ⟨(some 56), none, .none, .mv (.t 55)⟩,
     ⟨(some 57), (some (56, false)), .none, .fa 6 (.t 2)⟩,
     ⟨(some 58), (some (56, false)), (.at (.t 57)), .ld1 (.t 57)⟩,
     ⟨(some 59), (some (56, false)), (.at (.t 58)), .ll (.t 58)⟩,
     ⟨(some 60), (some (56, false)), .none, .fa 6 (.t 3)⟩,
     ⟨(some 61), (some (56, false)), (.at (.t 60)), .ld1 (.t 60)⟩,
     ⟨(some 62), (some (56, false)), (.at (.t 61)), .ll (.t 61)⟩,
     ⟨(some 63), (some (56, false)), .none, .ib .neq (.t 59) (.t 62)⟩,
     ⟨(some 64), none, .none, .pk (.t 56) (.c (.lit (.bool true))) (.t 63)⟩]) K.ref19_Same_p18) K.ref19_Same_p20
def K.ref19_Same : BFn := ⟨101, [.t 4],
  .seq (.ops [⟨(some 2), none, .here, .bx 112 (.t 0)⟩,
    ⟨(some 3), none, .here, .bx 112 (.t 1)⟩,
    ⟨(some 4), none, .none, .mv (.c (.lit (.bool false)))⟩]) K.ref19_Same_p21⟩
def K.law19_MachSames_p0 : BC := .seq (.ops [⟨(some 31), none, .none, .cl 22 []⟩,
    ⟨(some 4), none, .none, .mv (.t 31)⟩]) .ret
def K.law19_MachSames_p1 : BC := .cond (.t 30) K.law19_MachSames_p0 .skip
def K.law19_MachSames_p2 : BC := .seq (.draw [⟨(some 32), none, (.at (.t 2)), .ldn 8 (.t 2)⟩,
    ⟨(some 33), none, .none, .cl 34 [(.t 32)]⟩,
    ⟨(some 34), none, (.at (.t 3)), .ldn 8 (.t 3)⟩,
    ⟨(some 35), none, .none, .cl 34 [(.t 34)]⟩,
    ⟨(some 36), none, .none, .cl 33 [(.t 33), (.t 35)]⟩,
    ⟨(some 37), none, (.at (.t 2)), .ldn 8 (.t 2)⟩,
    ⟨(some 38), none, (.at (.t 3)), .ldn 8 (.t 3)⟩,
    ⟨(some 39), none, .none, .cl 35 [(.t 37), (.t 38)]⟩,
    ⟨(some 40), none, .none, .bb false (.t 36) (.t 39)⟩,
    ⟨(some 41), none, .none, .mv (.t 40)⟩,
    ⟨(some 42), (some (41, true)), (.at (.t 2)), .ldn 8 (.t 2)⟩,
    ⟨(some 43), (some (41, true)), .none, .cl 34 [(.t 42)]⟩,
    ⟨(some 44), (some (41, true)), (.at (.t 2)), .ldn 8 (.t 2)⟩,
    ⟨(some 45), (some (41, true)), .none, .cl 34 [(.t 44)]⟩,
    ⟨(some 46), (some (41, true)), .none, .cl 33 [(.t 43), (.t 45)]⟩,
    ⟨(some 47), none, .none, .pk (.t 41) (.t 46) (.c (.lit (.bool false)))⟩,
    ⟨(some 4), none, .none, .mv (.t 47)⟩] [(1, 2), (1, 5), (3, 5), (4, 5), (1, 6), (3, 6), (4, 6), (1, 10), (3, 10), (0, 11), (1, 11), (2, 11), (3, 11), (1, 12), (3, 12), (11, 12), (0, 13), (1, 13), (2, 13), (3, 13), (0, 14), (1, 14), (2, 14), (3, 14)]) .ret
def K.law19_MachSames_p3 : BC := .seq (.seq (.ops [⟨(some 5), none, .none, .cl 22 []⟩,
     ⟨(some 6), none, .none, .nt (.t 5)⟩,
     ⟨(some 7), none, .none, .mv (.t 6)⟩,
     ⟨(some 8), (some (7, false)), .none, .fa 5 (.t 2)⟩,
     ⟨(some 9), (some (7, false)), (.at (.t 8)), .ld1 (.t 8)⟩,
     ⟨(some 10), (some (7, false)), (.at (.t 9)), .ll (.t 9)⟩,
     ⟨(some 11), (some (7, false)), .none, .ib .gtr (.t 10) (.c (.lit (.int .i64 30)))⟩,
     ⟨(some 12), none, .none, .pk (.t 7) (.c (.lit (.bool true))) (.t 11)⟩,
     ⟨(some 13), none, .none, .mv (.t 12)⟩,
     ⟨(some 14), (some (13, false)), .none, .fa 5 (.t 3)⟩,
     ⟨(some 15), (some (13, false)), (.at (.t 14)), .ld1 (.t 14)⟩,
     ⟨(some 16), (some (13, false)), (.at (.t 15)), .ll (.t 15)⟩,
     ⟨(some 17), (some (13, false)), .none, .ib .gtr (.t 16) (.c (.lit (.int .i64 30)))⟩,
     ⟨(some 18), none, .none, .pk (.t 13) (.c (.lit (.bool true))) (.t 17)⟩,
     ⟨(some 19), none, .none, .mv (.t 18)⟩,
     ⟨(some 20), (some (19, false)), .none, .fa 6 (.t 2)⟩,
     ⟨(some 21), (some (19, false)), (.at (.t 20)), .ld1 (.t 20)⟩,
     ⟨(some 22), (some (19, false)), (.at (.t 21)), .ll (.t 21)⟩,
     ⟨(some 23), (some (19, false)), .none, .ib .gtr (.t 22) (.c (.lit (.int .i64 30)))⟩,
     ⟨(some 24), none, .none, .pk (.t 19) (.c (.lit (.bool true))) (.t 23)⟩,
     ⟨(some 25), none, .none, .mv (.t 24)⟩,
     ⟨(some 26), (some (25, false)), .none, .fa 6 (.t 3)⟩,
     ⟨(some 27), (some (25, false)), (.at (.t 26)), .ld1 (.t 26)⟩,
     ⟨(some 28), (some (25, false)), (.at (.t 27)), .ll (.t 27)⟩,
     ⟨(some 29), (some (25, false)), .none, .ib .gtr (.t 28) (.c (.lit (.int .i64 30)))⟩,
     ⟨(some 30), none, .none, .pk (.t 25) (.c (.lit (.bool true))) (.t 29)⟩]) K.law19_MachSames_p1) K.law19_MachSames_p2
def K.law19_MachSames : BFn := ⟨48, [.t 4],
  .seq (.ops [⟨(some 2), none, .here, .bx 112 (.t 0)⟩,
    ⟨(some 3), none, .here, .bx 112 (.t 1)⟩,
    ⟨(some 4), none, .none, .mv (.c (.lit (.bool false)))⟩]) K.law19_MachSames_p3⟩
class CodeAll (P : Program) : Prop where
  slices_Equal_int_int : compF P F.slices_Equal_int_int = some K.slices_Equal_int_int
  slices_Equal_mach_Item_mach_Item : compF P F.slices_Equal_mach_Item_mach_Item = some K.slices_Equal_mach_Item_mach_Item
  mach_Same : compF P F.mach_Same = some K.mach_Same
  law19_stated : compF P F.law19_stated = some K.law19_stated
  ref19_Same : compF P F.ref19_Same = some K.ref19_Same
  law19_MachSames : compF P F.law19_MachSames = some K.law19_MachSames
  ext_law19_awake (r : Bool) (h : (some true : Option Bool) = some r) : ∃ v, callT P F.law19_awake [] .bare = some (.ret v, none) ∧ ResC [.bool r] v
end Go.Proofs.YtaiohgabpbgkdaaGreatDoor
