/-
  strconv.FormatInt, of the numbers 512 to 767 in base 8: each run by the machine.
-/
import Derived.Test.YtjdccpmbaobpdaaGreatDoorNames
import Derived.Test.YtjdccpmbaobpdaaGreatDoorMG
import Derived.Test.YtjdccpmbaobpdaaGreatDoorProg
import Derived.KernelRfl
namespace Go.Proofs.YtjdccpmbaobpdaaGreatDoor
open Go.RowKit

noncomputable def fmtOk (n : Nat) : Bool := match acall Tryz.prog 30 F.strconv_FormatInt [.lit (.int .i64 ((512 + n : Nat) : Int)), .lit (.int .i64 8)] .bare with
  | some (.ret (.lit (.string s)), none) => s.data.toList == G.oct ((512 + n : Nat) : Int)
  | _ => false
end Go.Proofs.YtjdccpmbaobpdaaGreatDoor
