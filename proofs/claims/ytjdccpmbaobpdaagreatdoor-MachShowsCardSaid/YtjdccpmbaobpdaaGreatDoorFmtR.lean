/-
  strconv.FormatInt, of the numbers 512 to 767 in base 8: each run by the machine.
-/
import Derived.Test.YtjdccpmbaobpdaaGreatDoorFmtO
import Derived.KernelRfl
namespace Go.Proofs.YtjdccpmbaobpdaaGreatDoor
open Go.RowKit

theorem fmt8 : ((List.range 16).all fun i => fmtOk (128 + i)) = true := by kernel_rfl
theorem fmt9 : ((List.range 16).all fun i => fmtOk (144 + i)) = true := by kernel_rfl
theorem fmt10 : ((List.range 16).all fun i => fmtOk (160 + i)) = true := by kernel_rfl
theorem fmt11 : ((List.range 16).all fun i => fmtOk (176 + i)) = true := by kernel_rfl
end Go.Proofs.YtjdccpmbaobpdaaGreatDoor
