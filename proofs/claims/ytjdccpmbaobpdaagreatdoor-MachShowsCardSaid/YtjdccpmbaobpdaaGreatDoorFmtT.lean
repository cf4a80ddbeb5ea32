/-
  strconv.FormatInt, of the numbers 512 to 767 in base 8: each run by the machine.
-/
import Derived.Test.YtjdccpmbaobpdaaGreatDoorFmtO
import Derived.KernelRfl
namespace Go.Proofs.YtjdccpmbaobpdaaGreatDoor
open Go.RowKit

theorem fmt12 : ((List.range 16).all fun i => fmtOk (192 + i)) = true := by kernel_rfl
theorem fmt13 : ((List.range 16).all fun i => fmtOk (208 + i)) = true := by kernel_rfl
theorem fmt14 : ((List.range 16).all fun i => fmtOk (224 + i)) = true := by kernel_rfl
theorem fmt15 : ((List.range 16).all fun i => fmtOk (240 + i)) = true := by kernel_rfl
end Go.Proofs.YtjdccpmbaobpdaaGreatDoor
