/-
  strconv.FormatInt, of the numbers 512 to 767 in base 8: each run by the machine.
-/
import Derived.Test.YtjdccpmbaobpdaaGreatDoorFmtO
import Derived.KernelRfl
namespace Go.Proofs.YtjdccpmbaobpdaaGreatDoor
open Go.RowKit

theorem fmt0 : ((List.range 16).all fun i => fmtOk (0 + i)) = true := by kernel_rfl
theorem fmt1 : ((List.range 16).all fun i => fmtOk (16 + i)) = true := by kernel_rfl
theorem fmt2 : ((List.range 16).all fun i => fmtOk (32 + i)) = true := by kernel_rfl
theorem fmt3 : ((List.range 16).all fun i => fmtOk (48 + i)) = true := by kernel_rfl
end Go.Proofs.YtjdccpmbaobpdaaGreatDoor
