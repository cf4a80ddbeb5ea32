/-
  strconv.FormatInt, of the numbers 512 to 767 in base 8: each run by the machine.
-/
import Derived.Test.YtjdccpmbaobpdaaGreatDoorFmtO
import Derived.KernelRfl
namespace Go.Proofs.YtjdccpmbaobpdaaGreatDoor
open Go.RowKit

theorem fmt4 : ((List.range 16).all fun i => fmtOk (64 + i)) = true := by kernel_rfl
theorem fmt5 : ((List.range 16).all fun i => fmtOk (80 + i)) = true := by kernel_rfl
theorem fmt6 : ((List.range 16).all fun i => fmtOk (96 + i)) = true := by kernel_rfl
theorem fmt7 : ((List.range 16).all fun i => fmtOk (112 + i)) = true := by kernel_rfl
end Go.Proofs.YtjdccpmbaobpdaaGreatDoor
