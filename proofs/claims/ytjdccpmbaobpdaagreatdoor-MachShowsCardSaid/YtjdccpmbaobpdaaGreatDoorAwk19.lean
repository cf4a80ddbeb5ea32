/-
  The document's example of chapter 19 runs as it says.
-/
import Derived.Test.YtjdccpmbaobpdaaGreatDoorNames
import Derived.Test.YtjdccpmbaobpdaaGreatDoorProg
import Derived.KernelRfl
namespace Go.Proofs.YtjdccpmbaobpdaaGreatDoor
open Go.RowKit

theorem awake19_run : acall Tryz.prog 400 F.law19_awake [] .bare = some (.ret (.lit (.bool true)), none) := by kernel_rfl
end Go.Proofs.YtjdccpmbaobpdaaGreatDoor
