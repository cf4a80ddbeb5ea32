/-
  The document's example of chapter 19 runs as it says.
-/
import Derived.Test.YtaiohgabpbgkdaaGreatDoorNames
import Derived.Test.YtaiohgabpbgkdaaGreatDoorProg
import Derived.KernelRfl
namespace Go.Proofs.YtaiohgabpbgkdaaGreatDoor
open Go.RowKit

theorem awake19_run : acall Tryz.prog 400 F.law19_awake [] .bare = some (.ret (.lit (.bool true)), none) := by kernel_rfl
end Go.Proofs.YtaiohgabpbgkdaaGreatDoor
