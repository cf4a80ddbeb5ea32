/-
  The types of the document: written by a program.
-/
import Derived.Test.YtjdccpmbaobpdaaGreatDoorMG
namespace Go.Proofs.YtjdccpmbaobpdaaGreatDoor
open Go.RowKit


end Go.Proofs.YtjdccpmbaobpdaaGreatDoor
