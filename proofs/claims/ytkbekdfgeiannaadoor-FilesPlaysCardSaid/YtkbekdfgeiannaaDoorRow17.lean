/-
  What the rows of this seat share: the world of the witness, the looks, and that the library's variable holds a number.
-/
import Derived.Test.YtkbekdfgeiannaaDoorCards
import Derived.Test.YtkbekdfgeiannaaDoorTie
import Derived.Test.YtkbekdfgeiannaaDoorBase
import Derived.Test.YtkbekdfgeiannaaDoorShelf
import Derived.ProofKit
import Derived.OpenShut
import Derived.Deep.DeepHandedRow
import Derived.Lib.LaidTab
namespace Go.Proofs.YtkbekdfgeiannaaDoor
open Go.ChangeShapes Go.WideShapes Go.ChangeAt Go.RowKit

theorem own : ownKnob Tryd.prog.godebug = none := by kernel_rfl
theorem laidOut : laidOutB Tryd.prog = true := by kernel_rfl

theorem rdy_of_shape {w : World} (h : w.ShapedOpen Tryd.prog) : Rdy w := Tryd.laysM146.s1_3 w h

/-- The cells of the library's two tables, as their initialisers lay them. -/
def firstCells : Array Value := (Go.Pinned.utf8FirstZ.map fun n : Nat => Value.int .u8 (n : Int)).toArray
def rangeCells : Array Value := #[.int .u8 128, .int .u8 191, .int .u8 160, .int .u8 191, .int .u8 128, .int .u8 159, .int .u8 144, .int .u8 191, .int .u8 128, .int .u8 143,
  .int .u8 0, .int .u8 0, .int .u8 0, .int .u8 0, .int .u8 0, .int .u8 0, .int .u8 0, .int .u8 0, .int .u8 0, .int .u8 0, .int .u8 0, .int .u8 0, .int .u8 0, .int .u8 0, .int .u8 0, .int .u8 0, .int .u8 0, .int .u8 0, .int .u8 0, .int .u8 0, .int .u8 0, .int .u8 0]

def putCells (cs : Array Value) : Obj → Obj
  | .cells _ t frozen => .cells cs t frozen
  | o => o

/-- The settled world, these tables laid. -/
noncomputable def laidWorld (os : Os) : World :=
  { World.holding Tryd.prog os ⟨#[], #[], []⟩ with heap := ((World.holding Tryd.prog os ⟨#[], #[], []⟩).heap.modify 1 (putCells firstCells)).modify 2 (putCells rangeCells) }
end Go.Proofs.YtkbekdfgeiannaaDoor
