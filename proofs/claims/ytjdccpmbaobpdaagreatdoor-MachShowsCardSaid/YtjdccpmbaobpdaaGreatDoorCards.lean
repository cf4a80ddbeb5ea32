/-
  DERIVED. GIVEN WITH THE SEED: THE CARDS: each row of YtjdccpmbaobpdaaGreatDoorRows.lean that lists a variable, with what it lists TIED to the program's text (the seventh form; the later family's looks); each row that meets fmt, with fmt's text TOLD by the authors' own Lean function (tested against real Go, not proved from fmt's source: count such statements apart). THE CARD IS WHAT COUNTS. Prove the row's statement (the work); the ties are given (YtjdccpmbaobpdaaGreatDoorTie.lean); close each card by the builder's one call (the guide's Derived/Test/ToyasCard.lean, 'card_holds'). Laid BY PROGRAM, IN A SANDBOX (cutbox-door.mjs). By AI agents, Wed Nov 11 2026. No macro, syntax, notation, axiom, sorry.
-/
import Derived.Test.YtjdccpmbaobpdaaGreatDoorRows
import GoSem.ClaimSeven
namespace Go.Proofs.YtjdccpmbaobpdaaGreatDoor
namespace Rows

/-- THE TIED CARD OF 'placketlaw19.MachShows'. -/
def machShowsCard : Claim7 := { stood := { row := machShowsRow, standIns := [], harness := (true, "7d25f6bb2d820606bd1d395f0c38ffa1122f0816ccb4756b4b0ee81e5547107d"), looks := true }, kinds := [], alts := [], laidByText := true, laidKinds := [.data, .data, .data, .data, .pinned], laidTests := true, laidLooks := .later }
def MachShowsCardSaid : Prop := Claim7.holds Tryz.pinned (.plain (OpenSpec.ofChange machShowsSpec)) machShowsCard

/-- THE SECOND FORM's CARD OF 'placketlaw19.MachShows'. -/
def machShowsUptoCard : Claim7 := { stood := { row := machShowsUptoRow, standIns := [], harness := (true, "7d25f6bb2d820606bd1d395f0c38ffa1122f0816ccb4756b4b0ee81e5547107d"), looks := true }, kinds := [], alts := [], laidByText := true, laidKinds := [.data, .data, .data, .data, .pinned], laidTests := true, laidLooks := .later }
def MachShowsUptoCardSaid : Prop := Claim7.holds Tryz.pinned (.plain (OpenSpec.upto machShowsSpec)) machShowsUptoCard
end Rows
end Go.Proofs.YtjdccpmbaobpdaaGreatDoor
