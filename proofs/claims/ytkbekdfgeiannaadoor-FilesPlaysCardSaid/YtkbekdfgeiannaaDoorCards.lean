/-
  DERIVED. GIVEN WITH THE SEED: THE CARDS: each row of YtkbekdfgeiannaaDoorRows.lean that lists a variable, with what it lists TIED to the program's text (the seventh form; the later family's looks); each row that meets fmt, with fmt's text TOLD by the authors' own Lean function (tested against real Go, not proved from fmt's source: count such statements apart). THE CARD IS WHAT COUNTS. Prove the row's statement (the work); the ties are given (YtkbekdfgeiannaaDoorTie.lean); close each card by the builder's one call (the guide's Derived/Test/ToyasCard.lean, 'card_holds'). Laid BY PROGRAM, IN A SANDBOX (cutbox-door.mjs). By AI agents, Wed Nov 11 2026. No macro, syntax, notation, axiom, sorry.
-/
import Derived.Test.YtkbekdfgeiannaaDoorRows
import GoSem.ClaimSeven
namespace Go.Proofs.YtkbekdfgeiannaaDoor
namespace Rows

/-- THE TIED CARD OF 'placketlaw17.FilesCuts'. -/
def filesCutsCard : Claim7 := { stood := { row := filesCutsRow, standIns := [], harness := (true, "e80c68e5a245ed365c28e254e5cefebad33b3bd5b4f349ee007c80b09ac9d98e"), looks := true }, kinds := [], alts := [], laidByText := true, laidKinds := [.data, .pinned], laidTests := true, laidLooks := .later }
def FilesCutsCardSaid : Prop := Claim7.holds Tryd.pinned (.plain (OpenSpec.ofChange filesCutsSpec)) filesCutsCard

/-- THE TIED CARD OF 'placketlaw17.FilesApart'. -/
def filesApartCard : Claim7 := { stood := { row := filesApartRow, standIns := [], harness := (true, "e80c68e5a245ed365c28e254e5cefebad33b3bd5b4f349ee007c80b09ac9d98e"), looks := true }, kinds := [], alts := [], laidByText := true, laidKinds := [.data, .pinned], laidTests := true, laidLooks := .later }
def FilesApartCardSaid : Prop := Claim7.holds Tryd.pinned (.plain (OpenSpec.ofChange filesApartSpec)) filesApartCard

/-- THE TIED CARD OF 'placketlaw17.FilesPlays'. -/
def filesPlaysCard : Claim7 := { stood := { row := filesPlaysRow, standIns := [], harness := (true, "e80c68e5a245ed365c28e254e5cefebad33b3bd5b4f349ee007c80b09ac9d98e"), looks := true }, kinds := [], alts := [], laidByText := true, laidKinds := [.data, .pinned], laidTests := true, laidLooks := .later }
def FilesPlaysCardSaid : Prop := Claim7.holds Tryd.pinned (.plain (OpenSpec.ofChange filesPlaysSpec)) filesPlaysCard

/-- THE SECOND FORM's CARD OF 'placketlaw17.FilesCuts'. -/
def filesCutsUptoCard : Claim7 := { stood := { row := filesCutsUptoRow, standIns := [], harness := (true, "e80c68e5a245ed365c28e254e5cefebad33b3bd5b4f349ee007c80b09ac9d98e"), looks := true }, kinds := [], alts := [], laidByText := true, laidKinds := [.data, .pinned], laidTests := true, laidLooks := .later }
def FilesCutsUptoCardSaid : Prop := Claim7.holds Tryd.pinned (.plain (OpenSpec.upto filesCutsSpec)) filesCutsUptoCard

/-- THE SECOND FORM's CARD OF 'placketlaw17.FilesApart'. -/
def filesApartUptoCard : Claim7 := { stood := { row := filesApartUptoRow, standIns := [], harness := (true, "e80c68e5a245ed365c28e254e5cefebad33b3bd5b4f349ee007c80b09ac9d98e"), looks := true }, kinds := [], alts := [], laidByText := true, laidKinds := [.data, .pinned], laidTests := true, laidLooks := .later }
def FilesApartUptoCardSaid : Prop := Claim7.holds Tryd.pinned (.plain (OpenSpec.upto filesApartSpec)) filesApartUptoCard

/-- THE SECOND FORM's CARD OF 'placketlaw17.FilesPlays'. -/
def filesPlaysUptoCard : Claim7 := { stood := { row := filesPlaysUptoRow, standIns := [], harness := (true, "e80c68e5a245ed365c28e254e5cefebad33b3bd5b4f349ee007c80b09ac9d98e"), looks := true }, kinds := [], alts := [], laidByText := true, laidKinds := [.data, .pinned], laidTests := true, laidLooks := .later }
def FilesPlaysUptoCardSaid : Prop := Claim7.holds Tryd.pinned (.plain (OpenSpec.upto filesPlaysSpec)) filesPlaysUptoCard
end Rows
end Go.Proofs.YtkbekdfgeiannaaDoor
