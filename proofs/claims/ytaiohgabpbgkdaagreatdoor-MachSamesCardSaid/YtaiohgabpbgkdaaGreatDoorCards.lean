/-
  DERIVED. GIVEN WITH THE SEED: THE CARDS: each row of YtaiohgabpbgkdaaGreatDoorRows.lean that lists a variable, with what it lists TIED to the program's text (the seventh form; the later family's looks); each row that meets fmt, with fmt's text TOLD by the authors' own Lean function (tested against real Go, not proved from fmt's source: count such statements apart). THE CARD IS WHAT COUNTS. Prove the row's statement (the work); the ties are given (YtaiohgabpbgkdaaGreatDoorTie.lean); close each card by the builder's one call (the guide's Derived/Test/ToyasCard.lean, 'card_holds'). Laid BY PROGRAM, IN A SANDBOX (cutbox-door.mjs). By AI agents, Wed Nov 11 2026. No macro, syntax, notation, axiom, sorry.
-/
import Derived.Test.YtaiohgabpbgkdaaGreatDoorRows
import GoSem.ClaimSeven
namespace Go.Proofs.YtaiohgabpbgkdaaGreatDoor
namespace Rows

/-- THE TIED CARD OF 'placketlaw08.MatchPlain'. -/
def matchPlainCard : Claim7 := { stood := { row := matchPlainRow, standIns := [], harness := (true, "aaa623f7418ab6157512681cf21ba67c9f70eee0762c10f9cd3bb818eee6bd90"), looks := true }, kinds := [], alts := [], laidByText := true, laidKinds := [.data, .data, .data], laidTests := true, laidLooks := .later }
def MatchPlainCardSaid : Prop := Claim7.holds Tryz.pinned (.plain (OpenSpec.ofChange matchPlainSpec)) matchPlainCard

/-- THE TIED CARD OF 'placketlaw16.FlatLays'. -/
def flatLaysCard : Claim7 := { stood := { row := flatLaysRow, standIns := [], harness := (true, "aaa623f7418ab6157512681cf21ba67c9f70eee0762c10f9cd3bb818eee6bd90"), looks := true }, kinds := [], alts := [], laidByText := true, laidKinds := [.data, .data, .pinned], laidTests := true, laidLooks := .later }
def FlatLaysCardSaid : Prop := Claim7.holds Tryz.pinned (.plain (OpenSpec.ofChange flatLaysSpec)) flatLaysCard

/-- THE TIED CARD OF 'placketlaw19.MachShows'. -/
def machShowsCard : Claim7 := { stood := { row := machShowsRow, standIns := [], harness := (true, "aaa623f7418ab6157512681cf21ba67c9f70eee0762c10f9cd3bb818eee6bd90"), looks := true }, kinds := [], alts := [], laidByText := true, laidKinds := [.data, .data, .data, .data, .pinned], laidTests := true, laidLooks := .later }
def MachShowsCardSaid : Prop := Claim7.holds Tryz.pinned (.plain (OpenSpec.ofChange machShowsSpec)) machShowsCard

/-- THE TIED CARD OF 'placketlaw19.MachPlain'. -/
def machPlainCard : Claim7 := { stood := { row := machPlainRow, standIns := [], harness := (true, "aaa623f7418ab6157512681cf21ba67c9f70eee0762c10f9cd3bb818eee6bd90"), looks := true }, kinds := [], alts := [], laidByText := true, laidKinds := [.data, .data, .data, .data, .pinned], laidTests := true, laidLooks := .later }
def MachPlainCardSaid : Prop := Claim7.holds Tryz.pinned (.plain (OpenSpec.ofChange machPlainSpec)) machPlainCard

/-- THE TIED CARD OF 'placketlaw19.MachSames'. -/
def machSamesCard : Claim7 := { stood := { row := machSamesRow, standIns := [], harness := (true, "aaa623f7418ab6157512681cf21ba67c9f70eee0762c10f9cd3bb818eee6bd90"), looks := true }, kinds := [], alts := [], laidByText := true, laidKinds := [.data, .data, .data, .data, .pinned], laidTests := true, laidLooks := .later }
def MachSamesCardSaid : Prop := Claim7.holds Tryz.pinned (.plain (OpenSpec.ofChange machSamesSpec)) machSamesCard

/-- THE TIED CARD OF 'placketlaw20.RunEmpty'. -/
def runEmptyCard : Claim7 := { stood := { row := runEmptyRow, standIns := [], harness := (true, "aaa623f7418ab6157512681cf21ba67c9f70eee0762c10f9cd3bb818eee6bd90"), looks := true }, kinds := [], alts := [], laidByText := true, laidKinds := [.data, .data, .data, .data, .pinned], laidTests := true, laidLooks := .later }
def RunEmptyCardSaid : Prop := Claim7.holds Tryz.pinned (.plain (OpenSpec.ofChange runEmptySpec)) runEmptyCard

/-- THE SECOND FORM's CARD OF 'placketlaw08.MatchPlain'. -/
def matchPlainUptoCard : Claim7 := { stood := { row := matchPlainUptoRow, standIns := [], harness := (true, "aaa623f7418ab6157512681cf21ba67c9f70eee0762c10f9cd3bb818eee6bd90"), looks := true }, kinds := [], alts := [], laidByText := true, laidKinds := [.data, .data, .data], laidTests := true, laidLooks := .later }
def MatchPlainUptoCardSaid : Prop := Claim7.holds Tryz.pinned (.plain (OpenSpec.upto matchPlainSpec)) matchPlainUptoCard

/-- THE SECOND FORM's CARD OF 'placketlaw16.FlatLays'. -/
def flatLaysUptoCard : Claim7 := { stood := { row := flatLaysUptoRow, standIns := [], harness := (true, "aaa623f7418ab6157512681cf21ba67c9f70eee0762c10f9cd3bb818eee6bd90"), looks := true }, kinds := [], alts := [], laidByText := true, laidKinds := [.data, .data, .pinned], laidTests := true, laidLooks := .later }
def FlatLaysUptoCardSaid : Prop := Claim7.holds Tryz.pinned (.plain (OpenSpec.upto flatLaysSpec)) flatLaysUptoCard

/-- THE SECOND FORM's CARD OF 'placketlaw19.MachShows'. -/
def machShowsUptoCard : Claim7 := { stood := { row := machShowsUptoRow, standIns := [], harness := (true, "aaa623f7418ab6157512681cf21ba67c9f70eee0762c10f9cd3bb818eee6bd90"), looks := true }, kinds := [], alts := [], laidByText := true, laidKinds := [.data, .data, .data, .data, .pinned], laidTests := true, laidLooks := .later }
def MachShowsUptoCardSaid : Prop := Claim7.holds Tryz.pinned (.plain (OpenSpec.upto machShowsSpec)) machShowsUptoCard

/-- THE SECOND FORM's CARD OF 'placketlaw19.MachPlain'. -/
def machPlainUptoCard : Claim7 := { stood := { row := machPlainUptoRow, standIns := [], harness := (true, "aaa623f7418ab6157512681cf21ba67c9f70eee0762c10f9cd3bb818eee6bd90"), looks := true }, kinds := [], alts := [], laidByText := true, laidKinds := [.data, .data, .data, .data, .pinned], laidTests := true, laidLooks := .later }
def MachPlainUptoCardSaid : Prop := Claim7.holds Tryz.pinned (.plain (OpenSpec.upto machPlainSpec)) machPlainUptoCard

/-- THE SECOND FORM's CARD OF 'placketlaw19.MachSames'. -/
def machSamesUptoCard : Claim7 := { stood := { row := machSamesUptoRow, standIns := [], harness := (true, "aaa623f7418ab6157512681cf21ba67c9f70eee0762c10f9cd3bb818eee6bd90"), looks := true }, kinds := [], alts := [], laidByText := true, laidKinds := [.data, .data, .data, .data, .pinned], laidTests := true, laidLooks := .later }
def MachSamesUptoCardSaid : Prop := Claim7.holds Tryz.pinned (.plain (OpenSpec.upto machSamesSpec)) machSamesUptoCard

/-- THE SECOND FORM's CARD OF 'placketlaw20.RunEmpty'. -/
def runEmptyUptoCard : Claim7 := { stood := { row := runEmptyUptoRow, standIns := [], harness := (true, "aaa623f7418ab6157512681cf21ba67c9f70eee0762c10f9cd3bb818eee6bd90"), looks := true }, kinds := [], alts := [], laidByText := true, laidKinds := [.data, .data, .data, .data, .pinned], laidTests := true, laidLooks := .later }
def RunEmptyUptoCardSaid : Prop := Claim7.holds Tryz.pinned (.plain (OpenSpec.upto runEmptySpec)) runEmptyUptoCard
end Rows
end Go.Proofs.YtaiohgabpbgkdaaGreatDoor
