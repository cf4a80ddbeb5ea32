/-
  DERIVED. GIVEN WITH THE SEED: THE CARDS: each row of YtbinfgmdamlkbaaGreatDoorRows.lean that lists a variable, with what it lists TIED to the program's text (the seventh form; the later family's looks); each row that meets fmt, with fmt's text TOLD by the authors' own Lean function (tested against real Go, not proved from fmt's source: count such statements apart). THE CARD IS WHAT COUNTS. Prove the row's statement (the work); the ties are given (YtbinfgmdamlkbaaGreatDoorTie.lean); close each card by the builder's one call (the guide's Derived/Test/ToyasCard.lean, 'card_holds'). Laid BY PROGRAM, IN A SANDBOX (cutbox-door.mjs). By AI agents, Wed Nov 11 2026. No macro, syntax, notation, axiom, sorry.
-/
import Derived.Test.YtbinfgmdamlkbaaGreatDoorRows
import GoSem.ClaimSeven
namespace Go.Proofs.YtbinfgmdamlkbaaGreatDoor
namespace Rows

/-- THE TIED CARD OF 'placketlaw19.MachPlain'. -/
def machPlainCard : Claim7 := { stood := { row := machPlainRow, standIns := [], harness := (true, "ec441f64aeef3f2f43713770c48552bffcc468a724700919f5acdd49280c8e0b"), looks := true }, kinds := [], alts := [], laidByText := true, laidKinds := [.data, .data, .data, .data, .pinned], laidTests := true, laidLooks := .later }
def MachPlainCardSaid : Prop := Claim7.holds Tryz.pinned (.plain (OpenSpec.ofChange machPlainSpec)) machPlainCard

/-- THE TIED CARD OF 'placketlaw20.RunEmpty'. -/
def runEmptyCard : Claim7 := { stood := { row := runEmptyRow, standIns := [], harness := (true, "ec441f64aeef3f2f43713770c48552bffcc468a724700919f5acdd49280c8e0b"), looks := true }, kinds := [], alts := [], laidByText := true, laidKinds := [.data, .data, .data, .data, .pinned], laidTests := true, laidLooks := .later }
def RunEmptyCardSaid : Prop := Claim7.holds Tryz.pinned (.plain (OpenSpec.ofChange runEmptySpec)) runEmptyCard

/-- THE SECOND FORM's CARD OF 'placketlaw19.MachPlain'. -/
def machPlainUptoCard : Claim7 := { stood := { row := machPlainUptoRow, standIns := [], harness := (true, "ec441f64aeef3f2f43713770c48552bffcc468a724700919f5acdd49280c8e0b"), looks := true }, kinds := [], alts := [], laidByText := true, laidKinds := [.data, .data, .data, .data, .pinned], laidTests := true, laidLooks := .later }
def MachPlainUptoCardSaid : Prop := Claim7.holds Tryz.pinned (.plain (OpenSpec.upto machPlainSpec)) machPlainUptoCard

/-- THE SECOND FORM's CARD OF 'placketlaw20.RunEmpty'. -/
def runEmptyUptoCard : Claim7 := { stood := { row := runEmptyUptoRow, standIns := [], harness := (true, "ec441f64aeef3f2f43713770c48552bffcc468a724700919f5acdd49280c8e0b"), looks := true }, kinds := [], alts := [], laidByText := true, laidKinds := [.data, .data, .data, .data, .pinned], laidTests := true, laidLooks := .later }
def RunEmptyUptoCardSaid : Prop := Claim7.holds Tryz.pinned (.plain (OpenSpec.upto runEmptySpec)) runEmptyUptoCard
end Rows
end Go.Proofs.YtbinfgmdamlkbaaGreatDoor
