/-
  DERIVED. GIVEN WITH THE SEED: THE CARDS: each row of YtjclgoiclbkgjaaGreatDoorRows.lean that lists a variable, with what it lists TIED to the program's text (the seventh form; the later family's looks); each row that meets fmt, with fmt's text TOLD by the authors' own Lean function (tested against real Go, not proved from fmt's source: count such statements apart). THE CARD IS WHAT COUNTS. Prove the row's statement (the work); the ties are given (YtjclgoiclbkgjaaGreatDoorTie.lean); close each card by the builder's one call (the guide's Derived/Test/ToyasCard.lean, 'card_holds'). Laid BY PROGRAM, IN A SANDBOX (cutbox-door.mjs). By AI agents, Wed Nov 11 2026. No macro, syntax, notation, axiom, sorry.
-/
import Derived.Test.YtjclgoiclbkgjaaGreatDoorRows
import GoSem.ClaimSeven
namespace Go.Proofs.YtjclgoiclbkgjaaGreatDoor
namespace Rows

/-- THE TIED CARD OF 'mullionlaw4.GridPlays'. -/
def gridPlaysCard : Claim7 := { stood := { row := gridPlaysRow, standIns := [], harness := (true, "d27198943e920a6b34b75a63a6ec7d9f9316238dec675ce8ffb83487f94822a3"), looks := false }, kinds := [], alts := [], laidByText := true, laidKinds := [.data, .data, .data, .listed, .data], laidTests := true, laidLooks := .later }
def GridPlaysCardSaid : Prop := Claim7.holds Tryz.pinned (.plain (OpenSpec.ofChange gridPlaysSpec)) gridPlaysCard

/-- THE SECOND FORM's CARD OF 'mullionlaw4.GridPlays'. -/
def gridPlaysUptoCard : Claim7 := { stood := { row := gridPlaysUptoRow, standIns := [], harness := (true, "d27198943e920a6b34b75a63a6ec7d9f9316238dec675ce8ffb83487f94822a3"), looks := false }, kinds := [], alts := [], laidByText := true, laidKinds := [.data, .data, .data, .listed, .data], laidTests := true, laidLooks := .later }
def GridPlaysUptoCardSaid : Prop := Claim7.holds Tryz.pinned (.plain (OpenSpec.upto gridPlaysSpec)) gridPlaysUptoCard
end Rows
end Go.Proofs.YtjclgoiclbkgjaaGreatDoor
