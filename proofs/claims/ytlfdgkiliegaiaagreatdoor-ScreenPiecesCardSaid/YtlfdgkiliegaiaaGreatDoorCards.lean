/-
  DERIVED. GIVEN WITH THE SEED: THE CARDS: each row of YtlfdgkiliegaiaaGreatDoorRows.lean that lists a variable, with what it lists TIED to the program's text (the seventh form; the later family's looks); each row that meets fmt, with fmt's text TOLD by the authors' own Lean function (tested against real Go, not proved from fmt's source: count such statements apart). THE CARD IS WHAT COUNTS. Prove the row's statement (the work); the ties are given (YtlfdgkiliegaiaaGreatDoorTie.lean); close each card by the builder's one call (the guide's Derived/Test/ToyasCard.lean, 'card_holds'). Laid BY PROGRAM, IN A SANDBOX (cutbox-door.mjs). By AI agents, Wed Nov 11 2026. No macro, syntax, notation, axiom, sorry.
-/
import Derived.Test.YtlfdgkiliegaiaaGreatDoorRows
import GoSem.ClaimSeven
namespace Go.Proofs.YtlfdgkiliegaiaaGreatDoor
namespace Rows

/-- THE TIED CARD OF 'mullionlaw6.ScreenNew'. -/
def screenNewCard : Claim7 := { stood := { row := screenNewRow, standIns := [], harness := (true, "f82b94db743376ee07485d3e24fadbbd558d57c3cef5c105dcbe9911258f5219"), looks := false }, kinds := [], alts := [], laidByText := true, laidKinds := [.data, .data, .data, .listed, .data], laidTests := true, laidLooks := .later }
def ScreenNewCardSaid : Prop := Claim7.holds Tryz.pinned (.plain (OpenSpec.ofChange screenNewSpec)) screenNewCard

/-- THE TIED CARD OF 'mullionlaw6.ScreenLooks'. -/
def screenLooksCard : Claim7 := { stood := { row := screenLooksRow, standIns := [], harness := (true, "f82b94db743376ee07485d3e24fadbbd558d57c3cef5c105dcbe9911258f5219"), looks := false }, kinds := [], alts := [], laidByText := true, laidKinds := [.data, .data, .data, .listed, .data], laidTests := true, laidLooks := .later }
def ScreenLooksCardSaid : Prop := Claim7.holds Tryz.pinned (.plain (OpenSpec.ofChange screenLooksSpec)) screenLooksCard

/-- THE TIED CARD OF 'mullionlaw6.ScreenAnswers'. -/
def screenAnswersCard : Claim7 := { stood := { row := screenAnswersRow, standIns := [], harness := (true, "f82b94db743376ee07485d3e24fadbbd558d57c3cef5c105dcbe9911258f5219"), looks := false }, kinds := [], alts := [], laidByText := true, laidKinds := [.data, .data, .data, .listed, .data], laidTests := true, laidLooks := .later }
def ScreenAnswersCardSaid : Prop := Claim7.holds Tryz.pinned (.plain (OpenSpec.ofChange screenAnswersSpec)) screenAnswersCard

/-- THE TIED CARD OF 'mullionlaw6.ScreenLines'. -/
def screenLinesCard : Claim7 := { stood := { row := screenLinesRow, standIns := [], harness := (true, "f82b94db743376ee07485d3e24fadbbd558d57c3cef5c105dcbe9911258f5219"), looks := false }, kinds := [], alts := [], laidByText := true, laidKinds := [.data, .data, .data, .listed, .data], laidTests := true, laidLooks := .later }
def ScreenLinesCardSaid : Prop := Claim7.holds Tryz.pinned (.plain (OpenSpec.ofChange screenLinesSpec)) screenLinesCard

/-- THE TIED CARD OF 'mullionlaw6.ScreenOther'. -/
def screenOtherCard : Claim7 := { stood := { row := screenOtherRow, standIns := [], harness := (true, "f82b94db743376ee07485d3e24fadbbd558d57c3cef5c105dcbe9911258f5219"), looks := false }, kinds := [], alts := [], laidByText := true, laidKinds := [.data, .data, .data, .listed, .data], laidTests := true, laidLooks := .later }
def ScreenOtherCardSaid : Prop := Claim7.holds Tryz.pinned (.plain (OpenSpec.ofChange screenOtherSpec)) screenOtherCard

/-- THE TIED CARD OF 'mullionlaw6.ScreenPieces'. -/
def screenPiecesCard : Claim7 := { stood := { row := screenPiecesRow, standIns := [], harness := (true, "f82b94db743376ee07485d3e24fadbbd558d57c3cef5c105dcbe9911258f5219"), looks := false }, kinds := [], alts := [], laidByText := true, laidKinds := [.data, .data, .data, .listed, .data], laidTests := true, laidLooks := .later }
def ScreenPiecesCardSaid : Prop := Claim7.holds Tryz.pinned (.plain (OpenSpec.ofChange screenPiecesSpec)) screenPiecesCard

/-- THE TIED CARD OF 'mullionlaw6.ScreenSound'. -/
def screenSoundCard : Claim7 := { stood := { row := screenSoundRow, standIns := [], harness := (true, "f82b94db743376ee07485d3e24fadbbd558d57c3cef5c105dcbe9911258f5219"), looks := false }, kinds := [], alts := [], laidByText := true, laidKinds := [.data, .data, .data, .listed, .data], laidTests := true, laidLooks := .later }
def ScreenSoundCardSaid : Prop := Claim7.holds Tryz.pinned (.plain (OpenSpec.ofChange screenSoundSpec)) screenSoundCard

/-- THE TIED CARD OF 'mullionlaw6.ScreenPlays'. -/
def screenPlaysCard : Claim7 := { stood := { row := screenPlaysRow, standIns := [], harness := (true, "f82b94db743376ee07485d3e24fadbbd558d57c3cef5c105dcbe9911258f5219"), looks := false }, kinds := [], alts := [], laidByText := true, laidKinds := [.data, .data, .data, .listed, .data], laidTests := true, laidLooks := .later }
def ScreenPlaysCardSaid : Prop := Claim7.holds Tryz.pinned (.plain (OpenSpec.ofChange screenPlaysSpec)) screenPlaysCard

/-- THE SECOND FORM's CARD OF 'mullionlaw6.ScreenNew'. -/
def screenNewUptoCard : Claim7 := { stood := { row := screenNewUptoRow, standIns := [], harness := (true, "f82b94db743376ee07485d3e24fadbbd558d57c3cef5c105dcbe9911258f5219"), looks := false }, kinds := [], alts := [], laidByText := true, laidKinds := [.data, .data, .data, .listed, .data], laidTests := true, laidLooks := .later }
def ScreenNewUptoCardSaid : Prop := Claim7.holds Tryz.pinned (.plain (OpenSpec.upto screenNewSpec)) screenNewUptoCard

/-- THE SECOND FORM's CARD OF 'mullionlaw6.ScreenLooks'. -/
def screenLooksUptoCard : Claim7 := { stood := { row := screenLooksUptoRow, standIns := [], harness := (true, "f82b94db743376ee07485d3e24fadbbd558d57c3cef5c105dcbe9911258f5219"), looks := false }, kinds := [], alts := [], laidByText := true, laidKinds := [.data, .data, .data, .listed, .data], laidTests := true, laidLooks := .later }
def ScreenLooksUptoCardSaid : Prop := Claim7.holds Tryz.pinned (.plain (OpenSpec.upto screenLooksSpec)) screenLooksUptoCard

/-- THE SECOND FORM's CARD OF 'mullionlaw6.ScreenAnswers'. -/
def screenAnswersUptoCard : Claim7 := { stood := { row := screenAnswersUptoRow, standIns := [], harness := (true, "f82b94db743376ee07485d3e24fadbbd558d57c3cef5c105dcbe9911258f5219"), looks := false }, kinds := [], alts := [], laidByText := true, laidKinds := [.data, .data, .data, .listed, .data], laidTests := true, laidLooks := .later }
def ScreenAnswersUptoCardSaid : Prop := Claim7.holds Tryz.pinned (.plain (OpenSpec.upto screenAnswersSpec)) screenAnswersUptoCard

/-- THE SECOND FORM's CARD OF 'mullionlaw6.ScreenLines'. -/
def screenLinesUptoCard : Claim7 := { stood := { row := screenLinesUptoRow, standIns := [], harness := (true, "f82b94db743376ee07485d3e24fadbbd558d57c3cef5c105dcbe9911258f5219"), looks := false }, kinds := [], alts := [], laidByText := true, laidKinds := [.data, .data, .data, .listed, .data], laidTests := true, laidLooks := .later }
def ScreenLinesUptoCardSaid : Prop := Claim7.holds Tryz.pinned (.plain (OpenSpec.upto screenLinesSpec)) screenLinesUptoCard

/-- THE SECOND FORM's CARD OF 'mullionlaw6.ScreenOther'. -/
def screenOtherUptoCard : Claim7 := { stood := { row := screenOtherUptoRow, standIns := [], harness := (true, "f82b94db743376ee07485d3e24fadbbd558d57c3cef5c105dcbe9911258f5219"), looks := false }, kinds := [], alts := [], laidByText := true, laidKinds := [.data, .data, .data, .listed, .data], laidTests := true, laidLooks := .later }
def ScreenOtherUptoCardSaid : Prop := Claim7.holds Tryz.pinned (.plain (OpenSpec.upto screenOtherSpec)) screenOtherUptoCard

/-- THE SECOND FORM's CARD OF 'mullionlaw6.ScreenPieces'. -/
def screenPiecesUptoCard : Claim7 := { stood := { row := screenPiecesUptoRow, standIns := [], harness := (true, "f82b94db743376ee07485d3e24fadbbd558d57c3cef5c105dcbe9911258f5219"), looks := false }, kinds := [], alts := [], laidByText := true, laidKinds := [.data, .data, .data, .listed, .data], laidTests := true, laidLooks := .later }
def ScreenPiecesUptoCardSaid : Prop := Claim7.holds Tryz.pinned (.plain (OpenSpec.upto screenPiecesSpec)) screenPiecesUptoCard

/-- THE SECOND FORM's CARD OF 'mullionlaw6.ScreenSound'. -/
def screenSoundUptoCard : Claim7 := { stood := { row := screenSoundUptoRow, standIns := [], harness := (true, "f82b94db743376ee07485d3e24fadbbd558d57c3cef5c105dcbe9911258f5219"), looks := false }, kinds := [], alts := [], laidByText := true, laidKinds := [.data, .data, .data, .listed, .data], laidTests := true, laidLooks := .later }
def ScreenSoundUptoCardSaid : Prop := Claim7.holds Tryz.pinned (.plain (OpenSpec.upto screenSoundSpec)) screenSoundUptoCard

/-- THE SECOND FORM's CARD OF 'mullionlaw6.ScreenPlays'. -/
def screenPlaysUptoCard : Claim7 := { stood := { row := screenPlaysUptoRow, standIns := [], harness := (true, "f82b94db743376ee07485d3e24fadbbd558d57c3cef5c105dcbe9911258f5219"), looks := false }, kinds := [], alts := [], laidByText := true, laidKinds := [.data, .data, .data, .listed, .data], laidTests := true, laidLooks := .later }
def ScreenPlaysUptoCardSaid : Prop := Claim7.holds Tryz.pinned (.plain (OpenSpec.upto screenPlaysSpec)) screenPlaysUptoCard
end Rows
end Go.Proofs.YtlfdgkiliegaiaaGreatDoor
