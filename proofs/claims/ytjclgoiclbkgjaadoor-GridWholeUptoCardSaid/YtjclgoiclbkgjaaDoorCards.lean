/-
  DERIVED. GIVEN WITH THE SEED: THE CARDS: each row of YtjclgoiclbkgjaaDoorRows.lean that lists a variable, with what it lists TIED to the program's text (the seventh form; the later family's looks); each row that meets fmt, with fmt's text TOLD by the authors' own Lean function (tested against real Go, not proved from fmt's source: count such statements apart). THE CARD IS WHAT COUNTS. Prove the row's statement (the work); the ties are given (YtjclgoiclbkgjaaDoorTie.lean); close each card by the builder's one call (the guide's Derived/Test/ToyasCard.lean, 'card_holds'). Laid BY PROGRAM, IN A SANDBOX (cutbox-door.mjs). By AI agents, Wed Nov 11 2026. No macro, syntax, notation, axiom, sorry.
-/
import Derived.Test.YtjclgoiclbkgjaaDoorRows
import GoSem.ClaimSeven
namespace Go.Proofs.YtjclgoiclbkgjaaDoor
namespace Rows

/-- THE TIED CARD OF 'mullionlaw4.GridFlows'. -/
def gridFlowsCard : Claim7 := { stood := { row := gridFlowsRow, standIns := [], harness := (true, "4a189ccf798024209f6975edddb9c2a54ec6bbbd132512bb0e679677d81b86ff"), looks := false }, kinds := [], alts := [], laidByText := true, laidKinds := [.data, .data, .data, .listed, .data], laidTests := true, laidLooks := .later }
def GridFlowsCardSaid : Prop := Claim7.holds Tryd.pinned (.plain (OpenSpec.ofChange gridFlowsSpec)) gridFlowsCard

/-- THE TIED CARD OF 'mullionlaw4.GridMoves'. -/
def gridMovesCard : Claim7 := { stood := { row := gridMovesRow, standIns := [], harness := (true, "4a189ccf798024209f6975edddb9c2a54ec6bbbd132512bb0e679677d81b86ff"), looks := false }, kinds := [], alts := [], laidByText := true, laidKinds := [.data, .data, .data, .listed, .data], laidTests := true, laidLooks := .later }
def GridMovesCardSaid : Prop := Claim7.holds Tryd.pinned (.plain (OpenSpec.ofChange gridMovesSpec)) gridMovesCard

/-- THE TIED CARD OF 'mullionlaw4.GridBack'. -/
def gridBackCard : Claim7 := { stood := { row := gridBackRow, standIns := [], harness := (true, "4a189ccf798024209f6975edddb9c2a54ec6bbbd132512bb0e679677d81b86ff"), looks := false }, kinds := [], alts := [], laidByText := true, laidKinds := [.data, .data, .data, .listed, .data], laidTests := true, laidLooks := .later }
def GridBackCardSaid : Prop := Claim7.holds Tryd.pinned (.plain (OpenSpec.ofChange gridBackSpec)) gridBackCard

/-- THE TIED CARD OF 'mullionlaw4.GridWhole'. -/
def gridWholeCard : Claim7 := { stood := { row := gridWholeRow, standIns := [], harness := (true, "4a189ccf798024209f6975edddb9c2a54ec6bbbd132512bb0e679677d81b86ff"), looks := false }, kinds := [], alts := [], laidByText := true, laidKinds := [.data, .data, .data, .listed, .data], laidTests := true, laidLooks := .later }
def GridWholeCardSaid : Prop := Claim7.holds Tryd.pinned (.plain (OpenSpec.ofChange gridWholeSpec)) gridWholeCard

/-- THE SECOND FORM's CARD OF 'mullionlaw4.GridFlows'. -/
def gridFlowsUptoCard : Claim7 := { stood := { row := gridFlowsUptoRow, standIns := [], harness := (true, "4a189ccf798024209f6975edddb9c2a54ec6bbbd132512bb0e679677d81b86ff"), looks := false }, kinds := [], alts := [], laidByText := true, laidKinds := [.data, .data, .data, .listed, .data], laidTests := true, laidLooks := .later }
def GridFlowsUptoCardSaid : Prop := Claim7.holds Tryd.pinned (.plain (OpenSpec.upto gridFlowsSpec)) gridFlowsUptoCard

/-- THE SECOND FORM's CARD OF 'mullionlaw4.GridMoves'. -/
def gridMovesUptoCard : Claim7 := { stood := { row := gridMovesUptoRow, standIns := [], harness := (true, "4a189ccf798024209f6975edddb9c2a54ec6bbbd132512bb0e679677d81b86ff"), looks := false }, kinds := [], alts := [], laidByText := true, laidKinds := [.data, .data, .data, .listed, .data], laidTests := true, laidLooks := .later }
def GridMovesUptoCardSaid : Prop := Claim7.holds Tryd.pinned (.plain (OpenSpec.upto gridMovesSpec)) gridMovesUptoCard

/-- THE SECOND FORM's CARD OF 'mullionlaw4.GridBack'. -/
def gridBackUptoCard : Claim7 := { stood := { row := gridBackUptoRow, standIns := [], harness := (true, "4a189ccf798024209f6975edddb9c2a54ec6bbbd132512bb0e679677d81b86ff"), looks := false }, kinds := [], alts := [], laidByText := true, laidKinds := [.data, .data, .data, .listed, .data], laidTests := true, laidLooks := .later }
def GridBackUptoCardSaid : Prop := Claim7.holds Tryd.pinned (.plain (OpenSpec.upto gridBackSpec)) gridBackUptoCard

/-- THE SECOND FORM's CARD OF 'mullionlaw4.GridWhole'. -/
def gridWholeUptoCard : Claim7 := { stood := { row := gridWholeUptoRow, standIns := [], harness := (true, "4a189ccf798024209f6975edddb9c2a54ec6bbbd132512bb0e679677d81b86ff"), looks := false }, kinds := [], alts := [], laidByText := true, laidKinds := [.data, .data, .data, .listed, .data], laidTests := true, laidLooks := .later }
def GridWholeUptoCardSaid : Prop := Claim7.holds Tryd.pinned (.plain (OpenSpec.upto gridWholeSpec)) gridWholeUptoCard
end Rows
end Go.Proofs.YtjclgoiclbkgjaaDoor
