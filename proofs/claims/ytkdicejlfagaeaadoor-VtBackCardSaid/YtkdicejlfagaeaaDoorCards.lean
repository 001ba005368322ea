/-
  DERIVED. GIVEN WITH THE SEED: THE CARDS: each row of YtkdicejlfagaeaaDoorRows.lean that lists a variable, with what it lists TIED to the program's text (the seventh form; the later family's looks); each row that meets fmt, with fmt's text TOLD by the authors' own Lean function (tested against real Go, not proved from fmt's source: count such statements apart). THE CARD IS WHAT COUNTS. Prove the row's statement (the work); the ties are given (YtkdicejlfagaeaaDoorTie.lean); close each card by the builder's one call (the guide's Derived/Test/ToyasCard.lean, 'card_holds'). Laid BY PROGRAM, IN A SANDBOX (cutbox-door.mjs). By AI agents, Wed Nov 11 2026. No macro, syntax, notation, axiom, sorry.
-/
import Derived.Test.YtkdicejlfagaeaaDoorRows
import GoSem.ClaimSeven
namespace Go.Proofs.YtkdicejlfagaeaaDoor
namespace Rows

/-- THE TIED CARD OF 'mullionlaw5.VtPrints'. -/
def vtPrintsCard : Claim7 := { stood := { row := vtPrintsRow, standIns := [], harness := (true, "734c19920d1b99865e0f4616f9e524d6c219302f81b96349aa9883a01b96360a"), looks := false }, kinds := [], alts := [], laidByText := true, laidKinds := [.data, .data, .data], laidTests := true, laidLooks := .later }
def VtPrintsCardSaid : Prop := Claim7.holds Tryd.pinned (.plain (OpenSpec.ofChange vtPrintsSpec)) vtPrintsCard

/-- THE TIED CARD OF 'mullionlaw5.VtPieces'. -/
def vtPiecesCard : Claim7 := { stood := { row := vtPiecesRow, standIns := [], harness := (true, "734c19920d1b99865e0f4616f9e524d6c219302f81b96349aa9883a01b96360a"), looks := false }, kinds := [], alts := [], laidByText := true, laidKinds := [.data, .data, .data], laidTests := true, laidLooks := .later }
def VtPiecesCardSaid : Prop := Claim7.holds Tryd.pinned (.plain (OpenSpec.ofChange vtPiecesSpec)) vtPiecesCard

/-- THE TIED CARD OF 'mullionlaw5.VtBack'. -/
def vtBackCard : Claim7 := { stood := { row := vtBackRow, standIns := [], harness := (true, "734c19920d1b99865e0f4616f9e524d6c219302f81b96349aa9883a01b96360a"), looks := false }, kinds := [], alts := [], laidByText := true, laidKinds := [.data, .data, .data], laidTests := true, laidLooks := .later }
def VtBackCardSaid : Prop := Claim7.holds Tryd.pinned (.plain (OpenSpec.ofChange vtBackSpec)) vtBackCard

/-- THE TIED CARD OF 'mullionlaw5.VtBounds'. -/
def vtBoundsCard : Claim7 := { stood := { row := vtBoundsRow, standIns := [], harness := (true, "734c19920d1b99865e0f4616f9e524d6c219302f81b96349aa9883a01b96360a"), looks := false }, kinds := [], alts := [], laidByText := true, laidKinds := [.data, .data, .data], laidTests := true, laidLooks := .later }
def VtBoundsCardSaid : Prop := Claim7.holds Tryd.pinned (.plain (OpenSpec.ofChange vtBoundsSpec)) vtBoundsCard

/-- THE TIED CARD OF 'mullionlaw5.VtRecovers'. -/
def vtRecoversCard : Claim7 := { stood := { row := vtRecoversRow, standIns := [], harness := (true, "734c19920d1b99865e0f4616f9e524d6c219302f81b96349aa9883a01b96360a"), looks := false }, kinds := [], alts := [], laidByText := true, laidKinds := [.data, .data, .data], laidTests := true, laidLooks := .later }
def VtRecoversCardSaid : Prop := Claim7.holds Tryd.pinned (.plain (OpenSpec.ofChange vtRecoversSpec)) vtRecoversCard

/-- THE SECOND FORM's CARD OF 'mullionlaw5.VtPrints'. -/
def vtPrintsUptoCard : Claim7 := { stood := { row := vtPrintsUptoRow, standIns := [], harness := (true, "734c19920d1b99865e0f4616f9e524d6c219302f81b96349aa9883a01b96360a"), looks := false }, kinds := [], alts := [], laidByText := true, laidKinds := [.data, .data, .data], laidTests := true, laidLooks := .later }
def VtPrintsUptoCardSaid : Prop := Claim7.holds Tryd.pinned (.plain (OpenSpec.upto vtPrintsSpec)) vtPrintsUptoCard

/-- THE SECOND FORM's CARD OF 'mullionlaw5.VtPieces'. -/
def vtPiecesUptoCard : Claim7 := { stood := { row := vtPiecesUptoRow, standIns := [], harness := (true, "734c19920d1b99865e0f4616f9e524d6c219302f81b96349aa9883a01b96360a"), looks := false }, kinds := [], alts := [], laidByText := true, laidKinds := [.data, .data, .data], laidTests := true, laidLooks := .later }
def VtPiecesUptoCardSaid : Prop := Claim7.holds Tryd.pinned (.plain (OpenSpec.upto vtPiecesSpec)) vtPiecesUptoCard

/-- THE SECOND FORM's CARD OF 'mullionlaw5.VtBack'. -/
def vtBackUptoCard : Claim7 := { stood := { row := vtBackUptoRow, standIns := [], harness := (true, "734c19920d1b99865e0f4616f9e524d6c219302f81b96349aa9883a01b96360a"), looks := false }, kinds := [], alts := [], laidByText := true, laidKinds := [.data, .data, .data], laidTests := true, laidLooks := .later }
def VtBackUptoCardSaid : Prop := Claim7.holds Tryd.pinned (.plain (OpenSpec.upto vtBackSpec)) vtBackUptoCard

/-- THE SECOND FORM's CARD OF 'mullionlaw5.VtBounds'. -/
def vtBoundsUptoCard : Claim7 := { stood := { row := vtBoundsUptoRow, standIns := [], harness := (true, "734c19920d1b99865e0f4616f9e524d6c219302f81b96349aa9883a01b96360a"), looks := false }, kinds := [], alts := [], laidByText := true, laidKinds := [.data, .data, .data], laidTests := true, laidLooks := .later }
def VtBoundsUptoCardSaid : Prop := Claim7.holds Tryd.pinned (.plain (OpenSpec.upto vtBoundsSpec)) vtBoundsUptoCard

/-- THE SECOND FORM's CARD OF 'mullionlaw5.VtRecovers'. -/
def vtRecoversUptoCard : Claim7 := { stood := { row := vtRecoversUptoRow, standIns := [], harness := (true, "734c19920d1b99865e0f4616f9e524d6c219302f81b96349aa9883a01b96360a"), looks := false }, kinds := [], alts := [], laidByText := true, laidKinds := [.data, .data, .data], laidTests := true, laidLooks := .later }
def VtRecoversUptoCardSaid : Prop := Claim7.holds Tryd.pinned (.plain (OpenSpec.upto vtRecoversSpec)) vtRecoversUptoCard
end Rows
end Go.Proofs.YtkdicejlfagaeaaDoor
