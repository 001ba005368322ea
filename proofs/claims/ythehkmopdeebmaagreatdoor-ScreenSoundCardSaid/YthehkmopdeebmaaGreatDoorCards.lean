/-
  DERIVED. GIVEN WITH THE SEED: THE CARDS: each row of YthehkmopdeebmaaGreatDoorRows.lean that lists a variable, with what it lists TIED to the program's text (the seventh form; the later family's looks); each row that meets fmt, with fmt's text TOLD by the authors' own Lean function (tested against real Go, not proved from fmt's source: count such statements apart). THE CARD IS WHAT COUNTS. Prove the row's statement (the work); the ties are given (YthehkmopdeebmaaGreatDoorTie.lean); close each card by the builder's one call (the guide's Derived/Test/ToyasCard.lean, 'card_holds'). Laid BY PROGRAM, IN A SANDBOX (cutbox-door.mjs). By AI agents, Wed Nov 11 2026. No macro, syntax, notation, axiom, sorry.
-/
import Derived.Test.YthehkmopdeebmaaGreatDoorRows
import GoSem.ClaimSeven
namespace Go.Proofs.YthehkmopdeebmaaGreatDoor
namespace Rows

/-- THE TIED CARD OF 'mullionlaw18.RenderShows'. -/
def renderShowsCard : Claim7 := { stood := { row := renderShowsRow, standIns := [], harness := (true, "59e6bde12329277622a48222cc55eeb7a78886438e03d1d8342806bcd6bf7bc7"), looks := false }, kinds := [], alts := [], laidByText := true, laidKinds := [.data, .data, .data, .listed, .data], laidTests := true, laidLooks := .later }
def RenderShowsCardSaid : Prop := Claim7.holds Tryz.pinned (.plain (OpenSpec.ofChange renderShowsSpec)) renderShowsCard

/-- THE TIED CARD OF 'mullionlaw18.RenderComposes'. -/
def renderComposesCard : Claim7 := { stood := { row := renderComposesRow, standIns := [], harness := (true, "59e6bde12329277622a48222cc55eeb7a78886438e03d1d8342806bcd6bf7bc7"), looks := false }, kinds := [], alts := [], laidByText := true, laidKinds := [.data, .data, .data, .listed, .data], laidTests := true, laidLooks := .later }
def RenderComposesCardSaid : Prop := Claim7.holds Tryz.pinned (.plain (OpenSpec.ofChange renderComposesSpec)) renderComposesCard

/-- THE TIED CARD OF 'mullionlaw18.RenderTells'. -/
def renderTellsCard : Claim7 := { stood := { row := renderTellsRow, standIns := [], harness := (true, "59e6bde12329277622a48222cc55eeb7a78886438e03d1d8342806bcd6bf7bc7"), looks := false }, kinds := [], alts := [], laidByText := true, laidKinds := [.data, .data, .data, .listed, .data], laidTests := true, laidLooks := .later }
def RenderTellsCardSaid : Prop := Claim7.holds Tryz.pinned (.plain (OpenSpec.ofChange renderTellsSpec)) renderTellsCard

/-- THE TIED CARD OF 'mullionlaw6.ScreenSound'. -/
def screenSoundCard : Claim7 := { stood := { row := screenSoundRow, standIns := [], harness := (true, "59e6bde12329277622a48222cc55eeb7a78886438e03d1d8342806bcd6bf7bc7"), looks := false }, kinds := [], alts := [], laidByText := true, laidKinds := [.data, .data, .data, .listed, .data], laidTests := true, laidLooks := .later }
def ScreenSoundCardSaid : Prop := Claim7.holds Tryz.pinned (.plain (OpenSpec.ofChange screenSoundSpec)) screenSoundCard

/-- THE SECOND FORM's CARD OF 'mullionlaw18.RenderShows'. -/
def renderShowsUptoCard : Claim7 := { stood := { row := renderShowsUptoRow, standIns := [], harness := (true, "59e6bde12329277622a48222cc55eeb7a78886438e03d1d8342806bcd6bf7bc7"), looks := false }, kinds := [], alts := [], laidByText := true, laidKinds := [.data, .data, .data, .listed, .data], laidTests := true, laidLooks := .later }
def RenderShowsUptoCardSaid : Prop := Claim7.holds Tryz.pinned (.plain (OpenSpec.upto renderShowsSpec)) renderShowsUptoCard

/-- THE SECOND FORM's CARD OF 'mullionlaw18.RenderComposes'. -/
def renderComposesUptoCard : Claim7 := { stood := { row := renderComposesUptoRow, standIns := [], harness := (true, "59e6bde12329277622a48222cc55eeb7a78886438e03d1d8342806bcd6bf7bc7"), looks := false }, kinds := [], alts := [], laidByText := true, laidKinds := [.data, .data, .data, .listed, .data], laidTests := true, laidLooks := .later }
def RenderComposesUptoCardSaid : Prop := Claim7.holds Tryz.pinned (.plain (OpenSpec.upto renderComposesSpec)) renderComposesUptoCard

/-- THE SECOND FORM's CARD OF 'mullionlaw18.RenderTells'. -/
def renderTellsUptoCard : Claim7 := { stood := { row := renderTellsUptoRow, standIns := [], harness := (true, "59e6bde12329277622a48222cc55eeb7a78886438e03d1d8342806bcd6bf7bc7"), looks := false }, kinds := [], alts := [], laidByText := true, laidKinds := [.data, .data, .data, .listed, .data], laidTests := true, laidLooks := .later }
def RenderTellsUptoCardSaid : Prop := Claim7.holds Tryz.pinned (.plain (OpenSpec.upto renderTellsSpec)) renderTellsUptoCard

/-- THE SECOND FORM's CARD OF 'mullionlaw6.ScreenSound'. -/
def screenSoundUptoCard : Claim7 := { stood := { row := screenSoundUptoRow, standIns := [], harness := (true, "59e6bde12329277622a48222cc55eeb7a78886438e03d1d8342806bcd6bf7bc7"), looks := false }, kinds := [], alts := [], laidByText := true, laidKinds := [.data, .data, .data, .listed, .data], laidTests := true, laidLooks := .later }
def ScreenSoundUptoCardSaid : Prop := Claim7.holds Tryz.pinned (.plain (OpenSpec.upto screenSoundSpec)) screenSoundUptoCard
end Rows
end Go.Proofs.YthehkmopdeebmaaGreatDoor
