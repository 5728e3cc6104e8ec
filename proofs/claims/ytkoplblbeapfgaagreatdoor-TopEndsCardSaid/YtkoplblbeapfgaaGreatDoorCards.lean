/-
  DERIVED. GIVEN WITH THE SEED: THE CARDS: each row of YtkoplblbeapfgaaGreatDoorRows.lean that lists a variable, with what it lists TIED to the program's text (the seventh form; the later family's looks); each row that meets fmt, with fmt's text TOLD by the authors' own Lean function (tested against real Go, not proved from fmt's source: count such statements apart). THE CARD IS WHAT COUNTS. Prove the row's statement (the work); the ties are given (YtkoplblbeapfgaaGreatDoorTie.lean); close each card by the builder's one call (the guide's Derived/Test/ToyasCard.lean, 'card_holds'). Laid BY PROGRAM, IN A SANDBOX (cutbox-door.mjs). By AI agents, Wed Nov 11 2026. No macro, syntax, notation, axiom, sorry.
-/
import Derived.Test.YtkoplblbeapfgaaGreatDoorRows
import GoSem.ClaimSeven
namespace Go.Proofs.YtkoplblbeapfgaaGreatDoor
namespace Rows

/-- THE TIED CARD OF 'bellowstop.TopEnds'. -/
def topEndsCard : Claim7 := { stood := { row := topEndsRow, standIns := [], harness := (true, "51961bff22c1e2dbb286b704246a9a17e9d9ca3f7d0ffe781897d9cf56711d89"), looks := true }, kinds := [], alts := [], laidByText := true, laidKinds := [.data, .data, .data, .sentinel, .sentinel], laidTests := true, laidLooks := .later }
def TopEndsCardSaid : Prop := Claim7.holds Tryz.pinned (.plain (OpenSpec.ofChange topEndsSpec)) topEndsCard

/-- THE TIED CARD OF 'bellowstop.TopSerial'. -/
def topSerialCard : Claim7 := { stood := { row := topSerialRow, standIns := [], harness := (true, "51961bff22c1e2dbb286b704246a9a17e9d9ca3f7d0ffe781897d9cf56711d89"), looks := true }, kinds := [], alts := [], laidByText := true, laidKinds := [.data, .data, .data, .data, .sentinel, .sentinel], laidTests := true, laidLooks := .later }
def TopSerialCardSaid : Prop := Claim7.holds Tryz.pinned (.plain (OpenSpec.ofChange topSerialSpec)) topSerialCard

/-- THE TIED CARD OF 'bellowstop.TopRecovers'. -/
def topRecoversCard : Claim7 := { stood := { row := topRecoversRow, standIns := [], harness := (true, "51961bff22c1e2dbb286b704246a9a17e9d9ca3f7d0ffe781897d9cf56711d89"), looks := true }, kinds := [], alts := [], laidByText := true, laidKinds := [.data, .data, .data, .data, .sentinel, .sentinel], laidTests := true, laidLooks := .later }
def TopRecoversCardSaid : Prop := Claim7.holds Tryz.pinned (.plain (OpenSpec.ofChange topRecoversSpec)) topRecoversCard

/-- THE SECOND FORM's CARD OF 'bellowstop.TopEnds'. -/
def topEndsUptoCard : Claim7 := { stood := { row := topEndsUptoRow, standIns := [], harness := (true, "51961bff22c1e2dbb286b704246a9a17e9d9ca3f7d0ffe781897d9cf56711d89"), looks := true }, kinds := [], alts := [], laidByText := true, laidKinds := [.data, .data, .data, .sentinel, .sentinel], laidTests := true, laidLooks := .later }
def TopEndsUptoCardSaid : Prop := Claim7.holds Tryz.pinned (.plain (OpenSpec.upto topEndsSpec)) topEndsUptoCard

/-- THE SECOND FORM's CARD OF 'bellowstop.TopSerial'. -/
def topSerialUptoCard : Claim7 := { stood := { row := topSerialUptoRow, standIns := [], harness := (true, "51961bff22c1e2dbb286b704246a9a17e9d9ca3f7d0ffe781897d9cf56711d89"), looks := true }, kinds := [], alts := [], laidByText := true, laidKinds := [.data, .data, .data, .data, .sentinel, .sentinel], laidTests := true, laidLooks := .later }
def TopSerialUptoCardSaid : Prop := Claim7.holds Tryz.pinned (.plain (OpenSpec.upto topSerialSpec)) topSerialUptoCard

/-- THE SECOND FORM's CARD OF 'bellowstop.TopRecovers'. -/
def topRecoversUptoCard : Claim7 := { stood := { row := topRecoversUptoRow, standIns := [], harness := (true, "51961bff22c1e2dbb286b704246a9a17e9d9ca3f7d0ffe781897d9cf56711d89"), looks := true }, kinds := [], alts := [], laidByText := true, laidKinds := [.data, .data, .data, .data, .sentinel, .sentinel], laidTests := true, laidLooks := .later }
def TopRecoversUptoCardSaid : Prop := Claim7.holds Tryz.pinned (.plain (OpenSpec.upto topRecoversSpec)) topRecoversUptoCard
end Rows
end Go.Proofs.YtkoplblbeapfgaaGreatDoor
