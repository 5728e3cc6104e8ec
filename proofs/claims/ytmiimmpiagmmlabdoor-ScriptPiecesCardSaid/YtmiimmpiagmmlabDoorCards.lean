/-
  DERIVED. GIVEN WITH THE SEED: THE CARDS: each row of YtmiimmpiagmmlabDoorRows.lean that lists a variable, with what it lists TIED to the program's text (the seventh form; the later family's looks); each row that meets fmt, with fmt's text TOLD by the authors' own Lean function (tested against real Go, not proved from fmt's source: count such statements apart). THE CARD IS WHAT COUNTS. Prove the row's statement (the work); the ties are given (YtmiimmpiagmmlabDoorTie.lean); close each card by the builder's one call (the guide's Derived/Test/ToyasCard.lean, 'card_holds'). Laid BY PROGRAM, IN A SANDBOX (cutbox-door.mjs). By AI agents, Wed Nov 11 2026. No macro, syntax, notation, axiom, sorry.
-/
import Derived.Test.YtmiimmpiagmmlabDoorRows
import GoSem.ClaimSeven
namespace Go.Proofs.YtmiimmpiagmmlabDoor
namespace Rows

/-- THE TIED CARD OF 'bellowslaw16.ScriptCodes'. -/
def scriptCodesCard : Claim7 := { stood := { row := scriptCodesRow, standIns := [], harness := (true, "5ac1f33e44d2840b2bbb92172b1f8193f44b6a252bc08d2dfb56ebb80071e9db"), looks := false }, kinds := [], alts := [], laidByText := true, laidKinds := [.data], laidTests := true, laidLooks := .later }
def ScriptCodesCardSaid : Prop := Claim7.holds Tryd.pinned (.plain (OpenSpec.ofChange scriptCodesSpec)) scriptCodesCard

/-- THE TIED CARD OF 'bellowslaw16.ScriptRounds'. -/
def scriptRoundsCard : Claim7 := { stood := { row := scriptRoundsRow, standIns := [], harness := (true, "5ac1f33e44d2840b2bbb92172b1f8193f44b6a252bc08d2dfb56ebb80071e9db"), looks := false }, kinds := [], alts := [], laidByText := true, laidKinds := [.data], laidTests := true, laidLooks := .later }
def ScriptRoundsCardSaid : Prop := Claim7.holds Tryd.pinned (.plain (OpenSpec.ofChange scriptRoundsSpec)) scriptRoundsCard

/-- THE TIED CARD OF 'bellowslaw16.ScriptBack'. -/
def scriptBackCard : Claim7 := { stood := { row := scriptBackRow, standIns := [], harness := (true, "5ac1f33e44d2840b2bbb92172b1f8193f44b6a252bc08d2dfb56ebb80071e9db"), looks := false }, kinds := [], alts := [], laidByText := true, laidKinds := [.data], laidTests := true, laidLooks := .later }
def ScriptBackCardSaid : Prop := Claim7.holds Tryd.pinned (.plain (OpenSpec.ofChange scriptBackSpec)) scriptBackCard

/-- THE TIED CARD OF 'bellowslaw16.ScriptPieces'. -/
def scriptPiecesCard : Claim7 := { stood := { row := scriptPiecesRow, standIns := [], harness := (true, "5ac1f33e44d2840b2bbb92172b1f8193f44b6a252bc08d2dfb56ebb80071e9db"), looks := false }, kinds := [], alts := [], laidByText := true, laidKinds := [.data], laidTests := true, laidLooks := .later }
def ScriptPiecesCardSaid : Prop := Claim7.holds Tryd.pinned (.plain (OpenSpec.ofChange scriptPiecesSpec)) scriptPiecesCard

/-- THE SECOND FORM's CARD OF 'bellowslaw16.ScriptCodes'. -/
def scriptCodesUptoCard : Claim7 := { stood := { row := scriptCodesUptoRow, standIns := [], harness := (true, "5ac1f33e44d2840b2bbb92172b1f8193f44b6a252bc08d2dfb56ebb80071e9db"), looks := false }, kinds := [], alts := [], laidByText := true, laidKinds := [.data], laidTests := true, laidLooks := .later }
def ScriptCodesUptoCardSaid : Prop := Claim7.holds Tryd.pinned (.plain (OpenSpec.upto scriptCodesSpec)) scriptCodesUptoCard

/-- THE SECOND FORM's CARD OF 'bellowslaw16.ScriptRounds'. -/
def scriptRoundsUptoCard : Claim7 := { stood := { row := scriptRoundsUptoRow, standIns := [], harness := (true, "5ac1f33e44d2840b2bbb92172b1f8193f44b6a252bc08d2dfb56ebb80071e9db"), looks := false }, kinds := [], alts := [], laidByText := true, laidKinds := [.data], laidTests := true, laidLooks := .later }
def ScriptRoundsUptoCardSaid : Prop := Claim7.holds Tryd.pinned (.plain (OpenSpec.upto scriptRoundsSpec)) scriptRoundsUptoCard

/-- THE SECOND FORM's CARD OF 'bellowslaw16.ScriptBack'. -/
def scriptBackUptoCard : Claim7 := { stood := { row := scriptBackUptoRow, standIns := [], harness := (true, "5ac1f33e44d2840b2bbb92172b1f8193f44b6a252bc08d2dfb56ebb80071e9db"), looks := false }, kinds := [], alts := [], laidByText := true, laidKinds := [.data], laidTests := true, laidLooks := .later }
def ScriptBackUptoCardSaid : Prop := Claim7.holds Tryd.pinned (.plain (OpenSpec.upto scriptBackSpec)) scriptBackUptoCard

/-- THE SECOND FORM's CARD OF 'bellowslaw16.ScriptPieces'. -/
def scriptPiecesUptoCard : Claim7 := { stood := { row := scriptPiecesUptoRow, standIns := [], harness := (true, "5ac1f33e44d2840b2bbb92172b1f8193f44b6a252bc08d2dfb56ebb80071e9db"), looks := false }, kinds := [], alts := [], laidByText := true, laidKinds := [.data], laidTests := true, laidLooks := .later }
def ScriptPiecesUptoCardSaid : Prop := Claim7.holds Tryd.pinned (.plain (OpenSpec.upto scriptPiecesSpec)) scriptPiecesUptoCard
end Rows
end Go.Proofs.YtmiimmpiagmmlabDoor
