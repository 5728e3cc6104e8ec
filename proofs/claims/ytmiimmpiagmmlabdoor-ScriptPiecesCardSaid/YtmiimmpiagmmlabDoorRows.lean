/-
  NARROWER THAN 'FOR EVERY INPUT', by the rows' own cells (each row's printed sentence says how): ScriptCodes: laid · ScriptRounds: laid · ScriptBack: laid · ScriptPieces: laid.
  DERIVED. THE GIVEN ROWS OF THIS SEAT. 4 by the template 'for every input the law returns true; each argument reads behind the call as it read before'; 0 by the template 'total and deterministic' (their statements: YtmiimmpiagmmlabDoorTotals.lean).
  GIVEN WITH THE SEED: the statements are not yours to turn. If you find one false, say at which input.
  Laid BY PROGRAM, IN A SANDBOX (cutbox-rows.mjs): the forced cells as the released guide's own fill.sh prints them over the translation 339351d4480ce544… (all of the seat's roots in one cut). By AI agents, Wed Nov 11 2026. No macro, syntax, notation, axiom, sorry.
-/
import Derived.Test.YtmiimmpiagmmlabDoorChecked
import GoSem.Claim
import GoSem.ClaimJoined
import GoSem.ClaimMapViews
import Derived.JoinedTies
import Derived.KernelRfl
namespace Go.Proofs.YtmiimmpiagmmlabDoor
/- THE CELL 'sum', in the pinned program and in every row, IS THE sha256 OF THE DUMP (.gsa) THAT YtmiimmpiagmmlabDoorProg.lean LOADS. Nothing in Lean hashes anything: it is a label: what it is worth is what the hold of that sum in a sandbox is worth. -/
noncomputable def Tryd.pinned : Pinned := { name := "ytmiimmpiagmmlabdoor", sum := "339351d4480ce5441beea8545c4f11d21458305bb4f00b2fe6d379c0a308098c", checked := Tryd.checked }
namespace Rows
def none {H : Type} : Left H := { results := [], args := [] }

/- WHAT THE LISTED PACKAGE-LEVEL VARIABLES READ AS WHEN THE CALL BEGINS. Each datum BY PROGRAM (the guide's laid-datum.mjs) off the statement by which the dump's own 'gosem.cut.vars' lays the variable. In a bare row this is a premise. The card (YtmiimmpiagmmlabDoorCards.lean) ties it to the program's text. -/
def laid_bellows_script_has {H : Type} : DataW H := .agg [.lit (.int .u8 0), .lit (.int .u8 1), .lit (.int .u8 1), .lit (.int .u8 1), .lit (.int .u8 1), .lit (.int .u8 1), .lit (.int .u8 2), .lit (.int .u8 3), .lit (.int .u8 2), .lit (.int .u8 2), .lit (.int .u8 0)]

/-- 'bellowslaw16.ScriptCodes': WHATEVER THE INPUT: true; the input reads as it did. -/
def scriptCodesSpec : ChangeSpec := { name := "scriptCodes", fn := fun _ => fun
  | [d1, d2] => { results := [.lit (.bool true)], args := [d1, d2] }
  | _ => none }
def scriptCodesRow : OpenClaim := { program := "ytmiimmpiagmmlabdoor", sum := "339351d4480ce5441beea8545c4f11d21458305bb4f00b2fe6d379c0a308098c", func := "bellows/bellowslaw16.ScriptCodes", spec := "scriptCodes", named := ["bellows/script.has"], apart := false, laid := [("bellows/script.has", laid_bellows_script_has)] }
def ScriptCodesSaid : Prop := scriptCodesRow.holds Tryd.pinned (OpenSpec.ofChange scriptCodesSpec)

/-- ITS FALSE NEIGHBOUR: 'it returns false'. Refute it at one input. -/
def scriptCodesWrong : ChangeSpec := { name := "scriptCodes", fn := fun _ => fun
  | [d1, d2] => { results := [.lit (.bool false)], args := [d1, d2] }
  | _ => none }
def ScriptCodesWrongFalsely : Prop := scriptCodesRow.holds Tryd.pinned (OpenSpec.ofChange scriptCodesWrong)

/-- 'bellowslaw16.ScriptRounds': WHATEVER THE INPUT: true; the input reads as it did. -/
def scriptRoundsSpec : ChangeSpec := { name := "scriptRounds", fn := fun _ => fun
  | [d] => { results := [.lit (.bool true)], args := [d] }
  | _ => none }
def scriptRoundsRow : OpenClaim := { program := "ytmiimmpiagmmlabdoor", sum := "339351d4480ce5441beea8545c4f11d21458305bb4f00b2fe6d379c0a308098c", func := "bellows/bellowslaw16.ScriptRounds", spec := "scriptRounds", named := ["bellows/script.has"], apart := false, laid := [("bellows/script.has", laid_bellows_script_has)] }
def ScriptRoundsSaid : Prop := scriptRoundsRow.holds Tryd.pinned (OpenSpec.ofChange scriptRoundsSpec)

/-- ITS FALSE NEIGHBOUR: 'it returns false'. Refute it at one input. -/
def scriptRoundsWrong : ChangeSpec := { name := "scriptRounds", fn := fun _ => fun
  | [d] => { results := [.lit (.bool false)], args := [d] }
  | _ => none }
def ScriptRoundsWrongFalsely : Prop := scriptRoundsRow.holds Tryd.pinned (OpenSpec.ofChange scriptRoundsWrong)

/-- 'bellowslaw16.ScriptBack': WHATEVER THE INPUT: true; the input reads as it did. -/
def scriptBackSpec : ChangeSpec := { name := "scriptBack", fn := fun _ => fun
  | [d1, d2] => { results := [.lit (.bool true)], args := [d1, d2] }
  | _ => none }
def scriptBackRow : OpenClaim := { program := "ytmiimmpiagmmlabdoor", sum := "339351d4480ce5441beea8545c4f11d21458305bb4f00b2fe6d379c0a308098c", func := "bellows/bellowslaw16.ScriptBack", spec := "scriptBack", named := ["bellows/script.has"], apart := false, laid := [("bellows/script.has", laid_bellows_script_has)] }
def ScriptBackSaid : Prop := scriptBackRow.holds Tryd.pinned (OpenSpec.ofChange scriptBackSpec)

/-- ITS FALSE NEIGHBOUR: 'it returns false'. Refute it at one input. -/
def scriptBackWrong : ChangeSpec := { name := "scriptBack", fn := fun _ => fun
  | [d1, d2] => { results := [.lit (.bool false)], args := [d1, d2] }
  | _ => none }
def ScriptBackWrongFalsely : Prop := scriptBackRow.holds Tryd.pinned (OpenSpec.ofChange scriptBackWrong)

/-- 'bellowslaw16.ScriptPieces': WHATEVER THE INPUT: true; the input reads as it did. -/
def scriptPiecesSpec : ChangeSpec := { name := "scriptPieces", fn := fun _ => fun
  | [d1, d2, d3] => { results := [.lit (.bool true)], args := [d1, d2, d3] }
  | _ => none }
def scriptPiecesRow : OpenClaim := { program := "ytmiimmpiagmmlabdoor", sum := "339351d4480ce5441beea8545c4f11d21458305bb4f00b2fe6d379c0a308098c", func := "bellows/bellowslaw16.ScriptPieces", spec := "scriptPieces", named := ["bellows/script.has"], apart := false, laid := [("bellows/script.has", laid_bellows_script_has)] }
def ScriptPiecesSaid : Prop := scriptPiecesRow.holds Tryd.pinned (OpenSpec.ofChange scriptPiecesSpec)

/-- ITS FALSE NEIGHBOUR: 'it returns false'. Refute it at one input. -/
def scriptPiecesWrong : ChangeSpec := { name := "scriptPieces", fn := fun _ => fun
  | [d1, d2, d3] => { results := [.lit (.bool false)], args := [d1, d2, d3] }
  | _ => none }
def ScriptPiecesWrongFalsely : Prop := scriptPiecesRow.holds Tryd.pinned (OpenSpec.ofChange scriptPiecesWrong)

/- THE SECOND FORM. 'bulk': how many values and letters a reading holds, each counted each time it is reached (what is shared counts as often as it is met; a slice's spare places count too). A statement '..UptoSaid' is the law's where the arguments, and the package variables that the reading takes, are together of bulk at most 1048576: NARROWER than '..Said'. Prove '..Said' where nothing that the law and all that it calls make is longer than what came in: it says more and counts as full. Else prove '..UptoSaid'. A law counts once. -/
mutual
def uptoBulk {H : Type} : DataW H → Nat
  | .lit (.string bytes) => bytes.length + 1
  | .lit _ => 1
  | .nil => 1
  | .ptr d => uptoBulk d + 1
  | .slice elems spare => uptoBulkAll elems + uptoBulkAll spare + 1
  | .agg parts => uptoBulkAll parts + 1
  | .iface _ d => uptoBulk d + 1
  | .map entries => uptoBulkEntries entries + 1
  | .held _ => 1
def uptoBulkAll {H : Type} : List (DataW H) → Nat
  | [] => 0
  | d :: r => uptoBulk d + uptoBulkAll r
def uptoBulkEntries {H : Type} : List (Lit × DataW H) → Nat
  | [] => 0
  | x :: r => uptoBulkEntry x + uptoBulkEntries r
def uptoBulkEntry {H : Type} : Lit × DataW H → Nat
  | (.string bytes, d) => bytes.length + uptoBulk d + 1
  | (_, d) => uptoBulk d + 1
 end
def uptoSmall : (H : Type) → List (DataW H) → Bool := fun _ ds => decide (uptoBulkAll ds ≤ 1048576)
def OpenSpec.upto (s : _root_.Go.ChangeSpec) : _root_.Go.OpenSpec := { _root_.Go.OpenSpec.ofChange s with cond := some uptoSmall }

/-- 'bellowslaw16.ScriptCodes', WHERE WHAT IT READS IS OF BULK AT MOST 1048576: true; the input reads as it did. -/
def scriptCodesUptoRow : OpenClaim := { program := "ytmiimmpiagmmlabdoor", sum := "339351d4480ce5441beea8545c4f11d21458305bb4f00b2fe6d379c0a308098c", func := "bellows/bellowslaw16.ScriptCodes", spec := "scriptCodes", named := ["bellows/script.has"], apart := false, laid := [("bellows/script.has", laid_bellows_script_has)], narrowed := true }
def ScriptCodesUptoSaid : Prop := scriptCodesUptoRow.holds Tryd.pinned (OpenSpec.upto scriptCodesSpec)

/-- 'bellowslaw16.ScriptRounds', WHERE WHAT IT READS IS OF BULK AT MOST 1048576: true; the input reads as it did. -/
def scriptRoundsUptoRow : OpenClaim := { program := "ytmiimmpiagmmlabdoor", sum := "339351d4480ce5441beea8545c4f11d21458305bb4f00b2fe6d379c0a308098c", func := "bellows/bellowslaw16.ScriptRounds", spec := "scriptRounds", named := ["bellows/script.has"], apart := false, laid := [("bellows/script.has", laid_bellows_script_has)], narrowed := true }
def ScriptRoundsUptoSaid : Prop := scriptRoundsUptoRow.holds Tryd.pinned (OpenSpec.upto scriptRoundsSpec)

/-- 'bellowslaw16.ScriptBack', WHERE WHAT IT READS IS OF BULK AT MOST 1048576: true; the input reads as it did. -/
def scriptBackUptoRow : OpenClaim := { program := "ytmiimmpiagmmlabdoor", sum := "339351d4480ce5441beea8545c4f11d21458305bb4f00b2fe6d379c0a308098c", func := "bellows/bellowslaw16.ScriptBack", spec := "scriptBack", named := ["bellows/script.has"], apart := false, laid := [("bellows/script.has", laid_bellows_script_has)], narrowed := true }
def ScriptBackUptoSaid : Prop := scriptBackUptoRow.holds Tryd.pinned (OpenSpec.upto scriptBackSpec)

/-- 'bellowslaw16.ScriptPieces', WHERE WHAT IT READS IS OF BULK AT MOST 1048576: true; the input reads as it did. -/
def scriptPiecesUptoRow : OpenClaim := { program := "ytmiimmpiagmmlabdoor", sum := "339351d4480ce5441beea8545c4f11d21458305bb4f00b2fe6d379c0a308098c", func := "bellows/bellowslaw16.ScriptPieces", spec := "scriptPieces", named := ["bellows/script.has"], apart := false, laid := [("bellows/script.has", laid_bellows_script_has)], narrowed := true }
def ScriptPiecesUptoSaid : Prop := scriptPiecesUptoRow.holds Tryd.pinned (OpenSpec.upto scriptPiecesSpec)

end Rows
end Go.Proofs.YtmiimmpiagmmlabDoor
