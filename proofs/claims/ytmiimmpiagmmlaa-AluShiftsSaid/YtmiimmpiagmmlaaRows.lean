/-
  No cell of these rows narrows 'for every input' (looked for: loops, veiled, ifaces, maps, wideKeys, modest, calm, conditions, laid).
  DERIVED. THE GIVEN ROWS OF THIS SEAT. 4 by the template 'for every input the law returns true; each argument reads behind the call as it read before'; 0 by the template 'total and deterministic' (their statements: YtmiimmpiagmmlaaTotals.lean).
  GIVEN WITH THE SEED: the statements are not yours to turn. If you find one false, say at which input.
  Laid BY PROGRAM, IN A SANDBOX (cutbox-rows.mjs): the forced cells as the released guide's own fill.sh prints them over the translation 2797b7f5ee8e1fec… (all of the seat's roots in one cut). By AI agents, Wed Nov 11 2026. No macro, syntax, notation, axiom, sorry.
-/
import Derived.Test.YtmiimmpiagmmlaaChecked
import GoSem.Claim
import GoSem.ClaimJoined
import GoSem.ClaimMapViews
import Derived.JoinedTies
import Derived.KernelRfl
namespace Go.Proofs.Ytmiimmpiagmmlaa
/- THE CELL 'sum', in the pinned program and in every row, IS THE sha256 OF THE DUMP (.gsa) THAT YtmiimmpiagmmlaaProg.lean LOADS. Nothing in Lean hashes anything: it is a label: what it is worth is what the hold of that sum in a sandbox is worth. -/
noncomputable def Try.pinned : Pinned := { name := "ytmiimmpiagmmlaa", sum := "2797b7f5ee8e1fec42cf71ceb9a24c786cf4f5a530c4bfcde46117893538991b", checked := Try.checked }
namespace Rows
def none {H : Type} : Left H := { results := [], args := [] }

/-- 'bellowslaw11.AluDoes': WHATEVER THE INPUT: true; the input reads as it did. -/
def aluDoesSpec : ChangeSpec := { name := "aluDoes", fn := fun _ => fun
  | [d1, d2, d3] => { results := [.lit (.bool true)], args := [d1, d2, d3] }
  | _ => none }
def aluDoesRow : OpenClaim := { program := "ytmiimmpiagmmlaa", sum := "2797b7f5ee8e1fec42cf71ceb9a24c786cf4f5a530c4bfcde46117893538991b", func := "bellows/bellowslaw11.AluDoes", spec := "aluDoes", unfollowed := true, recurses := true, apart := false }
def AluDoesSaid : Prop := aluDoesRow.holds Try.pinned (OpenSpec.ofChange aluDoesSpec)

/-- ITS FALSE NEIGHBOUR: 'it returns false'. Refute it at one input. -/
def aluDoesWrong : ChangeSpec := { name := "aluDoes", fn := fun _ => fun
  | [d1, d2, d3] => { results := [.lit (.bool false)], args := [d1, d2, d3] }
  | _ => none }
def AluDoesWrongFalsely : Prop := aluDoesRow.holds Try.pinned (OpenSpec.ofChange aluDoesWrong)

/-- 'bellowslaw11.AluGoes': WHATEVER THE INPUT: true; the input reads as it did. -/
def aluGoesSpec : ChangeSpec := { name := "aluGoes", fn := fun _ => fun
  | [d1, d2, d3] => { results := [.lit (.bool true)], args := [d1, d2, d3] }
  | _ => none }
def aluGoesRow : OpenClaim := { program := "ytmiimmpiagmmlaa", sum := "2797b7f5ee8e1fec42cf71ceb9a24c786cf4f5a530c4bfcde46117893538991b", func := "bellows/bellowslaw11.AluGoes", spec := "aluGoes", unfollowed := true, recurses := true, apart := false }
def AluGoesSaid : Prop := aluGoesRow.holds Try.pinned (OpenSpec.ofChange aluGoesSpec)

/-- ITS FALSE NEIGHBOUR: 'it returns false'. Refute it at one input. -/
def aluGoesWrong : ChangeSpec := { name := "aluGoes", fn := fun _ => fun
  | [d1, d2, d3] => { results := [.lit (.bool false)], args := [d1, d2, d3] }
  | _ => none }
def AluGoesWrongFalsely : Prop := aluGoesRow.holds Try.pinned (OpenSpec.ofChange aluGoesWrong)

/-- 'bellowslaw11.AluUndoes': WHATEVER THE INPUT: true; the input reads as it did. -/
def aluUndoesSpec : ChangeSpec := { name := "aluUndoes", fn := fun _ => fun
  | [d1, d2, d3] => { results := [.lit (.bool true)], args := [d1, d2, d3] }
  | _ => none }
def aluUndoesRow : OpenClaim := { program := "ytmiimmpiagmmlaa", sum := "2797b7f5ee8e1fec42cf71ceb9a24c786cf4f5a530c4bfcde46117893538991b", func := "bellows/bellowslaw11.AluUndoes", spec := "aluUndoes", unfollowed := true, recurses := true, apart := false }
def AluUndoesSaid : Prop := aluUndoesRow.holds Try.pinned (OpenSpec.ofChange aluUndoesSpec)

/-- ITS FALSE NEIGHBOUR: 'it returns false'. Refute it at one input. -/
def aluUndoesWrong : ChangeSpec := { name := "aluUndoes", fn := fun _ => fun
  | [d1, d2, d3] => { results := [.lit (.bool false)], args := [d1, d2, d3] }
  | _ => none }
def AluUndoesWrongFalsely : Prop := aluUndoesRow.holds Try.pinned (OpenSpec.ofChange aluUndoesWrong)

/-- 'bellowslaw11.AluShifts': WHATEVER THE INPUT: true; the input reads as it did. -/
def aluShiftsSpec : ChangeSpec := { name := "aluShifts", fn := fun _ => fun
  | [d1, d2] => { results := [.lit (.bool true)], args := [d1, d2] }
  | _ => none }
def aluShiftsRow : OpenClaim := { program := "ytmiimmpiagmmlaa", sum := "2797b7f5ee8e1fec42cf71ceb9a24c786cf4f5a530c4bfcde46117893538991b", func := "bellows/bellowslaw11.AluShifts", spec := "aluShifts", unfollowed := true, recurses := true, apart := false }
def AluShiftsSaid : Prop := aluShiftsRow.holds Try.pinned (OpenSpec.ofChange aluShiftsSpec)

/-- ITS FALSE NEIGHBOUR: 'it returns false'. Refute it at one input. -/
def aluShiftsWrong : ChangeSpec := { name := "aluShifts", fn := fun _ => fun
  | [d1, d2] => { results := [.lit (.bool false)], args := [d1, d2] }
  | _ => none }
def AluShiftsWrongFalsely : Prop := aluShiftsRow.holds Try.pinned (OpenSpec.ofChange aluShiftsWrong)

/- THE SECOND FORM. 'bulk': how many values and letters a reading holds, each counted each time it is reached (what is shared counts as often as it is met; a slice's spare places count too). A statement '..UptoSaid' is the law's where the arguments, and the package variables that the reading takes, are together of bulk at most 1048576: NARROWER than '..Said'. Prove '..Said' where nothing that the law and all that it calls make is longer than what came in: it says more and counts as full. Else prove '..UptoSaid'. A law counts once. -/
mutual
def uptoBulk {H : Type} : DataW H → Nat
  | .lit (.string bytes) => bytes.length + 1
  | .lit _ => 1
  | .nil => 1
  | .ptr d => uptoBulk d + 1
  | .slice elems spare => uptoBulkAll elems + uptoBulkAll spare + 1
  | .agg parts => uptoBulkAll parts + 1
  | .iface _ d => uptoBulk d + 1
  | .map entries => uptoBulkEntries entries + 1
  | .held _ => 1
def uptoBulkAll {H : Type} : List (DataW H) → Nat
  | [] => 0
  | d :: r => uptoBulk d + uptoBulkAll r
def uptoBulkEntries {H : Type} : List (Lit × DataW H) → Nat
  | [] => 0
  | x :: r => uptoBulkEntry x + uptoBulkEntries r
def uptoBulkEntry {H : Type} : Lit × DataW H → Nat
  | (.string bytes, d) => bytes.length + uptoBulk d + 1
  | (_, d) => uptoBulk d + 1
 end
def uptoSmall : (H : Type) → List (DataW H) → Bool := fun _ ds => decide (uptoBulkAll ds ≤ 1048576)
def OpenSpec.upto (s : _root_.Go.ChangeSpec) : _root_.Go.OpenSpec := { _root_.Go.OpenSpec.ofChange s with cond := some uptoSmall }

/-- 'bellowslaw11.AluDoes', WHERE WHAT IT READS IS OF BULK AT MOST 1048576: true; the input reads as it did. -/
def aluDoesUptoRow : OpenClaim := { program := "ytmiimmpiagmmlaa", sum := "2797b7f5ee8e1fec42cf71ceb9a24c786cf4f5a530c4bfcde46117893538991b", func := "bellows/bellowslaw11.AluDoes", spec := "aluDoes", unfollowed := true, recurses := true, apart := false, narrowed := true }
def AluDoesUptoSaid : Prop := aluDoesUptoRow.holds Try.pinned (OpenSpec.upto aluDoesSpec)

/-- 'bellowslaw11.AluGoes', WHERE WHAT IT READS IS OF BULK AT MOST 1048576: true; the input reads as it did. -/
def aluGoesUptoRow : OpenClaim := { program := "ytmiimmpiagmmlaa", sum := "2797b7f5ee8e1fec42cf71ceb9a24c786cf4f5a530c4bfcde46117893538991b", func := "bellows/bellowslaw11.AluGoes", spec := "aluGoes", unfollowed := true, recurses := true, apart := false, narrowed := true }
def AluGoesUptoSaid : Prop := aluGoesUptoRow.holds Try.pinned (OpenSpec.upto aluGoesSpec)

/-- 'bellowslaw11.AluUndoes', WHERE WHAT IT READS IS OF BULK AT MOST 1048576: true; the input reads as it did. -/
def aluUndoesUptoRow : OpenClaim := { program := "ytmiimmpiagmmlaa", sum := "2797b7f5ee8e1fec42cf71ceb9a24c786cf4f5a530c4bfcde46117893538991b", func := "bellows/bellowslaw11.AluUndoes", spec := "aluUndoes", unfollowed := true, recurses := true, apart := false, narrowed := true }
def AluUndoesUptoSaid : Prop := aluUndoesUptoRow.holds Try.pinned (OpenSpec.upto aluUndoesSpec)

/-- 'bellowslaw11.AluShifts', WHERE WHAT IT READS IS OF BULK AT MOST 1048576: true; the input reads as it did. -/
def aluShiftsUptoRow : OpenClaim := { program := "ytmiimmpiagmmlaa", sum := "2797b7f5ee8e1fec42cf71ceb9a24c786cf4f5a530c4bfcde46117893538991b", func := "bellows/bellowslaw11.AluShifts", spec := "aluShifts", unfollowed := true, recurses := true, apart := false, narrowed := true }
def AluShiftsUptoSaid : Prop := aluShiftsUptoRow.holds Try.pinned (OpenSpec.upto aluShiftsSpec)

end Rows
end Go.Proofs.Ytmiimmpiagmmlaa
