/-
  No cell of these rows narrows 'for every input' (looked for: loops, veiled, ifaces, maps, wideKeys, modest, calm, conditions, laid).
  DERIVED. THE GIVEN ROWS OF THIS SEAT. 4 by the template 'for every input the law returns true; each argument reads behind the call as it read before'; 0 by the template 'total and deterministic' (their statements: YtmiimmpiagmmlacTotals.lean).
  GIVEN WITH THE SEED: the statements are not yours to turn. If you find one false, say at which input.
  Laid BY PROGRAM, IN A SANDBOX (cutbox-rows.mjs): the forced cells as the released guide's own fill.sh prints them over the translation f83c8d0a1680d094… (all of the seat's roots in one cut). By AI agents, Wed Nov 11 2026. No macro, syntax, notation, axiom, sorry.
-/
import Derived.Test.YtmiimmpiagmmlacChecked
import GoSem.Claim
import GoSem.ClaimJoined
import GoSem.ClaimMapViews
import Derived.JoinedTies
import Derived.KernelRfl
namespace Go.Proofs.Ytmiimmpiagmmlac
/- THE CELL 'sum', in the pinned program and in every row, IS THE sha256 OF THE DUMP (.gsa) THAT YtmiimmpiagmmlacProg.lean LOADS. Nothing in Lean hashes anything: it is a label: what it is worth is what the hold of that sum in a sandbox is worth. -/
noncomputable def Try.pinned : Pinned := { name := "ytmiimmpiagmmlac", sum := "f83c8d0a1680d09450c47b0032d170301f8c0c258c660883731257946069c9bc", checked := Try.checked }
namespace Rows
def none {H : Type} : Left H := { results := [], args := [] }

/-- 'bellowslaw12.SbufOwn': WHATEVER THE INPUT: true; the input reads as it did. -/
def sbufOwnSpec : ChangeSpec := { name := "sbufOwn", fn := fun _ => fun
  | [d1, d2] => { results := [.lit (.bool true)], args := [d1, d2] }
  | _ => none }
def sbufOwnRow : OpenClaim := { program := "ytmiimmpiagmmlac", sum := "f83c8d0a1680d09450c47b0032d170301f8c0c258c660883731257946069c9bc", func := "bellows/bellowslaw12.SbufOwn", spec := "sbufOwn", apart := false }
def SbufOwnSaid : Prop := sbufOwnRow.holds Try.pinned (OpenSpec.ofChange sbufOwnSpec)

/-- ITS FALSE NEIGHBOUR: 'it returns false'. Refute it at one input. -/
def sbufOwnWrong : ChangeSpec := { name := "sbufOwn", fn := fun _ => fun
  | [d1, d2] => { results := [.lit (.bool false)], args := [d1, d2] }
  | _ => none }
def SbufOwnWrongFalsely : Prop := sbufOwnRow.holds Try.pinned (OpenSpec.ofChange sbufOwnWrong)

/-- 'bellowslaw12.SbufFull': WHATEVER THE INPUT: true; the input reads as it did. -/
def sbufFullSpec : ChangeSpec := { name := "sbufFull", fn := fun _ => fun
  | [d1, d2] => { results := [.lit (.bool true)], args := [d1, d2] }
  | _ => none }
def sbufFullRow : OpenClaim := { program := "ytmiimmpiagmmlac", sum := "f83c8d0a1680d09450c47b0032d170301f8c0c258c660883731257946069c9bc", func := "bellows/bellowslaw12.SbufFull", spec := "sbufFull", apart := false }
def SbufFullSaid : Prop := sbufFullRow.holds Try.pinned (OpenSpec.ofChange sbufFullSpec)

/-- ITS FALSE NEIGHBOUR: 'it returns false'. Refute it at one input. -/
def sbufFullWrong : ChangeSpec := { name := "sbufFull", fn := fun _ => fun
  | [d1, d2] => { results := [.lit (.bool false)], args := [d1, d2] }
  | _ => none }
def SbufFullWrongFalsely : Prop := sbufFullRow.holds Try.pinned (OpenSpec.ofChange sbufFullWrong)

/-- 'bellowslaw12.SbufPlays': WHATEVER THE INPUT: true; the input reads as it did. -/
def sbufPlaysSpec : ChangeSpec := { name := "sbufPlays", fn := fun _ => fun
  | [d1, d2] => { results := [.lit (.bool true)], args := [d1, d2] }
  | _ => none }
def sbufPlaysRow : OpenClaim := { program := "ytmiimmpiagmmlac", sum := "f83c8d0a1680d09450c47b0032d170301f8c0c258c660883731257946069c9bc", func := "bellows/bellowslaw12.SbufPlays", spec := "sbufPlays", apart := false }
def SbufPlaysSaid : Prop := sbufPlaysRow.holds Try.pinned (OpenSpec.ofChange sbufPlaysSpec)

/-- ITS FALSE NEIGHBOUR: 'it returns false'. Refute it at one input. -/
def sbufPlaysWrong : ChangeSpec := { name := "sbufPlays", fn := fun _ => fun
  | [d1, d2] => { results := [.lit (.bool false)], args := [d1, d2] }
  | _ => none }
def SbufPlaysWrongFalsely : Prop := sbufPlaysRow.holds Try.pinned (OpenSpec.ofChange sbufPlaysWrong)

/-- 'bellowslaw12.SbufNone': WHATEVER THE INPUT: true; the input reads as it did. -/
def sbufNoneSpec : ChangeSpec := { name := "sbufNone", fn := fun _ => fun
  | [d] => { results := [.lit (.bool true)], args := [d] }
  | _ => none }
def sbufNoneRow : OpenClaim := { program := "ytmiimmpiagmmlac", sum := "f83c8d0a1680d09450c47b0032d170301f8c0c258c660883731257946069c9bc", func := "bellows/bellowslaw12.SbufNone", spec := "sbufNone", apart := false }
def SbufNoneSaid : Prop := sbufNoneRow.holds Try.pinned (OpenSpec.ofChange sbufNoneSpec)

/-- ITS FALSE NEIGHBOUR: 'it returns false'. Refute it at one input. -/
def sbufNoneWrong : ChangeSpec := { name := "sbufNone", fn := fun _ => fun
  | [d] => { results := [.lit (.bool false)], args := [d] }
  | _ => none }
def SbufNoneWrongFalsely : Prop := sbufNoneRow.holds Try.pinned (OpenSpec.ofChange sbufNoneWrong)

/- THE SECOND FORM. 'bulk': how many values and letters a reading holds, each counted each time it is reached (what is shared counts as often as it is met; a slice's spare places count too). A statement '..UptoSaid' is the law's where the arguments, and the package variables that the reading takes, are together of bulk at most 1048576: NARROWER than '..Said'. Prove '..Said' where nothing that the law and all that it calls make is longer than what came in: it says more and counts as full. Else prove '..UptoSaid'. A law counts once. -/
mutual
def uptoBulk {H : Type} : DataW H → Nat
  | .lit (.string bytes) => bytes.length + 1
  | .lit _ => 1
  | .nil => 1
  | .ptr d => uptoBulk d + 1
  | .slice elems spare => uptoBulkAll elems + uptoBulkAll spare + 1
  | .agg parts => uptoBulkAll parts + 1
  | .iface _ d => uptoBulk d + 1
  | .map entries => uptoBulkEntries entries + 1
  | .held _ => 1
def uptoBulkAll {H : Type} : List (DataW H) → Nat
  | [] => 0
  | d :: r => uptoBulk d + uptoBulkAll r
def uptoBulkEntries {H : Type} : List (Lit × DataW H) → Nat
  | [] => 0
  | x :: r => uptoBulkEntry x + uptoBulkEntries r
def uptoBulkEntry {H : Type} : Lit × DataW H → Nat
  | (.string bytes, d) => bytes.length + uptoBulk d + 1
  | (_, d) => uptoBulk d + 1
 end
def uptoSmall : (H : Type) → List (DataW H) → Bool := fun _ ds => decide (uptoBulkAll ds ≤ 1048576)
def OpenSpec.upto (s : _root_.Go.ChangeSpec) : _root_.Go.OpenSpec := { _root_.Go.OpenSpec.ofChange s with cond := some uptoSmall }

/-- 'bellowslaw12.SbufOwn', WHERE WHAT IT READS IS OF BULK AT MOST 1048576: true; the input reads as it did. -/
def sbufOwnUptoRow : OpenClaim := { program := "ytmiimmpiagmmlac", sum := "f83c8d0a1680d09450c47b0032d170301f8c0c258c660883731257946069c9bc", func := "bellows/bellowslaw12.SbufOwn", spec := "sbufOwn", apart := false, narrowed := true }
def SbufOwnUptoSaid : Prop := sbufOwnUptoRow.holds Try.pinned (OpenSpec.upto sbufOwnSpec)

/-- 'bellowslaw12.SbufFull', WHERE WHAT IT READS IS OF BULK AT MOST 1048576: true; the input reads as it did. -/
def sbufFullUptoRow : OpenClaim := { program := "ytmiimmpiagmmlac", sum := "f83c8d0a1680d09450c47b0032d170301f8c0c258c660883731257946069c9bc", func := "bellows/bellowslaw12.SbufFull", spec := "sbufFull", apart := false, narrowed := true }
def SbufFullUptoSaid : Prop := sbufFullUptoRow.holds Try.pinned (OpenSpec.upto sbufFullSpec)

/-- 'bellowslaw12.SbufPlays', WHERE WHAT IT READS IS OF BULK AT MOST 1048576: true; the input reads as it did. -/
def sbufPlaysUptoRow : OpenClaim := { program := "ytmiimmpiagmmlac", sum := "f83c8d0a1680d09450c47b0032d170301f8c0c258c660883731257946069c9bc", func := "bellows/bellowslaw12.SbufPlays", spec := "sbufPlays", apart := false, narrowed := true }
def SbufPlaysUptoSaid : Prop := sbufPlaysUptoRow.holds Try.pinned (OpenSpec.upto sbufPlaysSpec)

/-- 'bellowslaw12.SbufNone', WHERE WHAT IT READS IS OF BULK AT MOST 1048576: true; the input reads as it did. -/
def sbufNoneUptoRow : OpenClaim := { program := "ytmiimmpiagmmlac", sum := "f83c8d0a1680d09450c47b0032d170301f8c0c258c660883731257946069c9bc", func := "bellows/bellowslaw12.SbufNone", spec := "sbufNone", apart := false, narrowed := true }
def SbufNoneUptoSaid : Prop := sbufNoneUptoRow.holds Try.pinned (OpenSpec.upto sbufNoneSpec)

end Rows
end Go.Proofs.Ytmiimmpiagmmlac
