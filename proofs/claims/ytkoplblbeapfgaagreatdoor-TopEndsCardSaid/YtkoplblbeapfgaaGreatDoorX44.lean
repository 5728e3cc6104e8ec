/-
Parts of the walk of TopEnds. Conditions stand in each statement.
-/
import Derived.ProofKit
import Derived.LaidMore
import Derived.OpenShut
import Derived.Stop.Joined
import Derived.Lib.SmallJoins
import Derived.SevenTiedAt
import Derived.Test.YtkoplblbeapfgaaGreatDoorCards
import Derived.Test.YtkoplblbeapfgaaGreatDoorTie
import Derived.Test.YtkoplblbeapfgaaGreatDoorX00
namespace Go.Proofs.YtkoplblbeapfgaaGreatDoor
open Go.ChangeShapes Go.WideShapes Go.ChangeAt Go.RowKit
open Go.Proofs.Tryz
set_option linter.all false
set_option maxRecDepth 100000
set_option maxHeartbeats 8000000
theorem F_named : prog.funcNamed "bellows/bellowstop.TopEnds" = some 3 := by kernel_rfl
theorem F_inst : f3.isInstance prog Rows.topEndsRow.origin Rows.topEndsRow.targs := of_decide_eq_true (by kernel_rfl)
theorem F_wrap : f3.isWrapper prog Rows.topEndsRow.wrapper Rows.topEndsRow.mainSum := by unfold Func.isWrapper; first | (rw [if_pos (by decide +kernel)]; kernel_rfl) | (rw [if_neg (by decide +kernel)]; exact ⟨rfl, rfl⟩)
theorem F_text : Rows.topEndsRow.wfByText (OpenSpec.ofChange Rows.topEndsSpec) = true := by kernel_rfl
theorem F_main : prog.mainIs = some (true, "51961bff22c1e2dbb286b704246a9a17e9d9ca3f7d0ffe781897d9cf56711d89".toList) := by kernel_rfl
theorem F_looks : true = prog.looks [] := by kernel_rfl
theorem F_stand : ([5, 5, 5].all fun u => !prog.wantsStandIn u) = true := by kernel_rfl
theorem no_go : prog.funcs.any Func.goes = false := by kernel_rfl
theorem goes_of {Q : Program} {n : String} {f : FuncId} (hn : Q.funcNamed n = some f) (h : Q.funcs.any Func.goes = false) : Q.goesFrom n = false := by
 unfold Program.goesFrom
 rw [hn, Option.any_some]
 unfold Program.goes
 rw [h, Bool.and_false, Bool.or_false, List.any_eq_false]
 intro g _ hg
 rw [Array.any_eq_false] at h
 cases hf : Q.funcs[g]? with
 | none => rw [hf] at hg; simp at hg
 | some fn =>
   rw [hf, Option.any_some] at hg
   obtain ⟨hl, he⟩ := Array.getElem?_eq_some_iff.1 hf
   exact h g hl (he ▸ hg)
theorem F_goes : false = Rows.topEndsRow.goesBy prog := by
 have h := goes_of (Q := prog) (n := Rows.topEndsRow.func) F_named no_go
 unfold OpenClaim.goesBy Program.goesAt
 rw [h]
 rfl
theorem and_of {a b : Bool} (h : a = true) (k : b = true) : (a && b) = true := by rw [h, k]; rfl
theorem F_closed : joinedFacts prog 3 f3 Rows.topEndsSpec Rows.topEndsRow = true := by
 unfold joinedFacts
 repeat' (with_reducible refine and_of ?_ ?_)
 all_goals (as_aux_lemma => kernel_rfl)
end Go.Proofs.YtkoplblbeapfgaaGreatDoor
