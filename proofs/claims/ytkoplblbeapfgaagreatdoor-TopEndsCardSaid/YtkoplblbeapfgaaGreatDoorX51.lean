/-
Parts of the walk of TopEnds. Conditions stand in each statement.
-/
import Derived.Test.YtkoplblbeapfgaaGreatDoorX04
namespace Go.Proofs.YtkoplblbeapfgaaGreatDoor
open Go.RowKit
open Tryz
set_option linter.all false
set_option maxRecDepth 100000
set_option maxHeartbeats 8000000
theorem Vp (v : Int) : Dt 104 (Bl 2000 (Du 2 0 v) []) = true := by kernel_rfl
theorem Vo (v : Int) : Dt 103 (Bl 2000 (Du 2 1 v) []) = true := by kernel_rfl
theorem Vn (v : Int) : Dt 102 (Bl 2000 (Du 2 2 v) []) = true := by kernel_rfl
theorem Vm (v : Int) : Dt 104 (Bl 2000 (Du 3 0 v) []) = true := by kernel_rfl
theorem Vl (v : Int) : Dt 103 (Bl 2000 (Du 3 1 v) []) = true := by kernel_rfl
theorem Vk (v : Int) : Dt 102 (Bl 2000 (Du 3 2 v) []) = true := by kernel_rfl
end Go.Proofs.YtkoplblbeapfgaaGreatDoor
