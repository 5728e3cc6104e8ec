/-
Parts of the walk of TopEnds. Conditions stand in each statement.
-/
import Derived.Test.YtkoplblbeapfgaaGreatDoorX04
namespace Go.Proofs.YtkoplblbeapfgaaGreatDoor
open Go.RowKit
open Tryz
set_option linter.all false
set_option maxRecDepth 100000
set_option maxHeartbeats 8000000
def Cy : TxI := ⟨[⟨3, 3, 5, false⟩, ⟨1, 3, 0, false⟩], false⟩
def Cx : TxI := ⟨[⟨2, 2, 9, false⟩, ⟨4, 3, 1, false⟩], false⟩
def Ga : Mach := Om (BE [Cy]) (BE [Cx]) Ln.zero
def CE (e : Ev) : Bool := e.kind == 8 || e.kind == 11 || (e.kind == 4 && e.line == 0 && e.word == 0 && e.val == 0)
def Dr (e : Ev) : List Int := [e.kind, e.core, e.line, e.word, e.val]
def LF : List (List Int) := [[4, 0, 0, 0, 0], [8, 0, 0, 0, 5], [8, 0, 0, 0, 5], [8, 0, 0, 0, 101], [4, 1, 0, 0, 0], [8, 1, 0, 0, 0], [8, 1, 0, 0, 101]]
def LQ : Option (Mach × List Ev) → Bool
 | none => false
 | some r => r.1.quiet && r.1.s.wq.isEmpty && KP r.1.s.words ⟨0, 0, 9, 5, 0, 0, 0, 0⟩ && r.2.length == 90 && (r.2.reverse.filter CE).map Dr == LF
theorem RA : LQ (Bl 600 Ga []) = true := by kernel_rfl
theorem SY : ∃ m' evs, Co 600 Ga [] = some (m', evs) ∧ m'.quiet = true ∧ m'.s.wq = [] ∧ KP m'.s.words ⟨0, 0, 9, 5, 0, 0, 0, 0⟩ = true ∧ evs.length = 90 ∧ (evs.filter CE).map Dr = LF := by
 have h := RA
 have e := Gd 600 Ga []
 rw [List.reverse_nil] at e
 rw [e] at h
 cases hs : Co 600 Ga [] with
 | none => simp [hs, LQ] at h
 | some r =>
   simp only [hs, Option.map_some, LQ, List.reverse_reverse, List.length_reverse, Bool.and_eq_true, beq_iff_eq, List.isEmpty_iff] at h
   exact ⟨r.1, r.2, rfl, h.1.1.1.1, h.1.1.1.2, h.1.1.2, h.1.2, h.2⟩
theorem Vu (v : Int) : Dt 104 (Bl 2000 (Du 0 0 v) []) = true := by kernel_rfl
theorem Vt (v : Int) : Dt 103 (Bl 2000 (Du 0 1 v) []) = true := by kernel_rfl
theorem Vs (v : Int) : Dt 102 (Bl 2000 (Du 0 2 v) []) = true := by kernel_rfl
theorem Vr (v : Int) : Dt 104 (Bl 2000 (Du 1 0 v) []) = true := by kernel_rfl
theorem Vq (v : Int) : Dt 103 (Bl 2000 (Du 1 1 v) []) = true := by kernel_rfl
theorem UO (v : Int) : Dt 102 (Bl 2000 (Du 1 2 v) []) = true := by kernel_rfl
end Go.Proofs.YtkoplblbeapfgaaGreatDoor
