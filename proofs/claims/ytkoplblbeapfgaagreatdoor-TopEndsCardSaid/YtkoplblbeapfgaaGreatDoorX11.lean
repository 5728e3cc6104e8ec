/-
Parts of the walk of TopEnds. Conditions stand in each statement.
-/
import Derived.Test.YtkoplblbeapfgaaGreatDoorX47
import Derived.Test.YtkoplblbeapfgaaGreatDoorX48
import Derived.Test.YtkoplblbeapfgaaGreatDoorX49
namespace Go.Proofs.YtkoplblbeapfgaaGreatDoor
open Go.RowKit
open Tryz
set_option linter.all false
set_option maxRecDepth 100000
set_option maxHeartbeats 8000000
theorem Kz (e : Ent) (who : Int) (m : Msg) (e2 : Ent) (out : List Send) (h : IU e who m = some (e2, out)) (hok : LM e who m = true) (w : World) :
 Y 272 #[.agg e.cells.toArray, I who, .agg m.cells] w fun r w' => ∃ S, r = Z (.tuple #[.agg e2.cells.toArray, S, I 0]) ∧ AH w' 428 13 S out.length (BM out) ∧ (∀ k, S.ownBlock = some k → w.heap.size ≤ k) ∧ Below w w w' := by
 unfold IU at h
 obtain ⟨hg, h⟩ := As h
 simp only [Bool.and_eq_true] at hg
 obtain ⟨⟨⟨⟨⟨hg, hb⟩, hm⟩, _⟩, _⟩, hh⟩ := hg
 have hhere := (Ee hg).1
 simp only [LM, Bool.and_eq_true, Bool.or_eq_true, beq_iff_eq] at hok
 obtain ⟨hw, hk⟩ := hok
 have hwait : (Dj e who m).wait = 0 := by
  have : (Dj e who m).wait = Ca e.wait (Ax who) := by
   unfold Dj JH JI JJ FC
   split <;> split <;> split <;> rfl
  rw [this, hw]
 have hbusy : (Dj e who m).busy = e.busy := by
  unfold Dj JH JI JJ FC
  split <;> split <;> split <;> rfl
 have hwho : (Dj e who m).who = e.who := by
  unfold Dj JH JI JJ FC
  split <;> split <;> split <;> rfl
 simp only [hwait, hbusy, hwho] at h
 obtain ⟨here, dirty, data, owner, share, busy, by_, wait⟩ := e
 obtain ⟨k, l, md, mk, dat⟩ := m
 simp only at hhere hk hw hh h
 subst hhere
 rcases hk with ⟨rfl, rfl⟩ | ⟨⟨⟨rfl, rfl⟩, rfl⟩, rfl⟩
 · have hmk : mk = false := by
    simp [BJ] at hm
    exact hm.2.1
   subst hmk
   simp at h
   by_cases ho : owner = who
   · subst ho
     exact dans_me dirty data share by_ wait owner l md dat hg hb hm hh hw e2 out h w
   · exact dans_none dirty data owner share by_ wait who l md dat ho hg hb hm hh hw e2 out h w
 · simp at h
   exact dans_kept dirty data share by_ wait owner l md dat hg hb hm hh hw e2 out (by rw [Prod.ext_iff]; exact ⟨h.1, h.2.symm⟩) w
end Go.Proofs.YtkoplblbeapfgaaGreatDoor
