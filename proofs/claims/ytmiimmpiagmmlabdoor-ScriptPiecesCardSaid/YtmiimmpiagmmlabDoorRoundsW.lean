/-
  The walk of the law ScriptRounds: it returns true for any configuration. Condition: the table has as laid.
-/
import Derived.Test.YtmiimmpiagmmlabDoorWakes
import Derived.Test.YtmiimmpiagmmlabDoorRefRound
import Derived.Deep.RegionHeld3
import Derived.Deep.RegionWith
namespace Go.Proofs.YtmiimmpiagmmlabDoor
open Go.RowKit
set_option linter.unusedVariables false
theorem blk_keep {W W' : World} {b : Nat} {o : Obj} (h : W.heap[b]? = some o) (hb : Below W.heap.size W W') : W'.heap[b]? = some o := by
  have hlt : b < W.heap.size := by
    rcases Nat.lt_or_ge b W.heap.size with h' | h'
    · exact h'
    · rw [Array.getElem?_eq_none h'] at h; cases h
  rw [hb.block b hlt]; exact h
theorem cells7 {W : World} {b : Nat} {a0 a1 a2 a3 a4 a5 a6 : Value} {t : TypeId} (h : W.heap[b]? = some (.cells #[a0, a1, a2, a3, a4, a5, a6] t)) :
    W.cell? ⟨b, 0, none⟩ = some a0 ∧ W.cell? ⟨b, 1, none⟩ = some a1 ∧ W.cell? ⟨b, 2, none⟩ = some a2 ∧ W.cell? ⟨b, 3, none⟩ = some a3 ∧ W.cell? ⟨b, 4, none⟩ = some a4 ∧ W.cell? ⟨b, 5, none⟩ = some a5 ∧ W.cell? ⟨b, 6, none⟩ = some a6 := by
  refine ⟨?_, ?_, ?_, ?_, ?_, ?_, ?_⟩ <;> (rw [cell_of_row W b _ _ _ _ h]; rfl)
theorem roundL_le (n m : Int) : (roundL n m).length ≤ 1000000 := by
  unfold roundL
  split
  · rename_i h
    rw [List.length_append, roundC_length, roundN_length]
    omega
  · simp
set_option maxHeartbeats 2000000 in
theorem scriptRounds_walk (n m a b c d f : Int) (w : World) (ht : Tab w) :
    Calls Tryd.prog 4 #[.agg #[.int .i64 n, .int .i64 m, .int .i64 a, .int .i64 b, .int .i64 c, .int .i64 d, .int .i64 f]] w fun e w' => e = .returned (.bool true) ∧ Below w.heap.size w w' := by
  have hpos := ht.pos
  have hL := roundL_le n m
  go_enter Tryd.func4, Tryd.ntmps4
  go_wp2_with fail
  generalize hW : w.alloc (.cells #[.int .i64 n, .int .i64 m, .int .i64 a, .int .i64 b, .int .i64 c, .int .i64 d, .int .i64 f] 36) = W
  have hk0 : W.heap[w.heap.size]? = some (.cells #[.int .i64 n, .int .i64 m, .int .i64 a, .int .i64 b, .int .i64 c, .int .i64 d, .int .i64 f] 36) := by rw [← hW]; exact heap_alloc_new w _
  have b0 : Below w.heap.size w W := by rw [← hW]; exact (Below.refl _ _).alloc (Nat.le_refl _) _
  have ht0 := ht.below b0 hpos
  have hc := cells7 hk0
  have HK0 := Lib.hid hk0
  clear hk0 hW
  go_region_held3 (fun w' => w'.cell? ⟨w.heap.size, 0, none⟩ = some (.int .i64 n) ∧ w'.cell? ⟨w.heap.size, 1, none⟩ = some (.int .i64 m) ∧ w'.cell? ⟨w.heap.size, 2, none⟩ = some (.int .i64 a) ∧ w'.cell? ⟨w.heap.size, 3, none⟩ = some (.int .i64 b) ∧ w'.cell? ⟨w.heap.size, 4, none⟩ = some (.int .i64 c) ∧ w'.cell? ⟨w.heap.size, 5, none⟩ = some (.int .i64 d) ∧ w'.cell? ⟨w.heap.size, 6, none⟩ = some (.int .i64 f)) (first | go_keep | exact cells7 hk1 | exact cells7 hk2 | exact cells7 hk3 | exact cells7 hk4)
    (first
      | (go_at_call 15; refine (round_any _ _ _ _ _ _ _ _).mono ?_; rintro e w1 ⟨v1, rfl, hown1, hb1⟩; have hk1 := blk_keep (show W.drew.heap[w.heap.size]? = _ from HK0.out) hb1; have c1 : Below w.heap.size w w1 := b0.drew.trans (hb1.mono b0.size))
      | (go_at_call 16; refine (refround_any _ _ _ _ _ _ _ _).mono ?_; rintro e w2 ⟨v2, rfl, hown2, hb2⟩; have hk2 := blk_keep hk1 hb2; have c2 := c1.trans (hb2.mono c1.size))
      | (go_at_call 12; refine (acts_same _ _ _ _ hL ((Rd_of_own hown1).below hb2) (Rd_of_own hown2)).mono ?_; rintro e w3 ⟨rfl, hb3⟩; have hk3 := blk_keep hk2 hb3; have c3 := c2.trans (hb3.mono c2.size))
      | (go_at_call 7; refine (wakes_any _ (ht.below c3 hpos)).mono ?_; rintro e w4 ⟨rfl, hb4⟩; have hk4 := blk_keep hk3 hb4; have c4 := c3.trans (hb4.mono c3.size)))
  go_wp2_with fail
  go_ret
  exact ⟨rfl, c4⟩
end Go.Proofs.YtmiimmpiagmmlabDoor
