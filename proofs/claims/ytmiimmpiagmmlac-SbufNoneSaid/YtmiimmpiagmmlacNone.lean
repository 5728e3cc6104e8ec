/-
  The law SbufNone: what the call returns. Conditions stand in each statement.
-/
import Derived.Test.YtmiimmpiagmmlacWakes
namespace Go.Proofs.Ytmiimmpiagmmlac
open Go.RowKit
set_option linter.unusedVariables false
set_option linter.unusedSimpArgs false
theorem ent_block {w : World} {b : Nat} {e : Ent} {t : TypeId} (h : w.heap[b]? = some (.cells #[.int .i64 e.kind, .int .i64 e.line, .int .i64 e.word, .int .u64 e.val, .bool e.sent] t)) :
    (w.cell? ⟨b, 0, none⟩ = some (.int .i64 e.kind) ∧ w.cell? ⟨b, 1, none⟩ = some (.int .i64 e.line) ∧ w.cell? ⟨b, 2, none⟩ = some (.int .i64 e.word) ∧ w.cell? ⟨b, 3, none⟩ = some (.int .u64 e.val) ∧ w.cell? ⟨b, 4, none⟩ = some (.bool e.sent)) := (cells5 h).1
set_option maxHeartbeats 2000000 in
theorem none_true (e : Ent) (w : World) : Calls Try.prog 6 #[e.v] w fun r w' => r = .returned (.bool true) ∧ Below w.heap.size w w' := by
  generalize hW : w.alloc (.cells #[.int .i64 e.kind, .int .i64 e.line, .int .i64 e.word, .int .u64 e.val, .bool e.sent] 31) = W0
  have hb0 : Below w.heap.size w W0 := by rw [← hW]; exact (Below.refl _ _).alloc (Nat.le_refl _) _
  have hlt : w.heap.size < W0.heap.size := by rw [← hW]; simp
  have hcl : W0.heap[w.heap.size]? = some (.cells #[.int .i64 e.kind, .int .i64 e.line, .int .i64 e.word, .int .u64 e.val, .bool e.sent] 31) := by rw [← hW]; exact heap_alloc_new w _
  subst hW
  have hpn := push_none e
  unfold Ent.v at hpn ⊢
  go_enter Try.func6, Try.ntmps6
  go_wp2_with fail
  refine (send_none _).mono ?_
  rintro r w1 ⟨rfl, hb1⟩
  have hcl1 := (hb1.block _ hlt).trans hcl
  have hlt1 := Nat.lt_of_lt_of_le hlt hb1.size
  have hbw1 := hb0.trans (hb1.mono (Nat.le_of_lt hlt))
  clear hcl hb1 hlt hb0
  go_wp2_with fail
  refine (clear_none _).mono ?_
  rintro r w2 ⟨rfl, rfl⟩
  obtain ⟨c0, c1, c2, c3, c4⟩ := ent_block hcl1
  go_wp2_with fail
  refine (find_none _ _ _).mono ?_
  rintro r w2 ⟨rfl, rfl⟩
  go_wp2_with fail
  refine (head_none _).mono ?_
  rintro r w2 ⟨rfl, hb2⟩
  have hcl2 := (hb2.block _ hlt1).trans hcl1
  have hlt2 := Nat.lt_of_lt_of_le hlt1 hb2.size
  have hbw2 := hbw1.trans (hb2.mono (Nat.le_of_lt hlt1))
  clear hcl1 hb2 hlt1 hbw1 c0 c1 c2 c3 c4
  unfold Ent.v Ent.zero
  have hb3 : Below w2.heap.size w2 (w2.alloc (.cells #[.int .i64 0, .int .i64 0, .int .i64 0, .int .u64 0, .bool false] 31)) := (Below.refl _ _).alloc (Nat.le_refl _) _
  have hcl3 := (hb3.block _ hlt2).trans hcl2
  have hz3 : (w2.alloc (.cells #[.int .i64 0, .int .i64 0, .int .i64 0, .int .u64 0, .bool false] 31)).heap[w2.heap.size]? = some (.cells #[.int .i64 0, .int .i64 0, .int .i64 0, .int .u64 0, .bool false] 31) := heap_alloc_new w2 _
  have hs3 : (w2.alloc (.cells #[.int .i64 0, .int .i64 0, .int .i64 0, .int .u64 0, .bool false] 31)).heap.size = w2.heap.size + 1 := by simp
  have hbw3 := hbw2.trans (hb3.mono (Nat.le_of_lt hlt2))
  have HP := Lib.hid (And.intro hcl3 (And.intro hz3 (And.intro hs3 hbw3)))
  clear hcl2 hb3 hbw2 hcl3 hz3 hs3 hbw3
  go_wp2_with fail
  refine (pop_none _).mono ?_
  rintro r w4 ⟨rfl, hb4⟩
  obtain ⟨hcl3, hz3, hs3, hbw3⟩ := HP.out
  clear HP
  generalize hW3 : w2.alloc (.cells #[.int .i64 0, .int .i64 0, .int .i64 0, .int .u64 0, .bool false] 31) = w3 at *
  generalize hs2 : w2.heap.size = b2 at *
  have hcl4 := (hb4.block _ (by omega)).trans hcl3
  have hz4 := (hb4.block _ (by omega)).trans hz3
  have hs4 : b2 < w4.heap.size := Nat.lt_of_lt_of_le (by omega) hb4.size
  have hbw4 := hbw3.trans (hb4.mono (by omega))
  clear hcl3 hz3 hs3 hbw3 hb4 hW3
  have hb5 : Below w4.heap.size w4 (w4.alloc (.cells #[.int .i64 0, .int .i64 0, .int .i64 0, .int .u64 0, .bool false] 31)) := (Below.refl _ _).alloc (Nat.le_refl _) _
  have hcl5 := (hb5.block _ (by omega)).trans hcl4
  have hz5 := (hb5.block _ hs4).trans hz4
  have hz5' : (w4.alloc (.cells #[.int .i64 0, .int .i64 0, .int .i64 0, .int .u64 0, .bool false] 31)).heap[w4.heap.size]? = some (.cells #[.int .i64 0, .int .i64 0, .int .i64 0, .int .u64 0, .bool false] 31) := heap_alloc_new w4 _
  have hs5 : (w4.alloc (.cells #[.int .i64 0, .int .i64 0, .int .i64 0, .int .u64 0, .bool false] 31)).heap.size = w4.heap.size + 1 := by simp
  have hbw5 := hbw4.trans (hb5.mono (by omega))
  obtain ⟨c0, c1, c2, c3, c4⟩ := (cells5 hcl5).1
  obtain ⟨d0, d1, d2, d3, d4⟩ := (cells5 hz5).1
  obtain ⟨e0, e1, e2, e3, e4⟩ := (cells5 hz5').1
  have HQ := Lib.hid (And.intro hs5 hbw5)
  clear hcl4 hz4 hbw4 hcl5 hz5 hz5' hb5 hs5 hbw5
  unfold Ent.v Ent.zero
  go_wp2_with fail
  refine (hpn _).mono ?_
  rintro r w6 ⟨rfl, hb6⟩
  obtain ⟨hs5, hbw5⟩ := HQ.out
  have hbw6 := hbw5.trans (hb6.mono hbw5.size)
  clear HQ hs5 hbw5 hb6 c0 c1 c2 c3 c4 d0 d1 d2 d3 d4 e0 e1 e2 e3 e4
  go_wp2_with fail
  refine (len_nil _).mono ?_
  rintro r w7 ⟨rfl, rfl⟩
  go_wp2_with fail
  refine (all_none _).mono ?_
  rintro r w7 ⟨rfl, rfl⟩
  go_wp2_with fail
  refine (wakes_true _).mono ?_
  rintro r w7 ⟨rfl, hb7⟩
  go_wp2_with fail
  go_ret
  exact ⟨rfl, hbw6.trans (hb7.mono hbw6.size)⟩
end Go.Proofs.Ytmiimmpiagmmlac
