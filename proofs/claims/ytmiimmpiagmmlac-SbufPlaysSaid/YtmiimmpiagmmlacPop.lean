/-
  Pop: what it returns and what the buffer holds then. Conditions stand in each statement.
-/
import Derived.Test.YtmiimmpiagmmlacBuf
import Derived.Deep.RegionHeld3
import Derived.Deep.RegionWith
namespace Go.Proofs.Ytmiimmpiagmmlac
open Go.RowKit
set_option linter.unusedVariables false
set_option linter.unusedSimpArgs false
/-- The five cells of a block. -/
theorem cells5 {w : World} {b : Nat} {v0 v1 v2 v3 v4 : Value} {t : TypeId} (h : w.heap[b]? = some (.cells #[v0, v1, v2, v3, v4] t)) :
    (w.cell? ⟨b, 0, none⟩ = some v0 ∧ w.cell? ⟨b, 1, none⟩ = some v1 ∧ w.cell? ⟨b, 2, none⟩ = some v2 ∧ w.cell? ⟨b, 3, none⟩ = some v3 ∧ w.cell? ⟨b, 4, none⟩ = some v4) ∧
    (w.frozen? ⟨b, 0, none⟩ = false ∧ w.frozen? ⟨b, 1, none⟩ = false ∧ w.frozen? ⟨b, 2, none⟩ = false ∧ w.frozen? ⟨b, 3, none⟩ = false ∧ w.frozen? ⟨b, 4, none⟩ = false) := by
  simp [World.cell?, World.frozen?, h]
/-- Five cells written, and a block made behind them: what is read then. -/
theorem put5 {w : World} {b : Nat} {u0 u1 u2 u3 u4 : Value} (c0 : w.cell? ⟨b, 0, none⟩ = some u0) (c1 : w.cell? ⟨b, 1, none⟩ = some u1) (c2 : w.cell? ⟨b, 2, none⟩ = some u2) (c3 : w.cell? ⟨b, 3, none⟩ = some u3) (c4 : w.cell? ⟨b, 4, none⟩ = some u4) (v0 v1 v2 v3 v4 : Value) (o : Obj) :
    ((((((w.setCell ⟨b, 0, none⟩ v0).setCell ⟨b, 1, none⟩ v1).setCell ⟨b, 2, none⟩ v2).setCell ⟨b, 3, none⟩ v3).setCell ⟨b, 4, none⟩ v4).alloc o).cell? ⟨b, 0, none⟩ = some v0 ∧
    ((((((w.setCell ⟨b, 0, none⟩ v0).setCell ⟨b, 1, none⟩ v1).setCell ⟨b, 2, none⟩ v2).setCell ⟨b, 3, none⟩ v3).setCell ⟨b, 4, none⟩ v4).alloc o).cell? ⟨b, 1, none⟩ = some v1 ∧
    ((((((w.setCell ⟨b, 0, none⟩ v0).setCell ⟨b, 1, none⟩ v1).setCell ⟨b, 2, none⟩ v2).setCell ⟨b, 3, none⟩ v3).setCell ⟨b, 4, none⟩ v4).alloc o).cell? ⟨b, 2, none⟩ = some v2 ∧
    ((((((w.setCell ⟨b, 0, none⟩ v0).setCell ⟨b, 1, none⟩ v1).setCell ⟨b, 2, none⟩ v2).setCell ⟨b, 3, none⟩ v3).setCell ⟨b, 4, none⟩ v4).alloc o).cell? ⟨b, 3, none⟩ = some v3 ∧
    ((((((w.setCell ⟨b, 0, none⟩ v0).setCell ⟨b, 1, none⟩ v1).setCell ⟨b, 2, none⟩ v2).setCell ⟨b, 3, none⟩ v3).setCell ⟨b, 4, none⟩ v4).alloc o).cell? ⟨b, 4, none⟩ = some v4 := by
  have hb : b < w.heap.size := World.block_lt_of_cell? (w := w) (a := ⟨b, 0, none⟩) c0
  have d1 : (w.setCell ⟨b, 0, none⟩ v0).cell? ⟨b, 1, none⟩ = some u1 := by rw [World.cell?_setCell_other _ _ _ _ (by simp)]; exact c1
  have d2 : ((w.setCell ⟨b, 0, none⟩ v0).setCell ⟨b, 1, none⟩ v1).cell? ⟨b, 2, none⟩ = some u2 := by rw [World.cell?_setCell_other _ _ _ _ (by simp), World.cell?_setCell_other _ _ _ _ (by simp)]; exact c2
  have d3 : (((w.setCell ⟨b, 0, none⟩ v0).setCell ⟨b, 1, none⟩ v1).setCell ⟨b, 2, none⟩ v2).cell? ⟨b, 3, none⟩ = some u3 := by rw [World.cell?_setCell_other _ _ _ _ (by simp), World.cell?_setCell_other _ _ _ _ (by simp), World.cell?_setCell_other _ _ _ _ (by simp)]; exact c3
  have d4 : ((((w.setCell ⟨b, 0, none⟩ v0).setCell ⟨b, 1, none⟩ v1).setCell ⟨b, 2, none⟩ v2).setCell ⟨b, 3, none⟩ v3).cell? ⟨b, 4, none⟩ = some u4 := by rw [World.cell?_setCell_other _ _ _ _ (by simp), World.cell?_setCell_other _ _ _ _ (by simp), World.cell?_setCell_other _ _ _ _ (by simp), World.cell?_setCell_other _ _ _ _ (by simp)]; exact c4
  have hal : ∀ (W : World) (n : Nat), W.heap.size = w.heap.size → (W.alloc o).cell? ⟨b, n, none⟩ = W.cell? ⟨b, n, none⟩ := fun W n hW => World.cell?_of_block (w := W) (Below.heap_alloc W o b (by rw [hW]; exact hb))
  have hsz : (((((w.setCell ⟨b, 0, none⟩ v0).setCell ⟨b, 1, none⟩ v1).setCell ⟨b, 2, none⟩ v2).setCell ⟨b, 3, none⟩ v3).setCell ⟨b, 4, none⟩ v4).heap.size = w.heap.size := by simp [World.setCell]
  refine ⟨?_, ?_, ?_, ?_, ?_⟩ <;> rw [hal _ _ hsz, cell_put _ _ _ _ _ d4, cell_put _ _ _ _ _ d3, cell_put _ _ _ _ _ d2, cell_put _ _ _ _ _ d1, cell_put _ _ _ _ _ c0] <;> simp
/-- Five cells written: what is read then. -/
theorem put5n {w : World} {b : Nat} {u0 u1 u2 u3 u4 : Value} (c0 : w.cell? ⟨b, 0, none⟩ = some u0) (c1 : w.cell? ⟨b, 1, none⟩ = some u1) (c2 : w.cell? ⟨b, 2, none⟩ = some u2) (c3 : w.cell? ⟨b, 3, none⟩ = some u3) (c4 : w.cell? ⟨b, 4, none⟩ = some u4) (v0 v1 v2 v3 v4 : Value) :
    (((((w.setCell ⟨b, 0, none⟩ v0).setCell ⟨b, 1, none⟩ v1).setCell ⟨b, 2, none⟩ v2).setCell ⟨b, 3, none⟩ v3).setCell ⟨b, 4, none⟩ v4).cell? ⟨b, 0, none⟩ = some v0 ∧
    (((((w.setCell ⟨b, 0, none⟩ v0).setCell ⟨b, 1, none⟩ v1).setCell ⟨b, 2, none⟩ v2).setCell ⟨b, 3, none⟩ v3).setCell ⟨b, 4, none⟩ v4).cell? ⟨b, 1, none⟩ = some v1 ∧
    (((((w.setCell ⟨b, 0, none⟩ v0).setCell ⟨b, 1, none⟩ v1).setCell ⟨b, 2, none⟩ v2).setCell ⟨b, 3, none⟩ v3).setCell ⟨b, 4, none⟩ v4).cell? ⟨b, 2, none⟩ = some v2 ∧
    (((((w.setCell ⟨b, 0, none⟩ v0).setCell ⟨b, 1, none⟩ v1).setCell ⟨b, 2, none⟩ v2).setCell ⟨b, 3, none⟩ v3).setCell ⟨b, 4, none⟩ v4).cell? ⟨b, 3, none⟩ = some v3 ∧
    (((((w.setCell ⟨b, 0, none⟩ v0).setCell ⟨b, 1, none⟩ v1).setCell ⟨b, 2, none⟩ v2).setCell ⟨b, 3, none⟩ v3).setCell ⟨b, 4, none⟩ v4).cell? ⟨b, 4, none⟩ = some v4 := by
  have hb : b < w.heap.size := World.block_lt_of_cell? (w := w) (a := ⟨b, 0, none⟩) c0
  have d1 : (w.setCell ⟨b, 0, none⟩ v0).cell? ⟨b, 1, none⟩ = some u1 := by rw [World.cell?_setCell_other _ _ _ _ (by simp)]; exact c1
  have d2 : ((w.setCell ⟨b, 0, none⟩ v0).setCell ⟨b, 1, none⟩ v1).cell? ⟨b, 2, none⟩ = some u2 := by rw [World.cell?_setCell_other _ _ _ _ (by simp), World.cell?_setCell_other _ _ _ _ (by simp)]; exact c2
  have d3 : (((w.setCell ⟨b, 0, none⟩ v0).setCell ⟨b, 1, none⟩ v1).setCell ⟨b, 2, none⟩ v2).cell? ⟨b, 3, none⟩ = some u3 := by rw [World.cell?_setCell_other _ _ _ _ (by simp), World.cell?_setCell_other _ _ _ _ (by simp), World.cell?_setCell_other _ _ _ _ (by simp)]; exact c3
  have d4 : ((((w.setCell ⟨b, 0, none⟩ v0).setCell ⟨b, 1, none⟩ v1).setCell ⟨b, 2, none⟩ v2).setCell ⟨b, 3, none⟩ v3).cell? ⟨b, 4, none⟩ = some u4 := by rw [World.cell?_setCell_other _ _ _ _ (by simp), World.cell?_setCell_other _ _ _ _ (by simp), World.cell?_setCell_other _ _ _ _ (by simp), World.cell?_setCell_other _ _ _ _ (by simp)]; exact c4
  refine ⟨?_, ?_, ?_, ?_, ?_⟩ <;> rw [cell_put _ _ _ _ _ d4, cell_put _ _ _ _ _ d3, cell_put _ _ _ _ _ d2, cell_put _ _ _ _ _ d1, cell_put _ _ _ _ _ c0] <;> simp
/-- Five cells of a block written. -/
def set5 (w : World) (b : Nat) (v0 v1 v2 v3 v4 : Value) : World := ((((w.setCell ⟨b, 0, none⟩ v0).setCell ⟨b, 1, none⟩ v1).setCell ⟨b, 2, none⟩ v2).setCell ⟨b, 3, none⟩ v3).setCell ⟨b, 4, none⟩ v4
theorem set5_block (w : World) (b : Nat) (v0 v1 v2 v3 v4 : Value) (g : Nat) (h : g ≠ b) : (set5 w b v0 v1 v2 v3 v4).heap[g]? = w.heap[g]? := by
  unfold set5
  rw [Below.heap_setCell _ _ _ _ h, Below.heap_setCell _ _ _ _ h, Below.heap_setCell _ _ _ _ h, Below.heap_setCell _ _ _ _ h, Below.heap_setCell _ _ _ _ h]
theorem only_of_below {a w : World} (h : Below a.heap.size a w) (row : Option Nat) : a.grownBy w row := ⟨h.os, h.tape, h.output, h.size, fun i hi _ => h.block i hi⟩
theorem only_new {a w : World} {row : Option Nat} (h : a.grownBy w row) {p : Addr} (hp : a.heap.size ≤ p.block) (u : Value) : a.grownBy (w.setCell p u) row :=
  ⟨h.os, h.tape, h.output, by simpa [World.setCell] using h.size, fun i hi hne => (Below.heap_setCell w p u i (by omega)).trans (h.block i hi hne)⟩
theorem only_set5 {a w : World} {row : Option Nat} (h : a.grownBy w row) {b : Nat} (hp : a.heap.size ≤ b) (v0 v1 v2 v3 v4 : Value) : a.grownBy (set5 w b v0 v1 v2 v3 v4) row :=
  only_new (only_new (only_new (only_new (only_new h (p := ⟨b, 0, none⟩) hp _) (p := ⟨b, 1, none⟩) hp _) (p := ⟨b, 2, none⟩) hp _) (p := ⟨b, 3, none⟩) hp _) (p := ⟨b, 4, none⟩) hp _
set_option maxHeartbeats 1000000 in
theorem pop_none (w : World) : Calls Try.prog 11 #[.pointer none] w fun e w' => e = .returned (.tuple #[Ent.zero.v, .bool false]) ∧ Below w.heap.size w w' := by
  generalize hW : w.alloc (.cells #[.int .i64 0, .int .i64 0, .int .i64 0, .int .u64 0, .bool false] 31) = W0
  have hb0 : Below w.heap.size w W0 := by rw [← hW]; exact (Below.refl _ _).alloc (Nat.le_refl _) _
  have hlt : w.heap.size < W0.heap.size := by rw [← hW]; simp
  have hcl : W0.heap[w.heap.size]? = some (.cells #[.int .i64 0, .int .i64 0, .int .i64 0, .int .u64 0, .bool false] 31) := by rw [← hW]; exact heap_alloc_new w _
  subst hW
  go_enter Try.func11, Try.ntmps11
  go_wp2_with fail
  refine (head_none _).mono ?_
  rintro r w1 ⟨rfl, hb1⟩
  obtain ⟨⟨c0, c1, c2, c3, c4⟩, f0, f1, f2, f3, f4⟩ := cells5 ((hb1.block w.heap.size hlt).trans hcl)
  have hlt1 := Nat.lt_of_lt_of_le hlt hb1.size
  have hbw := hb0.trans (hb1.mono (Nat.le_of_lt hlt))
  clear hcl hb0 hb1 hlt
  obtain ⟨q0, q1, q2, q3, q4⟩ := put5 c0 c1 c2 c3 c4 (.int .i64 0) (.int .i64 0) (.int .i64 0) (.int .u64 0) (.bool false) (.cells #[.int .i64 0, .int .i64 0, .int .i64 0, .int .u64 0, .bool false] 31)
  unfold Ent.v Ent.zero
  go_wp2_with fail
  refine bodyPost_ret (v := .tuple #[Ent.zero.v, .bool false]) (by simp [results, Try.results11, go_sem, Ent.v, Ent.zero, q0, q1, q2, q3, q4]) rfl ⟨rfl, ?_⟩
  have k0 := hbw.setCell (p := ⟨w.heap.size, 0, none⟩) (Nat.le_refl _) (.int .i64 0)
  have k1 := k0.setCell (p := ⟨w.heap.size, 1, none⟩) (Nat.le_refl _) (.int .i64 0)
  have k2 := k1.setCell (p := ⟨w.heap.size, 2, none⟩) (Nat.le_refl _) (.int .i64 0)
  have k3 := k2.setCell (p := ⟨w.heap.size, 3, none⟩) (Nat.le_refl _) (.int .u64 0)
  have k4 := k3.setCell (p := ⟨w.heap.size, 4, none⟩) (Nat.le_refl _) (.bool false)
  exact k4.alloc (by simpa using Nat.le_of_lt hlt1) _
set_option maxHeartbeats 1000000 in
theorem pop_nil (g room : Nat) (w : World) (h : SQ w g room []) : Calls Try.prog 11 #[.pointer (some ⟨g, 0, none⟩)] w fun e w' => e = .returned (.tuple #[Ent.zero.v, .bool false]) ∧ Below w.heap.size w w' := by
  generalize hW : w.alloc (.cells #[.int .i64 0, .int .i64 0, .int .i64 0, .int .u64 0, .bool false] 31) = W0
  have hb0 : Below w.heap.size w W0 := by rw [← hW]; exact (Below.refl _ _).alloc (Nat.le_refl _) _
  have hlt : w.heap.size < W0.heap.size := by rw [← hW]; simp
  have hcl : W0.heap[w.heap.size]? = some (.cells #[.int .i64 0, .int .i64 0, .int .i64 0, .int .u64 0, .bool false] 31) := by rw [← hW]; exact heap_alloc_new w _
  have h0 := h.below hb0
  clear h
  subst hW
  go_enter Try.func11, Try.ntmps11
  go_wp2_with fail
  refine (head_nil _ _ _ h0).mono ?_
  rintro r w1 ⟨rfl, hb1⟩
  obtain ⟨⟨c0, c1, c2, c3, c4⟩, f0, f1, f2, f3, f4⟩ := cells5 ((hb1.block w.heap.size hlt).trans hcl)
  have hlt1 := Nat.lt_of_lt_of_le hlt hb1.size
  have hbw := hb0.trans (hb1.mono (Nat.le_of_lt hlt))
  clear hcl hb0 hb1 hlt h0
  obtain ⟨q0, q1, q2, q3, q4⟩ := put5 c0 c1 c2 c3 c4 (.int .i64 0) (.int .i64 0) (.int .i64 0) (.int .u64 0) (.bool false) (.cells #[.int .i64 0, .int .i64 0, .int .i64 0, .int .u64 0, .bool false] 31)
  unfold Ent.v Ent.zero
  go_wp2_with fail
  refine bodyPost_ret (v := .tuple #[Ent.zero.v, .bool false]) (by simp [results, Try.results11, go_sem, Ent.v, Ent.zero, q0, q1, q2, q3, q4]) rfl ⟨rfl, ?_⟩
  have k0 := hbw.setCell (p := ⟨w.heap.size, 0, none⟩) (Nat.le_refl _) (.int .i64 0)
  have k1 := k0.setCell (p := ⟨w.heap.size, 1, none⟩) (Nat.le_refl _) (.int .i64 0)
  have k2 := k1.setCell (p := ⟨w.heap.size, 2, none⟩) (Nat.le_refl _) (.int .i64 0)
  have k3 := k2.setCell (p := ⟨w.heap.size, 3, none⟩) (Nat.le_refl _) (.int .u64 0)
  have k4 := k3.setCell (p := ⟨w.heap.size, 4, none⟩) (Nat.le_refl _) (.bool false)
  exact k4.alloc (by simpa using Nat.le_of_lt hlt1) _
set_option maxHeartbeats 1000000 in
theorem pop_cons (g room : Nat) (e : Ent) (L : List Ent) (w : World) (h : SQ w g room (e :: L)) : Calls Try.prog 11 #[.pointer (some ⟨g, 0, none⟩)] w fun r w' => r = .returned (.tuple #[e.v, .bool true]) ∧ SQ w' g room L ∧ w.grownBy w' (some g) := by
  generalize hW : w.alloc (.cells #[.int .i64 0, .int .i64 0, .int .i64 0, .int .u64 0, .bool false] 31) = W0
  have hb0 : Below w.heap.size w W0 := by rw [← hW]; exact (Below.refl _ _).alloc (Nat.le_refl _) _
  have hlt : w.heap.size < W0.heap.size := by rw [← hW]; simp
  have hcl : W0.heap[w.heap.size]? = some (.cells #[.int .i64 0, .int .i64 0, .int .i64 0, .int .u64 0, .bool false] 31) := by rw [← hW]; exact heap_alloc_new w _
  have h0 := h.below hb0
  have hgl := h.lt
  clear h
  subst hW
  go_enter Try.func11, Try.ntmps11
  go_wp2_with fail
  refine (head_cons _ _ _ _ _ h0).mono ?_
  rintro r w1 ⟨rfl, hb1⟩
  obtain ⟨⟨c0, c1, c2, c3, c4⟩, f0, f1, f2, f3, f4⟩ := cells5 ((hb1.block w.heap.size hlt).trans hcl)
  have hlt1 := Nat.lt_of_lt_of_le hlt hb1.size
  have hbw := hb0.trans (hb1.mono (Nat.le_of_lt hlt))
  have h1 := h0.below hb1
  clear hcl hb0 hb1 hlt h0
  generalize hb2 : w1.heap.size = b2 at *
  generalize hW : w1.alloc (.cells #[.int .i64 e.kind, .int .i64 e.line, .int .i64 e.word, .int .u64 e.val, .bool e.sent] 31) = w2
  have hb12 : Below w1.heap.size w1 w2 := by rw [← hW]; exact (Below.refl _ _).alloc (Nat.le_refl _) _
  have hcl2 : w2.heap[b2]? = some (.cells #[.int .i64 e.kind, .int .i64 e.line, .int .i64 e.word, .int .u64 e.val, .bool e.sent] 31) := by rw [← hW, ← hb2]; exact heap_alloc_new w1 _
  have hl2 : b2 < w2.heap.size := by rw [← hW, ← hb2]; simp
  obtain ⟨es, first, hB, hf, hr, hl, hel⟩ := h1.below hb12
  have hbw2 := hbw.trans (hb12.mono (by omega))
  have hsame := fun o => hb12.cell (p := ⟨w.heap.size, o, none⟩) (by simpa [hb2] using hlt1)
  have hfrz := fun o => hb12.frozen (p := ⟨w.heap.size, o, none⟩) (by simpa [hb2] using hlt1)
  rw [← hsame] at c0 c1 c2 c3 c4
  rw [← hfrz] at f0 f1 f2 f3 f4
  clear hsame hfrz hb12 h1
  rw [show (e :: L).length = L.length + 1 from rfl] at hB hl
  have hN := hB.n
  have hnn : ((L.length + 1 : Nat) : Int) ≤ 16 := by omega
  generalize hlen : L.length + 1 = N at *
  have hfst := hB.first
  have k0 := hB.kind first hf
  have k1 := hB.line first hf
  have k2 := hB.word first hf
  have k3 := hB.val first hf
  have k4 := hB.sent first hf
  have hz := hB.free
  have hfi0 : (0 : Int) ≤ (first : Int) := by omega
  have hfi1 : (first : Int) < 16 := by omega
  have hg2 : g < w2.heap.size := hB.lt
  unfold Ent.v
  go_wp2_with fail
  clear hW
  go_region
  go_wp2_with fail
  have hB3 := (hB.setE first hf Ent.zero).drew
  have hcl3 : (setE w2 g first Ent.zero).drew.heap[b2]? = some (.cells #[.int .i64 e.kind, .int .i64 e.line, .int .i64 e.word, .int .u64 e.val, .bool e.sent] 31) := by
    rw [← hcl2]; exact ((only_drew (only_setE (only_refl w2 (some g)) first Ent.zero)).block b2 hl2 (by intro h; have := Option.some.inj h; omega))
  have ho3 := only_drew (only_setE (only_refl w2 (some g)) first Ent.zero)
  have hl3 : b2 < (setE w2 g first Ent.zero).drew.heap.size := Nat.lt_of_lt_of_le hl2 ho3.size
  have hs3 : ∀ o, (setE w2 g first Ent.zero).drew.cell? ⟨w.heap.size, o, none⟩ = w2.cell? ⟨w.heap.size, o, none⟩ := fun o => World.cell?_of_block (w := w2) (ho3.block _ (Nat.lt_trans hlt1 hl2) (by intro h; have := Option.some.inj h; simp at this; omega))
  have hf3 : ∀ o, (setE w2 g first Ent.zero).drew.frozen? ⟨w.heap.size, o, none⟩ = w2.frozen? ⟨w.heap.size, o, none⟩ := fun o => World.frozen?_of_block (w := w2) (ho3.block _ (Nat.lt_trans hlt1 hl2) (by intro h; have := Option.some.inj h; simp at this; omega))
  rw [← hs3] at c0 c1 c2 c3 c4
  rw [← hf3] at f0 f1 f2 f3 f4
  clear hs3 hf3 k0 k1 k2 k3 k4 hN hfst hB hcl2 hz
  change Code.wp _ _ _ _ ((setE w2 g first Ent.zero).drew)
  generalize (setE w2 g first Ent.zero).drew = w3 at *
  have hN := hB3.n
  have hfst := hB3.first
  have hz81 := hB3.free 81
  have hz82 := hB3.free 82
  have hA : ∀ w', Buf w' g (putE es first Ent.zero) room first N → Calls Try.prog 26 #[.pointer (some ⟨g, 0, none⟩), .int .i64 1] w' fun e w'' => e = .returned (.int .i64 (((first + 1) % 16 : Nat) : Int)) ∧ w' = w'' := fun w' h => at_some g _ room first N 1 hf (by omega) w' h
  obtain ⟨⟨d0, d1, d2, d3, d4⟩, _⟩ := cells5 hcl3
  have hg1 : g ≠ b2 := by omega
  have hg3 : b2 ≠ g := by omega
  have hg4 : g ≠ w.heap.size := by omega
  have hg5 : w.heap.size ≠ g := by omega
  have hg6 : b2 ≠ w.heap.size := by omega
  have hg7 : w.heap.size ≠ b2 := by omega
  have hn1 : (1 : Int) ≤ (N : Int) := by omega
  have hB4 := (hB3.setFirst ((first + 1) % 16)).setN L.length
  have ho4 := (only_setCell (g := g) (p := ⟨g, 82, none⟩) (only_setCell (g := g) (p := ⟨g, 81, none⟩) (only_refl w3 (some g)) rfl (.int .i64 (((first + 1) % 16 : Nat) : Int))) rfl (.int .i64 (L.length : Int)))
  have e1 : (((first + 1) % 16 : Nat) : Int) = ((first : Int) + 1) % 16 := by simp
  have e2 : (L.length : Int) = (N : Int) - 1 := by omega
  rw [e1, e2] at hB4 ho4
  go_region_with (go_at_call 26; refine (hA _ hB3.drew).mono ?_; rintro r w4 ⟨rfl, rfl⟩)
  all_goals go_wp2_with fail
  all_goals
    refine bodyPost_ret (v := .tuple #[e.v, .bool true]) (by
      obtain ⟨q0, q1, q2, q3, q4⟩ := put5n (w := ((w3.setCell ⟨g, 81, none⟩ (.int .i64 (((first : Int) + 1) % 16))).setCell ⟨g, 82, none⟩ (.int .i64 ((N : Int) - 1)))) (b := w.heap.size)
        (by rw [World.cell?_setCell_other _ _ _ _ (by simp [hg4]), World.cell?_setCell_other _ _ _ _ (by simp [hg4])]; exact c0) (by rw [World.cell?_setCell_other _ _ _ _ (by simp [hg4]), World.cell?_setCell_other _ _ _ _ (by simp [hg4])]; exact c1)
        (by rw [World.cell?_setCell_other _ _ _ _ (by simp [hg4]), World.cell?_setCell_other _ _ _ _ (by simp [hg4])]; exact c2) (by rw [World.cell?_setCell_other _ _ _ _ (by simp [hg4]), World.cell?_setCell_other _ _ _ _ (by simp [hg4])]; exact c3)
        (by rw [World.cell?_setCell_other _ _ _ _ (by simp [hg4]), World.cell?_setCell_other _ _ _ _ (by simp [hg4])]; exact c4) (.int .i64 e.kind) (.int .i64 e.line) (.int .i64 e.word) (.int .u64 e.val) (.bool e.sent)
      simp [results, Try.results11, go_sem, Ent.v, q0, q1, q2, q3, q4]) rfl ⟨rfl, ?_, ?_⟩
    · refine ⟨putE es first Ent.zero, (first + 1) % 16, (hB4.block (w' := set5 _ w.heap.size (.int .i64 e.kind) (.int .i64 e.line) (.int .i64 e.word) (.int .u64 e.val) (.bool e.sent)) (set5_block _ _ _ _ _ _ _ g hg4)).drew, Nat.mod_lt _ (by omega), hr, by omega, fun i x hx => ?_⟩
      have hx' := hel (i + 1) x (by simpa using hx)
      have hil : i < L.length := by rcases Nat.lt_or_ge i L.length with h | h; exact h; rw [List.getElem?_eq_none h] at hx; cases hx
      have hq : ((first + 1) % 16 + i) % 16 = (first + (i + 1)) % 16 := by omega
      rw [hq]
      unfold putE
      rw [if_neg (by omega)]
      exact hx'
    · exact only_drew (only_set5 (only_trans (only_trans (only_of_below hbw2 (some g)) ho3) ho4) (Nat.le_refl _) _ _ _ _ _)
end Go.Proofs.Ytmiimmpiagmmlac
