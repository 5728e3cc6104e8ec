/-
  What a buffer holds, how stores turn it, and Head: what it returns. Conditions stand in each statement.
-/
import Derived.Test.YtmiimmpiagmmlacBase
namespace Go.Proofs.Ytmiimmpiagmmlac
open Go.RowKit
set_option linter.unusedVariables false
theorem region_tail {P : Program} {id : Nat} {Q : Exit → Act → World → Prop} {a : Act} {w : World} {l : List Oper} (n : Nat) (hm : P.follows .mixedOrders = true) (hB : Region.lexTailB .any l.toArray n = true)
    (h : ∀ W : World, W = w.drew → wpStill P l.toArray W (fun a' => wpList P l.toArray Q (l.drop n) a' W) (l.take n) a) : (Code.region id l.toArray true).wp P Q a w :=
  wp_region_still_tail n hm hB (h _ rfl)
/-- The buffer in block g holds the entries L, the first one first. -/
def SQ (w : World) (g room : Nat) (L : List Ent) : Prop :=
  ∃ (es : Nat → Ent) (first : Nat), Buf w g es room first L.length ∧ first < 16 ∧ room ≤ 16 ∧ L.length ≤ room ∧ ∀ i e, L[i]? = some e → es ((first + i) % 16) = e
theorem Buf.keep {w w' : World} {g : Nat} {es : Nat → Ent} {room first n : Nat} (h : Buf w g es room first n) (hc : ∀ o, w'.cell? ⟨g, o, none⟩ = w.cell? ⟨g, o, none⟩) (hf : ∀ o, w'.frozen? ⟨g, o, none⟩ = w.frozen? ⟨g, o, none⟩) : Buf w' g es room first n :=
  ⟨fun i hi => (hc _).trans (h.kind i hi), fun i hi => (hc _).trans (h.line i hi), fun i hi => (hc _).trans (h.word i hi), fun i hi => (hc _).trans (h.val i hi), fun i hi => (hc _).trans (h.sent i hi), (hc _).trans h.room, (hc _).trans h.first, (hc _).trans h.n, fun o => (hf o).trans (h.free o)⟩
theorem Buf.block {w w' : World} {g : Nat} {es : Nat → Ent} {room first n : Nat} (h : Buf w g es room first n) (hb : w'.heap[g]? = w.heap[g]?) : Buf w' g es room first n :=
  h.keep (fun o => World.cell?_of_block (w := w) hb) (fun o => World.frozen?_of_block (w := w) hb)
theorem SQ.lt {w : World} {g room : Nat} {L : List Ent} (h : SQ w g room L) : g < w.heap.size := by obtain ⟨es, first, hb, _⟩ := h; exact hb.lt
theorem SQ.block {w w' : World} {g room : Nat} {L : List Ent} (h : SQ w g room L) (hb : w'.heap[g]? = w.heap[g]?) : SQ w' g room L := by
  obtain ⟨es, first, h1, h2⟩ := h
  exact ⟨es, first, h1.block hb, h2⟩
theorem SQ.below {w w' : World} {g room : Nat} {L : List Ent} (h : SQ w g room L) (hb : Below w.heap.size w w') : SQ w' g room L := h.block (hb.block g h.lt)
set_option maxHeartbeats 1000000 in
theorem head_none (w : World) : Calls Try.prog 19 #[.pointer none] w fun e w' => e = .returned (.tuple #[Ent.zero.v, .bool false]) ∧ Below w.heap.size w w' := by
  go_enter Try.func19, Try.ntmps19
  go_wp2_with fail
  refine (len_nil _).mono ?_
  rintro e w1 ⟨rfl, rfl⟩
  go_wp2_with fail
  exact bodyPost_ret (v := .tuple #[Ent.zero.v, .bool false]) (by simp [results, Try.results19, go_sem, Ent.v, Ent.zero]) rfl ⟨rfl, (Below.refl _ _).alloc (Nat.le_refl _) _⟩
set_option maxHeartbeats 1000000 in
theorem head_nil (g room : Nat) (w : World) (h : SQ w g room []) : Calls Try.prog 19 #[.pointer (some ⟨g, 0, none⟩)] w fun e w' => e = .returned (.tuple #[Ent.zero.v, .bool false]) ∧ Below w.heap.size w w' := by
  have hb0 : Below w.heap.size w (w.alloc (.cells #[.int .i64 0, .int .i64 0, .int .i64 0, .int .u64 0, .bool false] 31)) := (Below.refl _ _).alloc (Nat.le_refl _) _
  obtain ⟨es, first, hb, _⟩ := h.below hb0
  clear h
  go_enter Try.func19, Try.ntmps19
  go_wp2_with fail
  refine (len_some g es room first 0 _ hb).mono ?_
  rintro e w1 ⟨rfl, rfl⟩
  clear hb
  go_wp2_with fail
  exact bodyPost_ret (v := .tuple #[Ent.zero.v, .bool false]) (by simp [results, Try.results19, go_sem, Ent.v, Ent.zero]) rfl ⟨rfl, hb0⟩
set_option maxHeartbeats 1000000 in
theorem head_cons (g room : Nat) (e : Ent) (L : List Ent) (w : World) (h : SQ w g room (e :: L)) : Calls Try.prog 19 #[.pointer (some ⟨g, 0, none⟩)] w fun r w' => r = .returned (.tuple #[e.v, .bool true]) ∧ Below w.heap.size w w' := by
  generalize hW : w.alloc (.cells #[.int .i64 0, .int .i64 0, .int .i64 0, .int .u64 0, .bool false] 31) = W0
  have hb0 : Below w.heap.size w W0 := by rw [← hW]; exact (Below.refl _ _).alloc (Nat.le_refl _) _
  obtain ⟨es, first, hb, hf, hr, hl, hel⟩ := h.below hb0
  have he := hel 0 e rfl
  rw [Nat.add_zero, Nat.mod_eq_of_lt hf] at he
  have hgl := h.lt
  clear h hel
  have hN : 0 < (e :: L).length := by simp
  generalize (e :: L).length = N at *
  have hN' : (0 : Int) < (N : Int) := by omega
  subst hW
  go_enter Try.func19, Try.ntmps19
  go_wp2_with fail
  refine (len_some g es room first _ _ hb).mono ?_
  rintro r w1 ⟨rfl, rfl⟩
  go_wp2_with fail
  have hf0 : (0 : Int) ≤ (first : Int) := by omega
  have hf1 : (first : Int) < 16 := by omega
  have c81 := hb.first
  have k0 := hb.kind first hf
  have k1 := hb.line first hf
  have k2 := hb.word first hf
  have k3 := hb.val first hf
  have k4 := hb.sent first hf
  rw [he] at k0 k1 k2 k3 k4
  clear hb
  go_region
  go_wp2_with fail
  exact bodyPost_ret (v := .tuple #[e.v, .bool true]) (by simp [results, Try.results19, go_sem, Ent.v]) rfl ⟨rfl, ((Below.refl _ _).alloc (Nat.le_refl _) _).drew⟩
theorem cell_put (w : World) (a b : Addr) (v u : Value) (h : w.cell? a = some u) : (w.setCell a v).cell? b = if a = b then some v else w.cell? b := by
  by_cases hab : a = b
  · subst hab; rw [if_pos rfl]; exact World.cell?_setCell_same w a v h
  · rw [if_neg hab]; exact World.cell?_setCell_other w a b v hab
/-- Another entry at a place. -/
def putE (es : Nat → Ent) (k : Nat) (x : Ent) : Nat → Ent := fun i => if i = k then x else es i
theorem Buf.drew {w : World} {g : Nat} {es : Nat → Ent} {room first n : Nat} (h : Buf w g es room first n) : Buf w.drew g es room first n := ⟨h.kind, h.line, h.word, h.val, h.sent, h.room, h.first, h.n, h.free⟩
theorem Buf.setFirst {w : World} {g : Nat} {es : Nat → Ent} {room first n : Nat} (h : Buf w g es room first n) (f : Nat) : Buf (w.setCell ⟨g, 81, none⟩ (.int .i64 f)) g es room f n := by
  have hc : ∀ o, (w.setCell ⟨g, 81, none⟩ (.int .i64 f)).cell? ⟨g, o, none⟩ = if 81 = o then some (.int .i64 f) else w.cell? ⟨g, o, none⟩ := fun o => by
    rw [cell_put w _ _ _ _ h.first]; simp
  refine ⟨fun i hi => ?_, fun i hi => ?_, fun i hi => ?_, fun i hi => ?_, fun i hi => ?_, ?_, ?_, ?_, fun o => ?_⟩
  · rw [hc, if_neg (by omega)]; exact h.kind i hi
  · rw [hc, if_neg (by omega)]; exact h.line i hi
  · rw [hc, if_neg (by omega)]; exact h.word i hi
  · rw [hc, if_neg (by omega)]; exact h.val i hi
  · rw [hc, if_neg (by omega)]; exact h.sent i hi
  · rw [hc, if_neg (by omega)]; exact h.room
  · rw [hc, if_pos rfl]
  · rw [hc, if_neg (by omega)]; exact h.n
  · rw [World.frozen?_setCell]; exact h.free o
theorem Buf.setN {w : World} {g : Nat} {es : Nat → Ent} {room first n : Nat} (h : Buf w g es room first n) (m : Nat) : Buf (w.setCell ⟨g, 82, none⟩ (.int .i64 m)) g es room first m := by
  have hc : ∀ o, (w.setCell ⟨g, 82, none⟩ (.int .i64 m)).cell? ⟨g, o, none⟩ = if 82 = o then some (.int .i64 m) else w.cell? ⟨g, o, none⟩ := fun o => by
    rw [cell_put w _ _ _ _ h.n]; simp
  refine ⟨fun i hi => ?_, fun i hi => ?_, fun i hi => ?_, fun i hi => ?_, fun i hi => ?_, ?_, ?_, ?_, fun o => ?_⟩
  · rw [hc, if_neg (by omega)]; exact h.kind i hi
  · rw [hc, if_neg (by omega)]; exact h.line i hi
  · rw [hc, if_neg (by omega)]; exact h.word i hi
  · rw [hc, if_neg (by omega)]; exact h.val i hi
  · rw [hc, if_neg (by omega)]; exact h.sent i hi
  · rw [hc, if_neg (by omega)]; exact h.room
  · rw [hc, if_neg (by omega)]; exact h.first
  · rw [hc, if_pos rfl]
  · rw [World.frozen?_setCell]; exact h.free o
/-- The cells of one entry written. -/
def setE (w : World) (g k : Nat) (x : Ent) : World :=
  ((((w.setCell ⟨g, k * 5, none⟩ (.int .i64 x.kind)).setCell ⟨g, k * 5 + 1, none⟩ (.int .i64 x.line)).setCell ⟨g, k * 5 + 2, none⟩ (.int .i64 x.word)).setCell ⟨g, k * 5 + 3, none⟩ (.int .u64 x.val)).setCell ⟨g, k * 5 + 4, none⟩ (.bool x.sent)
theorem Buf.setE {w : World} {g : Nat} {es : Nat → Ent} {room first n : Nat} (h : Buf w g es room first n) (k : Nat) (hk : k < 16) (x : Ent) : Buf (setE w g k x) g (putE es k x) room first n := by
  have hc : ∀ o, (Ytmiimmpiagmmlac.setE w g k x).cell? ⟨g, o, none⟩ = if k * 5 + 4 = o then some (.bool x.sent) else if k * 5 + 3 = o then some (.int .u64 x.val) else if k * 5 + 2 = o then some (.int .i64 x.word) else if k * 5 + 1 = o then some (.int .i64 x.line) else if k * 5 = o then some (.int .i64 x.kind) else w.cell? ⟨g, o, none⟩ := fun o => by
    unfold Ytmiimmpiagmmlac.setE
    have a0 := h.kind k hk
    have a1 := h.line k hk
    have a2 := h.word k hk
    have a3 := h.val k hk
    have a4 := h.sent k hk
    have b1 : (w.setCell ⟨g, k * 5, none⟩ (.int .i64 x.kind)).cell? ⟨g, k * 5 + 1, none⟩ = some (.int .i64 (es k).line) := by rw [World.cell?_setCell_other _ _ _ _ (by simp)]; exact a1
    have b2 : ((w.setCell ⟨g, k * 5, none⟩ (.int .i64 x.kind)).setCell ⟨g, k * 5 + 1, none⟩ (.int .i64 x.line)).cell? ⟨g, k * 5 + 2, none⟩ = some (.int .i64 (es k).word) := by rw [World.cell?_setCell_other _ _ _ _ (by simp), World.cell?_setCell_other _ _ _ _ (by simp)]; exact a2
    have b3 : (((w.setCell ⟨g, k * 5, none⟩ (.int .i64 x.kind)).setCell ⟨g, k * 5 + 1, none⟩ (.int .i64 x.line)).setCell ⟨g, k * 5 + 2, none⟩ (.int .i64 x.word)).cell? ⟨g, k * 5 + 3, none⟩ = some (.int .u64 (es k).val) := by rw [World.cell?_setCell_other _ _ _ _ (by simp), World.cell?_setCell_other _ _ _ _ (by simp), World.cell?_setCell_other _ _ _ _ (by simp)]; exact a3
    have b4 : ((((w.setCell ⟨g, k * 5, none⟩ (.int .i64 x.kind)).setCell ⟨g, k * 5 + 1, none⟩ (.int .i64 x.line)).setCell ⟨g, k * 5 + 2, none⟩ (.int .i64 x.word)).setCell ⟨g, k * 5 + 3, none⟩ (.int .u64 x.val)).cell? ⟨g, k * 5 + 4, none⟩ = some (.bool (es k).sent) := by rw [World.cell?_setCell_other _ _ _ _ (by simp), World.cell?_setCell_other _ _ _ _ (by simp), World.cell?_setCell_other _ _ _ _ (by simp), World.cell?_setCell_other _ _ _ _ (by simp)]; exact a4
    rw [cell_put _ _ _ _ _ b4, cell_put _ _ _ _ _ b3, cell_put _ _ _ _ _ b2, cell_put _ _ _ _ _ b1, cell_put _ _ _ _ _ a0]
    simp
  unfold putE
  refine ⟨fun i hi => ?_, fun i hi => ?_, fun i hi => ?_, fun i hi => ?_, fun i hi => ?_, ?_, ?_, ?_, fun o => ?_⟩
  · rw [hc, if_neg (by omega), if_neg (by omega), if_neg (by omega), if_neg (by omega)]
    by_cases hik : i = k
    · subst hik; rw [if_pos rfl, if_pos rfl]
    · rw [if_neg (by omega), if_neg hik]; exact h.kind i hi
  · rw [hc, if_neg (by omega), if_neg (by omega), if_neg (by omega)]
    by_cases hik : i = k
    · subst hik; rw [if_pos rfl, if_pos rfl]
    · rw [if_neg (by omega), if_neg (by omega), if_neg hik]; exact h.line i hi
  · rw [hc, if_neg (by omega), if_neg (by omega)]
    by_cases hik : i = k
    · subst hik; rw [if_pos rfl, if_pos rfl]
    · rw [if_neg (by omega), if_neg (by omega), if_neg (by omega), if_neg hik]; exact h.word i hi
  · rw [hc, if_neg (by omega)]
    by_cases hik : i = k
    · subst hik; rw [if_pos rfl, if_pos rfl]
    · rw [if_neg (by omega), if_neg (by omega), if_neg (by omega), if_neg (by omega), if_neg hik]; exact h.val i hi
  · rw [hc]
    by_cases hik : i = k
    · subst hik; rw [if_pos rfl, if_pos rfl]
    · rw [if_neg (by omega), if_neg (by omega), if_neg (by omega), if_neg (by omega), if_neg (by omega), if_neg hik]; exact h.sent i hi
  · rw [hc, if_neg (by omega), if_neg (by omega), if_neg (by omega), if_neg (by omega), if_neg (by omega)]; exact h.room
  · rw [hc, if_neg (by omega), if_neg (by omega), if_neg (by omega), if_neg (by omega), if_neg (by omega)]; exact h.first
  · rw [hc, if_neg (by omega), if_neg (by omega), if_neg (by omega), if_neg (by omega), if_neg (by omega)]; exact h.n
  · unfold Ytmiimmpiagmmlac.setE; simp only [World.frozen?_setCell]; exact h.free o
/-- Only block g, and what is new, may have turned. -/
theorem only_setCell {a w : World} {g : Nat} (h : a.grownBy w (some g)) {p : Addr} (hp : p.block = g) (u : Value) : a.grownBy (w.setCell p u) (some g) :=
  ⟨h.os, h.tape, h.output, by simpa [World.setCell] using h.size, fun i hi hne => (Below.heap_setCell w p u i (by rintro rfl; exact hne (by rw [hp]))).trans (h.block i hi hne)⟩
theorem only_setE {a w : World} {g : Nat} (h : a.grownBy w (some g)) (k : Nat) (x : Ent) : a.grownBy (setE w g k x) (some g) :=
  only_setCell (only_setCell (only_setCell (only_setCell (only_setCell h rfl _) rfl _) rfl _) rfl _) rfl _
theorem only_drew {a w : World} {row : Option Nat} (h : a.grownBy w row) : a.grownBy w.drew row := ⟨h.os, h.tape, h.output, h.size, h.block⟩
theorem only_alloc {a w : World} {row : Option Nat} (h : a.grownBy w row) (o : Obj) : a.grownBy (w.alloc o) row :=
  ⟨h.os, h.tape, h.output, Nat.le_trans h.size (by simp), fun i hi hne => (Below.heap_alloc w o i (Nat.lt_of_lt_of_le hi h.size)).trans (h.block i hi hne)⟩
theorem only_below {a w w' : World} {row : Option Nat} (h : a.grownBy w row) (hb : Below w.heap.size w w') : a.grownBy w' row :=
  ⟨hb.os.trans h.os, hb.tape.trans h.tape, hb.output.trans h.output, Nat.le_trans h.size hb.size, fun i hi hne => (hb.block i (Nat.lt_of_lt_of_le hi h.size)).trans (h.block i hi hne)⟩
theorem only_refl (w : World) (row : Option Nat) : w.grownBy w row := ⟨rfl, rfl, rfl, Nat.le_refl _, fun _ _ _ => rfl⟩
theorem only_trans {a b c : World} {g : Nat} (h : a.grownBy b (some g)) (k : b.grownBy c (some g)) : a.grownBy c (some g) :=
  ⟨k.os.trans h.os, k.tape.trans h.tape, k.output.trans h.output, Nat.le_trans h.size k.size, fun i hi hne => (k.block i (Nat.lt_of_lt_of_le hi h.size) hne).trans (h.block i hi hne)⟩
end Go.Proofs.Ytmiimmpiagmmlac
