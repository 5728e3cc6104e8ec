/-
  Send and Clear: what the buffer holds then. Conditions stand in each statement.
-/
import Derived.Test.YtmiimmpiagmmlacPush
import Derived.Deep.RegionHeld3
import Derived.Deep.RegionWith
namespace Go.Proofs.Ytmiimmpiagmmlac
open Go.RowKit
set_option linter.unusedVariables false
set_option linter.unusedSimpArgs false
/-- The first one is sent, if it is a flush that waits. -/
def sendL : List Ent → List Ent
  | [] => []
  | e :: L => (if e.kind == 14 then { e with sent := true } else e) :: L
theorem Buf.setSent {w : World} {g : Nat} {es : Nat → Ent} {room first n : Nat} (h : Buf w g es room first n) (k : Nat) (hk : k < 16) : Buf (w.setCell ⟨g, k * 5 + 4, none⟩ (.bool true)) g (putE es k { es k with sent := true }) room first n := by
  have hc : ∀ o, (w.setCell ⟨g, k * 5 + 4, none⟩ (.bool true)).cell? ⟨g, o, none⟩ = if k * 5 + 4 = o then some (.bool true) else w.cell? ⟨g, o, none⟩ := fun o => by
    rw [cell_put w _ _ _ _ (h.sent k hk)]; simp
  unfold putE
  refine ⟨fun i hi => ?_, fun i hi => ?_, fun i hi => ?_, fun i hi => ?_, fun i hi => ?_, ?_, ?_, ?_, fun o => ?_⟩
  · rw [hc, if_neg (by omega), h.kind i hi]
    by_cases hik : i = k
    · subst hik; rw [if_pos rfl]
    · rw [if_neg hik]
  · rw [hc, if_neg (by omega), h.line i hi]
    by_cases hik : i = k
    · subst hik; rw [if_pos rfl]
    · rw [if_neg hik]
  · rw [hc, if_neg (by omega), h.word i hi]
    by_cases hik : i = k
    · subst hik; rw [if_pos rfl]
    · rw [if_neg hik]
  · rw [hc, if_neg (by omega), h.val i hi]
    by_cases hik : i = k
    · subst hik; rw [if_pos rfl]
    · rw [if_neg hik]
  · rw [hc]
    by_cases hik : i = k
    · subst hik; rw [if_pos rfl, if_pos rfl]
    · rw [if_neg (by omega), if_neg hik]; exact h.sent i hi
  · rw [hc, if_neg (by omega)]; exact h.room
  · rw [hc, if_neg (by omega)]; exact h.first
  · rw [hc, if_neg (by omega)]; exact h.n
  · rw [World.frozen?_setCell]; exact h.free o
set_option maxHeartbeats 1000000 in
theorem send_none (w : World) : Calls Try.prog 14 #[.pointer none] w fun r w' => r = .returned (.tuple #[]) ∧ Below w.heap.size w w' := by
  go_enter Try.func14, Try.ntmps14
  go_wp2_with fail
  refine (head_none _).mono ?_
  rintro r w1 ⟨rfl, hb1⟩
  unfold Ent.v Ent.zero
  have hb2 : ∀ o, Below w.heap.size w (w1.alloc o) := fun o => hb1.alloc hb1.size o
  go_wp2_with fail
  go_end0
  exact ⟨rfl, hb2 _⟩
set_option maxHeartbeats 1000000 in
theorem send_nil (g room : Nat) (w : World) (h : SQ w g room []) : Calls Try.prog 14 #[.pointer (some ⟨g, 0, none⟩)] w fun r w' => r = .returned (.tuple #[]) ∧ Below w.heap.size w w' := by
  go_enter Try.func14, Try.ntmps14
  go_wp2_with fail
  refine (head_nil _ _ _ h).mono ?_
  rintro r w1 ⟨rfl, hb1⟩
  unfold Ent.v Ent.zero
  have hb2 : ∀ o, Below w.heap.size w (w1.alloc o) := fun o => hb1.alloc hb1.size o
  clear h
  go_wp2_with fail
  go_end0
  exact ⟨rfl, hb2 _⟩
set_option maxHeartbeats 1000000 in
theorem send_other (g room : Nat) (e : Ent) (L : List Ent) (hk : (e.kind == 14) = false) (w : World) (h : SQ w g room (e :: L)) : Calls Try.prog 14 #[.pointer (some ⟨g, 0, none⟩)] w fun r w' => r = .returned (.tuple #[]) ∧ Below w.heap.size w w' := by
  go_enter Try.func14, Try.ntmps14
  go_wp2_with fail
  refine (head_cons _ _ _ _ _ h).mono ?_
  rintro r w1 ⟨rfl, hb1⟩
  unfold Ent.v
  have hb2 : ∀ o, Below w.heap.size w (w1.alloc o) := fun o => hb1.alloc hb1.size o
  clear h
  go_wp2_with fail
  go_end0
  exact ⟨rfl, hb2 _⟩
set_option maxHeartbeats 1000000 in
theorem send_flush (g room : Nat) (e : Ent) (L : List Ent) (hk : e.kind = 14) (w : World) (h : SQ w g room (e :: L)) : Calls Try.prog 14 #[.pointer (some ⟨g, 0, none⟩)] w fun r w' => r = .returned (.tuple #[]) ∧ SQ w' g room ({ e with sent := true } :: L) ∧ w.grownBy w' (some g) := by
  go_enter Try.func14, Try.ntmps14
  go_wp2_with fail
  refine (head_cons _ _ _ _ _ h).mono ?_
  rintro r w1 ⟨rfl, hb1⟩
  have h1 := h.below hb1
  clear h
  unfold Ent.v
  generalize hW : w1.alloc (.cells #[.int .i64 e.kind, .int .i64 e.line, .int .i64 e.word, .int .u64 e.val, .bool e.sent] 31) = w2
  have hb12 : Below w1.heap.size w1 w2 := by rw [← hW]; exact (Below.refl _ _).alloc (Nat.le_refl _) _
  have hcl2 : w2.heap[w1.heap.size]? = some (.cells #[.int .i64 e.kind, .int .i64 e.line, .int .i64 e.word, .int .u64 e.val, .bool e.sent] 31) := by rw [← hW]; exact heap_alloc_new w1 _
  obtain ⟨es, first, hB, hf, hr, hl, hel⟩ := h1.below hb12
  have he := hel 0 e rfl
  rw [Nat.add_zero, Nat.mod_eq_of_lt hf] at he
  have ho := only_of_below (hb1.trans (hb12.mono hb1.size)) (some g)
  have ho2 := only_setCell (g := g) (p := ⟨g, first * 5 + 4, none⟩) ho rfl (.bool true)
  have hB2 := hB.setSent first hf
  have d1 := hB.first
  have d2 := hB.sent first hf
  have z := hB.free
  have hi0 : (0 : Int) ≤ (first : Int) := by omega
  have hi1 : (first : Int) < 16 := by omega
  clear h1 hb1 hb12
  rw [hk] at hW hcl2 ⊢
  have HE := Lib.hid he
  have HB := Lib.hid hB
  have HR := Lib.hid hel
  obtain ⟨⟨q0, q1, q2, q3, q4⟩, _⟩ := cells5 hcl2
  clear he hB hel hcl2
  go_wp2_with fail
  clear hW
  go_region
  go_wp2_with fail
  go_end0
  refine ⟨rfl, ⟨_, first, hB2.drew, hf, hr, hl, fun i x hx => ?_⟩, only_drew ho2⟩
  have hel := HR.out
  cases i with
  | zero =>
    have hx' : ({ e with sent := true } : Ent) = x := by simpa using hx
    rw [Nat.add_zero, Nat.mod_eq_of_lt hf, ← hx']
    unfold putE
    rw [if_pos rfl, HE.out]
  | succ i =>
    have hx' := hel (i + 1) x (by simpa using hx)
    have hil : i < L.length := by rcases Nat.lt_or_ge i L.length with h | h; exact h; simp [List.getElem?_eq_none h] at hx
    have hl' : L.length + 1 ≤ room := hl
    unfold putE
    rw [if_neg (by omega)]
    exact hx'
theorem sendL_cons (e : Ent) (L : List Ent) : sendL (e :: L) = (if e.kind == 14 then { e with sent := true } else e) :: L := rfl
theorem send_any (g room : Nat) (L : List Ent) (w : World) (h : SQ w g room L) : Calls Try.prog 14 #[.pointer (some ⟨g, 0, none⟩)] w fun r w' => r = .returned (.tuple #[]) ∧ SQ w' g room (sendL L) ∧ w.grownBy w' (some g) := by
  cases L with
  | nil => exact (send_nil g room w h).mono fun r w1 ⟨he, hb⟩ => ⟨he, h.below hb, only_of_below hb _⟩
  | cons e L =>
    by_cases hk : e.kind = 14
    · refine (send_flush g room e L hk w h).mono ?_
      rintro r w1 ⟨he, h1, h2⟩
      rw [sendL_cons, if_pos (by simpa using hk)]
      exact ⟨he, h1, h2⟩
    · have hk' : (e.kind == 14) = false := by simpa using hk
      refine (send_other g room e L hk' w h).mono ?_
      rintro r w1 ⟨he, hb⟩
      rw [sendL_cons, if_neg (by simp [hk'])]
      exact ⟨he, h.below hb, only_of_below hb _⟩
/-- Sixteen places that are zero, the first one's place and the number too. -/
def z16 : Array Value := (List.replicate 16 zEnt).flatten.toArray
theorem z16_size : z16.size = 80 := rfl
theorem z16_len : z16.toList.length = 80 := rfl
theorem z16_one : ∀ v ∈ z16.toList, v.oneCell' = true := by decide +kernel
theorem z16_at (i : Nat) (hi : i < 16) : z16.toList[i * 5]? = some (.int .i64 0) ∧ z16.toList[i * 5 + 1]? = some (.int .i64 0) ∧ z16.toList[i * 5 + 2]? = some (.int .i64 0) ∧ z16.toList[i * 5 + 3]? = some (.int .u64 0) ∧ z16.toList[i * 5 + 4]? = some (.bool false) := by
  match i, hi with
  | 0, _ => exact ⟨rfl, rfl, rfl, rfl, rfl⟩
  | 1, _ => exact ⟨rfl, rfl, rfl, rfl, rfl⟩
  | 2, _ => exact ⟨rfl, rfl, rfl, rfl, rfl⟩
  | 3, _ => exact ⟨rfl, rfl, rfl, rfl, rfl⟩
  | 4, _ => exact ⟨rfl, rfl, rfl, rfl, rfl⟩
  | 5, _ => exact ⟨rfl, rfl, rfl, rfl, rfl⟩
  | 6, _ => exact ⟨rfl, rfl, rfl, rfl, rfl⟩
  | 7, _ => exact ⟨rfl, rfl, rfl, rfl, rfl⟩
  | 8, _ => exact ⟨rfl, rfl, rfl, rfl, rfl⟩
  | 9, _ => exact ⟨rfl, rfl, rfl, rfl, rfl⟩
  | 10, _ => exact ⟨rfl, rfl, rfl, rfl, rfl⟩
  | 11, _ => exact ⟨rfl, rfl, rfl, rfl, rfl⟩
  | 12, _ => exact ⟨rfl, rfl, rfl, rfl, rfl⟩
  | 13, _ => exact ⟨rfl, rfl, rfl, rfl, rfl⟩
  | 14, _ => exact ⟨rfl, rfl, rfl, rfl, rfl⟩
  | 15, _ => exact ⟨rfl, rfl, rfl, rfl, rfl⟩
  | n + 16, h => exact absurd h (by omega)
theorem zero61 (w : World) : (zeroValue 61).run Try.prog w = .ok (.agg z16) w := by kernel_rfl
set_option maxHeartbeats 1000000 in
theorem clear_none (w : World) : Calls Try.prog 23 #[.pointer none] w fun r w' => r = .returned (.tuple #[]) ∧ w = w' := by
  go_enter Try.func23, Try.ntmps23
  go_wp2_with fail
  go_end0
  exact ⟨rfl, rfl⟩
theorem Buf.some {w : World} {g : Nat} {es : Nat → Ent} {room first n : Nat} (h : Buf w g es room first n) (j : Nat) (hj : j < 80) : (w.cell? ⟨g, j, none⟩).isSome = true := by
  obtain ⟨q, r, rfl, hr⟩ : ∃ q r, j = q * 5 + r ∧ r < 5 := ⟨j / 5, j % 5, by omega, by omega⟩
  match r, hr with
  | 0, _ => rw [Nat.add_zero, h.kind q (by omega)]; rfl
  | 1, _ => rw [h.line q (by omega)]; rfl
  | 2, _ => rw [h.word q (by omega)]; rfl
  | 3, _ => rw [h.val q (by omega)]; rfl
  | 4, _ => rw [h.sent q (by omega)]; rfl
  | n + 5, h => exact absurd h (by omega)
theorem Buf.zeroed {w : World} {g : Nat} {es : Nat → Ent} {room first n : Nat} (h : Buf w g es room first n) : Buf (w.setCells g 0 z16.toList) g (fun _ => Ent.zero) room first n := by
  have hin : ∀ (j : Nat) (v : Value), z16.toList[j]? = Option.some v → (w.setCells g 0 z16.toList).cell? ⟨g, j, none⟩ = Option.some v := fun j v hv => by
    obtain ⟨hj, rfl⟩ := List.getElem?_eq_some_iff.1 hv
    have := World.cell?_setCells_in g z16.toList 0 w (fun i hi => by rw [Nat.zero_add]; exact h.some i (by rw [z16_len] at hi; exact hi)) j hj
    rwa [Nat.zero_add] at this
  have hout : ∀ j, 80 ≤ j → (w.setCells g 0 z16.toList).cell? ⟨g, j, none⟩ = w.cell? ⟨g, j, none⟩ := fun j hj => World.cell?_setCells_out g _ 0 w _ (fun _ _ => Or.inr (by rw [z16_len]; simpa using hj))
  exact ⟨fun i hi => hin _ _ (z16_at i hi).1, fun i hi => hin _ _ (z16_at i hi).2.1, fun i hi => hin _ _ (z16_at i hi).2.2.1, fun i hi => hin _ _ (z16_at i hi).2.2.2.1, fun i hi => hin _ _ (z16_at i hi).2.2.2.2,
    (hout _ (by omega)).trans h.room, (hout _ (by omega)).trans h.first, (hout _ (by omega)).trans h.n, fun o => (World.frozen?_setCells g _ 0 w _).trans (h.free o)⟩
theorem only_setCells {a : World} {g : Nat} : ∀ (vs : List Value) (o : Nat) (w : World), a.grownBy w (some g) → a.grownBy (w.setCells g o vs) (some g)
  | [], _, _, h => h
  | v :: r, o, w, h => only_setCells r (o + 1) _ (only_setCell h rfl v)
set_option maxRecDepth 100000 in
set_option maxHeartbeats 1000000 in
theorem clear_some (g room : Nat) (L : List Ent) (w : World) (h : SQ w g room L) : Calls Try.prog 23 #[.pointer (some ⟨g, 0, none⟩)] w fun r w' => r = .returned (.tuple #[]) ∧ SQ w' g room [] ∧ w.grownBy w' (some g) := by
  obtain ⟨es, first, hB, hf, hr, hl, hel⟩ := h
  have hz := zero61
  have hs := z16_size
  have hst : (storeCells ⟨g, 0, none⟩ z16.toList).run Try.prog w = .ok () (w.setCells g 0 z16.toList) := run_storeCells_cells g 0 z16.toList 0 w (fun j hj => by rw [Nat.add_zero, Nat.zero_add]; exact hB.some j (by rw [z16_len] at hj; exact hj)) (fun j hj => hB.free _) z16_one
  have hB2 := hB.zeroed
  have ho := only_setCells z16.toList 0 w (only_refl w (some g))
  have hB3 := (hB2.setFirst 0).setN 0
  have ho2 := only_setCell (g := g) (p := ⟨g, 82, none⟩) (only_setCell (g := g) (p := ⟨g, 81, none⟩) ho rfl (.int .i64 0)) rfl (.int .i64 0)
  have c81 := hB2.first
  have c82 := hB2.n
  have z := hB2.free
  clear hel hB hB2
  go_enter Try.func23, Try.ntmps23
  go_wp2_with fail
  go_end0
  exact ⟨rfl, ⟨_, 0, hB3, by omega, hr, by simp, fun i e he => by simp at he⟩, ho2⟩
end Go.Proofs.Ytmiimmpiagmmlac
