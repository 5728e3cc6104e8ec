/-
  Push: what it returns and what the buffer holds then. Conditions stand in each statement.
-/
import Derived.Test.YtmiimmpiagmmlacPop
import Derived.Deep.RegionHeld3
import Derived.Deep.RegionWith
namespace Go.Proofs.Ytmiimmpiagmmlac
open Go.RowKit
set_option linter.unusedVariables false
set_option linter.unusedSimpArgs false
theorem below_drewN {B : Nat} {a w : World} (h : Below B a w) (n : Nat) : Below B a (w.drewN n) := ⟨h.os, h.tape, h.output, h.size, h.block⟩
theorem Buf.drewN {w : World} {g : Nat} {es : Nat → Ent} {room first n : Nat} (h : Buf w g es room first n) (k : Nat) : Buf (w.drewN k) g es room first n := ⟨h.kind, h.line, h.word, h.val, h.sent, h.room, h.first, h.n, h.free⟩
set_option maxHeartbeats 1000000 in
theorem push_none (e : Ent) (w : World) : Calls Try.prog 9 #[.pointer none, e.v] w fun r w' => r = .returned (.int .i64 1) ∧ Below w.heap.size w w' := by
  have fin : ∀ o : Obj, Below w.heap.size w (w.alloc o) := fun o => (Below.refl _ _).alloc (Nat.le_refl _) _
  unfold Ent.v
  go_enter Try.func9, Try.ntmps9
  go_wp2_with fail
  go_ret
  exact ⟨rfl, fin _⟩
set_option maxHeartbeats 1000000 in
theorem push_bad (g : Nat) (e : Ent) (h : goodE e = false) (w : World) : Calls Try.prog 9 #[.pointer (some ⟨g, 0, none⟩), e.v] w fun r w' => r = .returned (.int .i64 11) ∧ Below w.heap.size w w' := by
  generalize hW : w.alloc (.cells #[.int .i64 e.kind, .int .i64 e.line, .int .i64 e.word, .int .u64 e.val, .bool e.sent] 31) = W0
  have hb0 : Below w.heap.size w W0 := by rw [← hW]; exact (Below.refl _ _).alloc (Nat.le_refl _) _
  subst hW
  have hle : w.heap.size ≤ (w.alloc (.cells #[.int .i64 e.kind, .int .i64 e.line, .int .i64 e.word, .int .u64 e.val, .bool e.sent] 31)).heap.size := hb0.size
  have hg := good_any e
  rw [h] at hg
  unfold Ent.v at hg ⊢
  go_enter Try.func9, Try.ntmps9
  go_wp2_with fail
  refine (hg _).mono ?_
  rintro r w1 ⟨rfl, hb1⟩
  go_wp2_with fail
  go_ret
  exact ⟨rfl, hb0.trans (hb1.mono hle)⟩
set_option maxHeartbeats 1000000 in
theorem push_full (g room : Nat) (L : List Ent) (e : Ent) (h : goodE e = true) (hfull : room ≤ L.length) (w : World) (hs : SQ w g room L) : Calls Try.prog 9 #[.pointer (some ⟨g, 0, none⟩), e.v] w fun r w' => r = .returned (.int .i64 13) ∧ Below w.heap.size w w' := by
  generalize hW : w.alloc (.cells #[.int .i64 e.kind, .int .i64 e.line, .int .i64 e.word, .int .u64 e.val, .bool e.sent] 31) = W0
  have hb0 : Below w.heap.size w W0 := by rw [← hW]; exact (Below.refl _ _).alloc (Nat.le_refl _) _
  have hs0 := hs.below hb0
  subst hW
  have hle : w.heap.size ≤ (w.alloc (.cells #[.int .i64 e.kind, .int .i64 e.line, .int .i64 e.word, .int .u64 e.val, .bool e.sent] 31)).heap.size := hb0.size
  have hg := good_any e
  rw [h] at hg
  unfold Ent.v at hg ⊢
  clear hs
  go_enter Try.func9, Try.ntmps9
  go_wp2_with fail
  refine (hg _).mono ?_
  rintro r w1 ⟨rfl, hb1⟩
  obtain ⟨es, first, hB, hf, hr, hl, hel⟩ := hs0.below hb1
  clear hs0 hel
  have c1 := hB.n
  have c2 := hB.room
  have hlr : (room : Int) ≤ (L.length : Int) := by omega
  clear hB
  go_wp2_with fail
  go_quiet (fail)
  go_wp2_with fail
  go_ret
  exact ⟨rfl, below_drewN (hb0.trans (hb1.mono hle)) _⟩
set_option maxHeartbeats 1000000 in
theorem push_ok (g room : Nat) (L : List Ent) (e : Ent) (h : goodE e = true) (hroom : L.length < room) (w : World) (hs : SQ w g room L) : Calls Try.prog 9 #[.pointer (some ⟨g, 0, none⟩), e.v] w fun r w' => r = .returned (.int .i64 0) ∧ SQ w' g room (L ++ [e]) ∧ w.grownBy w' (some g) := by
  generalize hW : w.alloc (.cells #[.int .i64 e.kind, .int .i64 e.line, .int .i64 e.word, .int .u64 e.val, .bool e.sent] 31) = W0
  have hb0 : Below w.heap.size w W0 := by rw [← hW]; exact (Below.refl _ _).alloc (Nat.le_refl _) _
  have hlt : w.heap.size < W0.heap.size := by rw [← hW]; simp
  have hcl : W0.heap[w.heap.size]? = some (.cells #[.int .i64 e.kind, .int .i64 e.line, .int .i64 e.word, .int .u64 e.val, .bool e.sent] 31) := by rw [← hW]; exact heap_alloc_new w _
  have hs0 := hs.below hb0
  have hgl := hs.lt
  subst hW
  have hg := good_any e
  rw [h] at hg
  unfold Ent.v at hg ⊢
  clear hs
  go_enter Try.func9, Try.ntmps9
  go_wp2_with fail
  refine (hg _).mono ?_
  rintro r w1 ⟨rfl, hb1⟩
  obtain ⟨es, first, hB, hf, hr, hl, hel⟩ := hs0.below hb1
  have hbw := hb0.trans (hb1.mono (Nat.le_of_lt hlt))
  obtain ⟨⟨c0, c1, c2, c3, c4⟩, _⟩ := cells5 ((hb1.block w.heap.size hlt).trans hcl)
  clear hs0 hcl hb0 hb1
  have d1 := hB.n
  have d2 := hB.room
  have hlr : (L.length : Int) < (room : Int) := by omega
  have hlr' : (L.length : Int) < 16 := by omega
  go_wp2_with fail
  go_quiet (fail)
  go_wp2_with fail
  have hB2 := hB.drewN nq
  have hbw2 := below_drewN hbw nq
  have c0' : (w1.drewN nq).cell? ⟨w.heap.size, 0, none⟩ = some (.int .i64 e.kind) := c0
  have c1' : (w1.drewN nq).cell? ⟨w.heap.size, 1, none⟩ = some (.int .i64 e.line) := c1
  have c2' : (w1.drewN nq).cell? ⟨w.heap.size, 2, none⟩ = some (.int .i64 e.word) := c2
  have c3' : (w1.drewN nq).cell? ⟨w.heap.size, 3, none⟩ = some (.int .u64 e.val) := c3
  have c4' : (w1.drewN nq).cell? ⟨w.heap.size, 4, none⟩ = some (.bool e.sent) := c4
  clear c0 c1 c2 c3 c4 d1 d2 hbw hB
  generalize w1.drewN nq = w2 at *
  have hA : ∀ w', Buf w' g es room first L.length → Calls Try.prog 26 #[.pointer (some ⟨g, 0, none⟩), .int .i64 L.length] w' fun e w'' => e = .returned (.int .i64 (((first + L.length) % 16 : Nat) : Int)) ∧ w' = w'' := fun w' h => at_some g _ room first L.length L.length hf (by omega) w' h
  have hk : (first + L.length) % 16 < 16 := Nat.mod_lt _ (by omega)
  generalize hk' : (first + L.length) % 16 = k at *
  have hkH := Lib.hid hk'
  have hB3 := hB2.setE k hk e
  have ho3 := only_setE (only_refl w2 (some g)) k e
  have d82 := hB2.n
  have d82' := hB3.n
  have k0 := hB2.kind k hk
  have k1 := hB2.line k hk
  have k2 := hB2.word k hk
  have k3 := hB2.val k hk
  have k4 := hB2.sent k hk
  have hz0 := hB2.free
  have hi0 : (0 : Int) ≤ (k : Int) := by omega
  have hi1 : (k : Int) < 16 := by omega
  clear hk' hg
  have hg4 : g ≠ w.heap.size := by omega
  have hg5 : w.heap.size ≠ g := by omega
  go_region_with (go_at_call 26; refine (hA _ hB2.drew).mono ?_; rintro r w4 ⟨rfl, rfl⟩)
  all_goals
    have hB5 := hB3.drew
    have ho5 := only_trans (only_of_below hbw2 (some g)) (only_drew ho3)
    have d5 := hB5.n
    have z5 := hB5.free 82
    change Exit.then _ _ _ _ ((setE w2 g k e).drew)
    clear d82' ho3 hB3
    generalize (setE w2 g k e).drew = w5 at *
    go_wp2_with fail
    refine bodyPost_ret (v := .int .i64 0) (by simp [results, Try.results9, go_sem]) rfl ⟨rfl, ?_, only_setCell ho5 rfl _⟩
    have hk5 := Hid.out hkH
    refine ⟨putE es k e, first, (by rw [List.length_append]; exact hB5.setN (L.length + 1)), hf, hr, by simp; omega, fun i x hx => ?_⟩
    rcases Nat.lt_or_ge i L.length with hi | hi
    · rw [List.getElem?_append_left hi] at hx
      unfold putE
      rw [if_neg (by omega)]
      exact hel i x hx
    · rw [List.getElem?_append_right hi] at hx
      have hi0 : i - L.length = 0 := by
        rcases Nat.eq_zero_or_pos (i - L.length) with h0 | h0
        · exact h0
        · rw [List.getElem?_eq_none (by simp; omega)] at hx; cases hx
      rw [hi0] at hx
      have hx' : e = x := by simpa using hx
      unfold putE
      rw [if_pos (by rw [show i = L.length by omega]; exact hk5)]
      exact hx'
theorem push_any (g room : Nat) (L : List Ent) (e : Ent) (w : World) (hs : SQ w g room L) : Calls Try.prog 9 #[.pointer (some ⟨g, 0, none⟩), e.v] w fun r w' =>
    r = .returned (.int .i64 (if goodE e = false then 11 else if room ≤ L.length then 13 else 0)) ∧ SQ w' g room (if goodE e = true ∧ L.length < room then L ++ [e] else L) ∧ w.grownBy w' (some g) := by
  by_cases h : goodE e = true
  · by_cases hr : room ≤ L.length
    · refine (push_full g room L e h hr w hs).mono ?_
      rintro r w1 ⟨rfl, hb⟩
      rw [if_neg (by simp [h]), if_pos hr, if_neg (by omega)]
      exact ⟨rfl, hs.below hb, only_of_below hb _⟩
    · refine (push_ok g room L e h (by omega) w hs).mono ?_
      rintro r w1 ⟨rfl, h1, h2⟩
      rw [if_neg (by simp [h]), if_neg hr, if_pos ⟨h, by omega⟩]
      exact ⟨rfl, h1, h2⟩
  · have h' : goodE e = false := by simpa using h
    refine (push_bad g e h' w).mono ?_
    rintro r w1 ⟨rfl, hb⟩
    rw [if_pos h', if_neg (by simp [h'])]
    exact ⟨rfl, hs.below hb, only_of_below hb _⟩
end Go.Proofs.Ytmiimmpiagmmlac
