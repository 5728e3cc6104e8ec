/-
  The law SbufPlays, its short ways: what the call returns. Conditions stand in each statement.
-/
import Derived.Test.YtmiimmpiagmmlacRefFind
import Derived.Test.YtmiimmpiagmmlacRefPush
import Derived.Test.YtmiimmpiagmmlacArgs
namespace Go.Proofs.Ytmiimmpiagmmlac
open Go.RowKit
set_option linter.unusedVariables false
set_option linter.unusedSimpArgs false
theorem RQ.other {w w' : World} {r room g : Nat} {L : List Ent} (h : RQ w r room L) (ho : w.grownBy w' (some g)) (hg : g < r) : RQ w' r room L := by
  have hr := h.lt
  obtain ⟨v, h0, h1, h2, h3⟩ := h
  have hne : some r ≠ some g := fun h => by have := Option.some.inj h; omega
  refine ⟨v, (ho.cell_far ⟨r, _, none⟩ hr hne).trans h0, (ho.cell_far ⟨r, _, none⟩ hr hne).trans h1, fun o => (ho.frozen_far ⟨r, _, none⟩ hr hne).trans (h2 o), h3.1, ?_⟩
  rcases h3.2 with h4 | ⟨k, cap, cur, hv, hk, hh, hrest⟩
  · exact .inl h4
  · refine .inr ⟨k, cap, cur, hv, hk, ?_, hrest⟩
    have hlt : k < w.heap.size := by
      rcases Nat.lt_or_ge k w.heap.size with h' | h'
      · exact h'
      · rw [Array.getElem?_eq_none h'] at hh; cases hh
    rw [ho.block k hlt (fun h => by have := Option.some.inj h; omega)]
    exact hh
theorem SQ.other {w w' : World} {g room r : Nat} {L : List Ent} (h : SQ w g room L) (ho : w.grownBy w' (some r)) (hg : g ≠ r) : SQ w' g room L :=
  h.block (ho.block g h.lt (fun h => by have := Option.some.inj h; omega))
theorem SQ.room_le {w : World} {g room : Nat} {L : List Ent} (h : SQ w g room L) : L.length ≤ room ∧ room ≤ 16 := by
  obtain ⟨es, first, _, _, h1, h2, _⟩ := h
  exact ⟨h2, h1⟩
set_option maxRecDepth 100000 in
set_option maxHeartbeats 1000000 in
theorem plays_long (room : Int) (A : Option Addr) (cap n : Nat) (hn : 200 < (n : Int)) (w : World) : Calls Try.prog 5 #[.int .i64 room, .slice A n cap] w fun r w' => r = .returned (.bool true) ∧ Below w.heap.size w w' := by
  go_enter Try.func5, Try.ntmps5
  go_wp2_with fail
  refine (wakes_true _).mono ?_
  rintro r w2 ⟨rfl, hb2⟩
  go_wp2_with fail
  go_ret
  exact ⟨rfl, hb2⟩
set_option maxRecDepth 100000 in
set_option maxHeartbeats 1000000 in
theorem plays_out (room : Int) (hroom : room < 1 ∨ 16 < room) (A : Option Addr) (cap n : Nat) (hn : (n : Int) ≤ 200) (w : World) : Calls Try.prog 5 #[.int .i64 room, .slice A n cap] w fun r w' => r = .returned (.bool true) ∧ Below w.heap.size w w' := by
  go_enter Try.func5, Try.ntmps5
  go_wp2_with fail
  refine (new_out room hroom _).mono ?_
  rintro r w2 ⟨rfl, rfl⟩
  go_wp2_with fail
  refine (refnew_out room hroom _).mono ?_
  rintro r w2 ⟨rfl, rfl⟩
  go_wp2_with fail
  go_loop [9] (fun v => v = .int .i64 0) (fun v => 0)
  case atStart => rfl
  case round =>
    subst hrel
    by_cases h0 : n = 0
    · subst h0
      go_wp2_with fail
      refine (wakes_true _).mono ?_
      rintro r w2 ⟨rfl, hb2⟩
      go_wp2_with fail
      go_ret
      exact ⟨rfl, hb2⟩
    · have h1 : (0 : Int) < (n : Int) := by omega
      go_wp2_with fail
      refine (wakes_true _).mono ?_
      rintro r w2 ⟨rfl, hb2⟩
      go_wp2_with fail
      go_ret
      exact ⟨rfl, hb2⟩
end Go.Proofs.Ytmiimmpiagmmlac
