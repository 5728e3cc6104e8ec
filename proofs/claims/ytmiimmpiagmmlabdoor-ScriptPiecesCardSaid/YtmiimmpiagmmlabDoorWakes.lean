/-
  The contract of the laws wakes of layer 16: the examples hold. Condition: the table has as laid.
-/
import Derived.Test.YtmiimmpiagmmlabDoorActs
namespace Go.Proofs.YtmiimmpiagmmlabDoor
open Go.RowKit
set_option linter.unusedVariables false
theorem wake_enc : encS [⟨1, 2, 0⟩, ⟨7, 1, 5⟩] = ⟨#[1, 2, 0, 7, 1, 5]⟩ ∧ encE [⟨1, 2, 0⟩, ⟨7, 1, 5⟩] = 0 := by decide
theorem wake_dec : decL [1, 2, 0, 1, 0, 5, 7, 1, 5, 1] = [⟨1, 2, 0⟩, ⟨7, 1, 5⟩] := by rfl
theorem wake_round : (roundL 2 3).length = 16 := by decide
set_option maxHeartbeats 2000000 in
theorem wakes_any (w : World) (ht : Tab w) : Calls Tryd.prog 7 #[] w fun e w' => e = .returned (.bool true) ∧ Below w.heap.size w w' := by
  have hpos := ht.pos
  have hrd : Rd (w.alloc (.cells #[.int .i64 1, .int .i64 2, .int .i64 0, .int .i64 7, .int .i64 1, .int .i64 5] 31)) (.slice (some ⟨w.heap.size, 0, none⟩) 2 2) [⟨1, 2, 0⟩, ⟨7, 1, 5⟩] := by
    refine .inr ⟨w.heap.size, 0, 2, rfl, fun i a ha => ?_⟩
    match i, ha with
    | 0, ha => simp at ha; subst ha; simp
    | 1, ha => simp at ha; subst ha; simp
    | i + 2, ha => simp at ha
  have b0 : Below w.heap.size w (w.alloc (.cells #[.int .i64 1, .int .i64 2, .int .i64 0, .int .i64 7, .int .i64 1, .int .i64 5] 31)) := (Below.refl _ _).alloc (Nat.le_refl _) _
  have ht0 := ht.below b0 hpos
  go_enter Tryd.func7, Tryd.ntmps7
  go_wp2_with fail
  refine (encode_any _ _ (by simp) _ ht0 hrd).mono ?_
  rintro e w1 ⟨rfl, hb1⟩
  have b1 : Below w.heap.size w w1 := b0.trans (hb1.mono (by simp))
  have ht1 := ht.below b1 hpos
  rw [wake_enc.1, wake_enc.2]
  clear hb1 hrd b0 ht0
  go_wp2_with fail
  refine (decode_any _ _ (by simp [ByteArray.size]) ht1).mono ?_
  rintro e w2 ⟨v, rfl, hown, hb2⟩
  have hown' : w2.ownsRow w1.heap.size 31 3 v 2 (rowOf [⟨1, 2, 0⟩, ⟨7, 1, 5⟩]) := by
    have h := hown
    change w2.ownsRow w1.heap.size 31 3 v (decL [1, 2, 0, 1, 0, 5, 7, 1, 5, 1]).length (rowOf (decL [1, 2, 0, 1, 0, 5, 7, 1, 5, 1])) at h
    rw [wake_dec] at h
    exact h
  obtain ⟨g, cap, hv, _, _⟩ := hown'.form (by omega)
  subst hv
  have hc5 : w2.cell? ⟨g, 5, none⟩ = some (.int .i64 5) := by
    have := hown'.cells (g := g) rfl 5 (.int .i64 5) (by rfl)
    rw [add_plain] at this
    exact this
  have b2 : Below w.heap.size w w2 := b1.trans (hb2.mono b1.size)
  clear hown hown' hb2
  go_wp2_with fail
  refine (round_any _ _ _ _ _ _ _ _).mono ?_
  rintro e w3 ⟨v, rfl, hown3, hb3⟩
  rw [wake_round] at hown3
  obtain ⟨g3, cap3, hv3, _, _⟩ := hown3.form (by omega)
  subst hv3
  have b3 : Below w.heap.size w w3 := b2.trans (hb3.mono b2.size)
  clear hown3 hb3
  go_wp2_with fail
  go_ret
  exact ⟨rfl, b3⟩
end Go.Proofs.YtmiimmpiagmmlabDoor
