/-
  The contract of bellowskeep.Acts on two readings of one list, and how a slice of the call own reads. Condition: at most a million acts.
-/
import Derived.Test.YtmiimmpiagmmlabDoorRound
import Derived.Deep.QuietTactic
import Derived.BigQuiet
namespace Go.Proofs.YtmiimmpiagmmlabDoor
open Go.RowKit
set_option linter.unusedVariables false
theorem rowOf_get : ∀ (l : List A3) (i : Nat) (a : A3), l[i]? = some a → (rowOf l)[i * 3]? = some (.int .i64 a.k) ∧ (rowOf l)[i * 3 + 1]? = some (.int .i64 a.c) ∧ (rowOf l)[i * 3 + 2]? = some (.int .i64 a.l)
  | [], i, a, h => by simp at h
  | b :: l, 0, a, h => by
    simp at h
    subst h
    exact ⟨rfl, rfl, rfl⟩
  | b :: l, i + 1, a, h => by
    have ih := rowOf_get l i a (by simpa using h)
    have e : rowOf (b :: l) = .int .i64 b.k :: .int .i64 b.c :: .int .i64 b.l :: rowOf l := rfl
    rw [e]
    refine ⟨?_, ?_, ?_⟩
    · rw [show (i + 1) * 3 = i * 3 + 1 + 1 + 1 from by omega]; simpa using ih.1
    · rw [show (i + 1) * 3 + 1 = i * 3 + 1 + 1 + 1 + 1 from by omega]; simpa using ih.2.1
    · rw [show (i + 1) * 3 + 2 = i * 3 + 2 + 1 + 1 + 1 from by omega]; simpa using ih.2.2
theorem add_plain (g o j : Nat) : (⟨g, o, none⟩ : Addr).add j = ⟨g, o + j, none⟩ := by unfold Addr.add; split <;> simp_all
theorem Rd_of_own {w : World} {base : Nat} {v : Value} {l : List A3} (h : w.ownsRow base 31 3 v l.length (rowOf l)) : Rd w v l := by
  rcases h.2 with ⟨rfl, h0⟩ | ⟨g, cap, cur, rfl, _⟩
  · exact .inl ⟨List.eq_nil_of_length_eq_zero h0, _, _, rfl⟩
  · refine .inr ⟨g, 0, cap, rfl, fun i a ha => ?_⟩
    obtain ⟨h1, h2, h3⟩ := rowOf_get l i a ha
    have hc := fun j u (hj : (rowOf l)[j]? = some u) => h.cells (g := g) rfl j u hj
    refine ⟨?_, ?_, ?_⟩
    · have := hc _ _ h1; rw [add_plain] at this; exact this
    · have := hc _ _ h2; rw [add_plain] at this; exact this
    · have := hc _ _ h3; rw [add_plain] at this; exact this
/-- A reading stays while nothing below the heap's size turns. -/
theorem Rd.below {w w' : World} {v : Value} {l : List A3} (h : Rd w v l) (hb : Below w.heap.size w w') : Rd w' v l := by
  rcases h with h | ⟨b, o, cap, rfl, h⟩
  · exact .inl h
  · refine .inr ⟨b, o, cap, rfl, fun i a ha => ?_⟩
    obtain ⟨h1, h2, h3⟩ := h i a ha
    have hlt : b < w.heap.size := World.block_lt_of_cell? (w := w) (a := ⟨b, _, none⟩) h1
    exact ⟨(hb.cell (p := ⟨b, _, none⟩) hlt).trans h1, (hb.cell (p := ⟨b, _, none⟩) hlt).trans h2, (hb.cell (p := ⟨b, _, none⟩) hlt).trans h3⟩
set_option maxHeartbeats 1000000 in
theorem acts_nil (A1 A2 : Option Addr) (c1 c2 : Nat) (w : World) :
    Calls Tryd.prog 12 #[.slice A1 0 c1, .slice A2 0 c2] w fun e w' => e = .returned (.bool true) ∧ ∃ n, w' = w.drewN n := by
  go_enter Tryd.func12, Tryd.ntmps12
  go_wp2_with fail
  go_loopw [5] (fun i W => i = .int .i64 0 ∧ W = w) (fun i W => 0)
  case atStart => exact ⟨rfl, rfl⟩
  case round =>
    obtain ⟨rfl, rfl⟩ := hrel
    go_wp2_with fail
    go_ret
    exact ⟨rfl, 0, rfl⟩
set_option maxHeartbeats 1000000 in
theorem acts_some (b1 o1 c1 b2 o2 c2 : Nat) (l : List A3) (hpos : 0 < l.length) (w : World) (hn : l.length ≤ 1000000)
    (h1 : ∀ (i : Nat) (a : A3), l[i]? = some a → w.cell? ⟨b1, o1 + i * 3, none⟩ = some (.int .i64 a.k) ∧ w.cell? ⟨b1, o1 + i * 3 + 1, none⟩ = some (.int .i64 a.c) ∧ w.cell? ⟨b1, o1 + i * 3 + 2, none⟩ = some (.int .i64 a.l))
    (h2 : ∀ (i : Nat) (a : A3), l[i]? = some a → w.cell? ⟨b2, o2 + i * 3, none⟩ = some (.int .i64 a.k) ∧ w.cell? ⟨b2, o2 + i * 3 + 1, none⟩ = some (.int .i64 a.c) ∧ w.cell? ⟨b2, o2 + i * 3 + 2, none⟩ = some (.int .i64 a.l)) :
    Calls Tryd.prog 12 #[.slice (some ⟨b1, o1, none⟩) l.length c1, .slice (some ⟨b2, o2, none⟩) l.length c2] w fun e w' => e = .returned (.bool true) ∧ ∃ n, w' = w.drewN n := by
  have H1 := Lib.hid h1; clear h1
  have H2 := Lib.hid h2; clear h2
  generalize hL : l.length = n at *
  have HL := Lib.hid hL; clear hL
  have hn' : (n : Int) ≤ 1000000 := by omega
  go_enter Tryd.func12, Tryd.ntmps12
  go_wp2_with fail
  go_loopw [5] (fun i W => ∃ j m : Nat, (j : Int) ≤ n ∧ i = .int .i64 j ∧ W = w.drewN m) (fun i W => n - (intOf i).toNat)
  case atStart => exact ⟨0, 0, by omega, rfl, rfl⟩
  case round =>
    obtain ⟨j, m, hj, rfl, rfl⟩ := hrel
    by_cases hlt : (j : Int) < n
    · have hjl : j < l.length := by rw [HL.out]; omega
      obtain ⟨a, hget⟩ : ∃ a, l[j]? = some a := ⟨_, List.getElem?_eq_getElem hjl⟩
      obtain ⟨p1, p2, p3⟩ := H1.out j _ hget
      obtain ⟨q1, q2, q3⟩ := H2.out j _ hget
      have hlt' : (0 : Int) ≤ (j : Int) := by omega
      clear hget hjl
      go_wp2_with fail
      go_quiet (fail)
      go_wp2_with fail
      go_roundw
      case rel => exact ⟨j + 1, m + nq, by omega, by go_num, rfl⟩
      case measure => simp [intOf]; omega
    · go_wp2_with fail
      go_ret
      exact ⟨rfl, m, rfl⟩
theorem acts_same (v1 v2 : Value) (l : List A3) (w : World) (hn : l.length ≤ 1000000) (h1 : Rd w v1 l) (h2 : Rd w v2 l) :
    Calls Tryd.prog 12 #[v1, v2] w fun e w' => e = .returned (.bool true) ∧ Below w.heap.size w w' := by
  have dn : ∀ n, Below w.heap.size w (w.drewN n) := fun n => ⟨rfl, rfl, rfl, Nat.le_refl _, fun _ _ => rfl⟩
  have nil : ∀ A1 A2 c1 c2, Calls Tryd.prog 12 #[.slice A1 0 c1, .slice A2 0 c2] w fun e w' => e = .returned (.bool true) ∧ Below w.heap.size w w' :=
    fun A1 A2 c1 c2 => (acts_nil A1 A2 c1 c2 w).mono fun _ _ ⟨he, n, hn⟩ => ⟨he, by rw [hn]; exact dn n⟩
  rcases h1 with ⟨rfl, A1, c1, rfl⟩ | ⟨b1, o1, c1, rfl, h1⟩
  · rcases h2 with ⟨_, A2, c2, rfl⟩ | ⟨b2, o2, c2, rfl, h2⟩
    · exact nil _ _ _ _
    · exact nil _ _ _ _
  · rcases h2 with ⟨rfl, A2, c2, rfl⟩ | ⟨b2, o2, c2, rfl, h2⟩
    · exact nil _ _ _ _
    · rcases Nat.eq_zero_or_pos l.length with h0 | h0
      · rw [h0]; exact nil _ _ _ _
      · exact (acts_some b1 o1 c1 b2 o2 c2 l h0 w hn h1 h2).mono fun _ _ ⟨he, n, hn⟩ => ⟨he, by rw [hn]; exact dn n⟩
end Go.Proofs.YtmiimmpiagmmlabDoor
