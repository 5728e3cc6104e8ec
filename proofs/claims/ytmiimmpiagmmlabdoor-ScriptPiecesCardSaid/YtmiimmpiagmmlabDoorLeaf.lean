/-
  The contracts of the leaves of layer 16: may, Good, the reference Good: what they return for any act, and that they only make new memory. Condition: the table has reads as the program text lays it.
-/
import Derived.Test.YtmiimmpiagmmlabDoorChecked
import Derived.WalkKit
import Derived.WalkLawsBesides
namespace Go.Proofs.YtmiimmpiagmmlabDoor
open Go.RowKit
set_option linter.unusedVariables false

def mayB (n : Int) (is : Bool) (most : Int) : Bool := n == 0 || is && decide (0 < n) && decide (n < most)
set_option maxHeartbeats 400000 in
theorem may_any (n : Int) (is : Bool) (most : Int) (w : World) : Calls Tryd.prog 17 #[.int .i64 n, .bool is, .int .i64 most] w fun e w' => e = .returned (.bool (mayB n is most)) ∧ w = w' := by
  unfold mayB
  by_cases h0 : n = 0
  · subst h0
    go_enter Tryd.func17, Tryd.ntmps17
    go_wp2
    go_ret
    exact ⟨rfl, rfl⟩
  · have h0' : (n == 0) = false := by simpa using h0
    cases is
    · go_enter Tryd.func17, Tryd.ntmps17
      go_wp2
      go_ret
      simp [h0']
    · by_cases h1 : 0 < n <;> by_cases h2 : n < most
      all_goals
        go_enter Tryd.func17, Tryd.ntmps17
        go_wp2
        go_ret
        simp [h0', h1, h2]
def coreB (k : Int) : Bool := decide (1 ≤ k ∧ k ≤ 5) || k == 7
def lineB (k : Int) : Bool := k == 6 || k == 7 || k == 8 || k == 9
set_option maxHeartbeats 400000 in
theorem core_any (k : Int) (w : World) : Calls Tryd.prog 18 #[.int .i64 k] w fun e w' => e = .returned (.bool (coreB k)) ∧ w = w' := by
  unfold coreB
  by_cases h1 : 1 ≤ k <;> by_cases h2 : k ≤ 5 <;> by_cases h3 : k = 7
  all_goals (try subst h3) <;> (try omega)
  all_goals
    try have h3' : (k == 7) = false := by simpa using h3
    go_enter Tryd.func18, Tryd.ntmps18
    go_wp2
    go_ret
    simp [*]
set_option maxHeartbeats 400000 in
theorem line_any (k : Int) (w : World) : Calls Tryd.prog 19 #[.int .i64 k] w fun e w' => e = .returned (.bool (lineB k)) ∧ w = w' := by
  unfold lineB
  by_cases h6 : k = 6 <;> by_cases h7 : k = 7 <;> by_cases h8 : k = 8 <;> by_cases h9 : k = 9
  all_goals first | omega | skip
  all_goals
    first | subst h6 | subst h7 | subst h8 | subst h9 | skip
    try have h6' : (k == 6) = false := by simpa using h6
    try have h7' : (k == 7) = false := by simpa using h7
    try have h8' : (k == 8) = false := by simpa using h8
    try have h9' : (k == 9) = false := by simpa using h9
    go_enter Tryd.func19, Tryd.ntmps19
    go_wp2
    go_ret
    simp [*]

/-- The table 'has' as the program's text lays it, in the first block. -/
def hasL : List Int := [0, 1, 1, 1, 1, 1, 2, 3, 2, 2, 0]
def Tab (w : World) : Prop := ∀ i : Nat, i < 11 → w.cell? ⟨0, i, none⟩ = some (.int .u8 (hasL.getD i 0))
theorem Tab.below {B : Nat} {w w' : World} (h : Tab w) (hb : Below B w w') (hB : 0 < B) : Tab w' := fun i hi => (hb.cell (p := ⟨0, i, none⟩) hB).trans (h i hi)
theorem Tab.pos {w : World} (h : Tab w) : 0 < w.heap.size := World.block_lt_of_cell? (w := w) (a := ⟨0, 0, none⟩) (h 0 (by omega))
def goodB (k c l : Int) : Bool := decide (1 ≤ k ∧ k ≤ 10) && mayB c (coreB k) 8 && mayB l (lineB k) 64
theorem has_core (k : Int) (hk : 1 ≤ k ∧ k ≤ 10) : (bits .and .u8 (hasL.getD k.toNat 0) 1 != 0) = coreB k := by
  have hk' : k = 1 ∨ k = 2 ∨ k = 3 ∨ k = 4 ∨ k = 5 ∨ k = 6 ∨ k = 7 ∨ k = 8 ∨ k = 9 ∨ k = 10 := by omega
  rcases hk' with rfl | rfl | rfl | rfl | rfl | rfl | rfl | rfl | rfl | rfl <;> decide
theorem has_line (k : Int) (hk : 1 ≤ k ∧ k ≤ 10) : (bits .and .u8 (hasL.getD k.toNat 0) 2 != 0) = lineB k := by
  have hk' : k = 1 ∨ k = 2 ∨ k = 3 ∨ k = 4 ∨ k = 5 ∨ k = 6 ∨ k = 7 ∨ k = 8 ∨ k = 9 ∨ k = 10 := by omega
  rcases hk' with rfl | rfl | rfl | rfl | rfl | rfl | rfl | rfl | rfl | rfl <;> decide
set_option maxHeartbeats 1000000 in
theorem good_in (k c l : Int) (hk : 1 ≤ k ∧ k ≤ 10) (b1 : Bool) (hm1 : mayB c (coreB k) 8 = b1) (w : World) (ht : Tab w) : Calls Tryd.prog 10 #[.agg #[.int .i64 k, .int .i64 c, .int .i64 l]] w fun e w' => e = .returned (.bool (b1 && mayB l (lineB k) 64)) ∧ Below w.heap.size w w' := by
  have hp := ht.pos
  have hk1 := hk.1
  have hk2 := hk.2
  have hcell : (w.alloc (.cells #[.int .i64 k, .int .i64 c, .int .i64 l] 31)).cell? ⟨0, k.toNat, none⟩ = some (.int .u8 (hasL.getD k.toNat 0)) := by
    rw [World.cell?_alloc_lt _ _ _ hp]
    exact ht k.toNat (by omega)
  have hcore := has_core k hk
  have hline := has_line k hk
  generalize hasL.getD k.toNat 0 = t at *
  go_enter Tryd.func10, Tryd.ntmps10
  go_wp2_with fail
  refine (may_any _ _ _ _).mono ?_
  rintro e w1 ⟨rfl, rfl⟩
  cases b1
  · go_wp2_with fail
    go_ret
    exact ⟨rfl, (Below.refl _ _).alloc (Nat.le_refl _) _⟩
  · go_wp2_with fail
    refine (may_any _ _ _ _).mono ?_
    rintro e w1 ⟨rfl, rfl⟩
    go_wp2_with fail
    go_ret
    exact ⟨rfl, (Below.refl _ _).alloc (Nat.le_refl _) _⟩
set_option maxHeartbeats 1000000 in
theorem good_any (k c l : Int) (w : World) (ht : Tab w) : Calls Tryd.prog 10 #[.agg #[.int .i64 k, .int .i64 c, .int .i64 l]] w fun e w' => e = .returned (.bool (goodB k c l)) ∧ Below w.heap.size w w' := by
  by_cases hk : 1 ≤ k ∧ k ≤ 10
  · have e1 : goodB k c l = (mayB c (coreB k) 8 && mayB l (lineB k) 64) := by unfold goodB; rw [decide_eq_true hk, Bool.true_and]
    rw [e1]
    exact good_in k c l hk _ rfl w ht
  · have e1 : goodB k c l = false := by unfold goodB; rw [decide_eq_false hk]; simp
    rw [e1]
    clear e1 ht
    by_cases h1 : k < 1
    · clear hk
      go_enter Tryd.func10, Tryd.ntmps10
      go_wp2_with fail
      go_ret
      exact ⟨rfl, (Below.refl _ _).alloc (Nat.le_refl _) _⟩
    · have h2 : 10 < k := by omega
      clear hk
      go_enter Tryd.func10, Tryd.ntmps10
      go_wp2_with fail
      go_ret
      exact ⟨rfl, (Below.refl _ _).alloc (Nat.le_refl _) _⟩

def CoreOf (k : Int) (b : Bool) : Prop := ∀ W : World, Calls Tryd.prog 18 #[.int .i64 k] W fun e w' => e = .returned (.bool b) ∧ W = w'
def LineOf (k : Int) (b : Bool) : Prop := ∀ W : World, Calls Tryd.prog 19 #[.int .i64 k] W fun e w' => e = .returned (.bool b) ∧ W = w'
theorem CoreOf.calls {k : Int} {b : Bool} (h : CoreOf k b) (W : World) : Calls Tryd.prog 18 #[.int .i64 k] W fun e w' => e = .returned (.bool b) ∧ W = w' := h W
theorem LineOf.calls {k : Int} {b : Bool} (h : LineOf k b) (W : World) : Calls Tryd.prog 19 #[.int .i64 k] W fun e w' => e = .returned (.bool b) ∧ W = w' := h W
set_option maxHeartbeats 1000000 in
theorem refgood_0_0 (k c l : Int) (hk1 : 1 ≤ k) (hk2 : k ≤ 10) (hC : CoreOf k false) (hL : LineOf k false) (hc : c = 0) (hl : l = 0) (w : World) :
    Calls Tryd.prog 11 #[.agg #[.int .i64 k, .int .i64 c, .int .i64 l]] w fun e w' => e = .returned (.bool true) ∧ Below w.heap.size w w' := by
  have fin : ∀ o : Obj, Below w.heap.size w (w.alloc o) := fun o => (Below.refl _ _).alloc (Nat.le_refl _) _
  subst hc
  subst hl
  go_enter Tryd.func11, Tryd.ntmps11
  go_wp2_with (first | (go_at_call 18; refine (hC.calls _).mono ?_; rintro e w1 ⟨rfl, rfl⟩) | (go_at_call 19; refine (hL.calls _).mono ?_; rintro e w1 ⟨rfl, rfl⟩))
  go_ret
  first | exact ⟨rfl, fin _⟩ | exact ⟨by simp; omega, fin _⟩
set_option maxHeartbeats 1000000 in
theorem refgood_0_1 (k c l : Int) (hk1 : 1 ≤ k) (hk2 : k ≤ 10) (hC : CoreOf k false) (hL : LineOf k false) (hc : c = 0) (hl : (l == 0) = false) (w : World) :
    Calls Tryd.prog 11 #[.agg #[.int .i64 k, .int .i64 c, .int .i64 l]] w fun e w' => e = .returned (.bool false) ∧ Below w.heap.size w w' := by
  have fin : ∀ o : Obj, Below w.heap.size w (w.alloc o) := fun o => (Below.refl _ _).alloc (Nat.le_refl _) _
  subst hc
  go_enter Tryd.func11, Tryd.ntmps11
  go_wp2_with (first | (go_at_call 18; refine (hC.calls _).mono ?_; rintro e w1 ⟨rfl, rfl⟩) | (go_at_call 19; refine (hL.calls _).mono ?_; rintro e w1 ⟨rfl, rfl⟩))
  go_ret
  first | exact ⟨rfl, fin _⟩ | exact ⟨by simp; omega, fin _⟩
set_option maxHeartbeats 1000000 in
theorem refgood_0_2 (k c l : Int) (hk1 : 1 ≤ k) (hk2 : k ≤ 10) (hC : CoreOf k false) (hL : LineOf k true) (hc : c = 0) (hl : l < 0) (w : World) :
    Calls Tryd.prog 11 #[.agg #[.int .i64 k, .int .i64 c, .int .i64 l]] w fun e w' => e = .returned (.bool false) ∧ Below w.heap.size w w' := by
  have fin : ∀ o : Obj, Below w.heap.size w (w.alloc o) := fun o => (Below.refl _ _).alloc (Nat.le_refl _) _
  subst hc
  go_enter Tryd.func11, Tryd.ntmps11
  go_wp2_with (first | (go_at_call 18; refine (hC.calls _).mono ?_; rintro e w1 ⟨rfl, rfl⟩) | (go_at_call 19; refine (hL.calls _).mono ?_; rintro e w1 ⟨rfl, rfl⟩))
  go_ret
  first | exact ⟨rfl, fin _⟩ | exact ⟨by simp; omega, fin _⟩
set_option maxHeartbeats 1000000 in
theorem refgood_0_3 (k c l : Int) (hk1 : 1 ≤ k) (hk2 : k ≤ 10) (hC : CoreOf k false) (hL : LineOf k true) (hc : c = 0) (hl : 63 < l) (w : World) :
    Calls Tryd.prog 11 #[.agg #[.int .i64 k, .int .i64 c, .int .i64 l]] w fun e w' => e = .returned (.bool false) ∧ Below w.heap.size w w' := by
  have fin : ∀ o : Obj, Below w.heap.size w (w.alloc o) := fun o => (Below.refl _ _).alloc (Nat.le_refl _) _
  subst hc
  go_enter Tryd.func11, Tryd.ntmps11
  go_wp2_with (first | (go_at_call 18; refine (hC.calls _).mono ?_; rintro e w1 ⟨rfl, rfl⟩) | (go_at_call 19; refine (hL.calls _).mono ?_; rintro e w1 ⟨rfl, rfl⟩))
  go_ret
  first | exact ⟨rfl, fin _⟩ | exact ⟨by simp; omega, fin _⟩
set_option maxHeartbeats 1000000 in
theorem refgood_0_4 (k c l : Int) (hk1 : 1 ≤ k) (hk2 : k ≤ 10) (hC : CoreOf k false) (hL : LineOf k true) (hc : c = 0) (hl : 0 ≤ l) (hl' : l ≤ 63) (w : World) :
    Calls Tryd.prog 11 #[.agg #[.int .i64 k, .int .i64 c, .int .i64 l]] w fun e w' => e = .returned (.bool true) ∧ Below w.heap.size w w' := by
  have fin : ∀ o : Obj, Below w.heap.size w (w.alloc o) := fun o => (Below.refl _ _).alloc (Nat.le_refl _) _
  subst hc
  go_enter Tryd.func11, Tryd.ntmps11
  go_wp2_with (first | (go_at_call 18; refine (hC.calls _).mono ?_; rintro e w1 ⟨rfl, rfl⟩) | (go_at_call 19; refine (hL.calls _).mono ?_; rintro e w1 ⟨rfl, rfl⟩))
  go_ret
  first | exact ⟨rfl, fin _⟩ | exact ⟨by simp; omega, fin _⟩
set_option maxHeartbeats 1000000 in
theorem refgood_1 (k c l : Int) (hk1 : 1 ≤ k) (hk2 : k ≤ 10) (hC : CoreOf k false) (b2 : Bool) (hL : LineOf k b2) (hc : (c == 0) = false) (w : World) :
    Calls Tryd.prog 11 #[.agg #[.int .i64 k, .int .i64 c, .int .i64 l]] w fun e w' => e = .returned (.bool false) ∧ Below w.heap.size w w' := by
  have fin : ∀ o : Obj, Below w.heap.size w (w.alloc o) := fun o => (Below.refl _ _).alloc (Nat.le_refl _) _
  go_enter Tryd.func11, Tryd.ntmps11
  go_wp2_with (first | (go_at_call 18; refine (hC.calls _).mono ?_; rintro e w1 ⟨rfl, rfl⟩) | (go_at_call 19; refine (hL.calls _).mono ?_; rintro e w1 ⟨rfl, rfl⟩))
  go_ret
  first | exact ⟨rfl, fin _⟩ | exact ⟨by simp; omega, fin _⟩
set_option maxHeartbeats 1000000 in
theorem refgood_2 (k c l : Int) (hk1 : 1 ≤ k) (hk2 : k ≤ 10) (hC : CoreOf k true) (b2 : Bool) (hL : LineOf k b2) (hc : c < 0) (w : World) :
    Calls Tryd.prog 11 #[.agg #[.int .i64 k, .int .i64 c, .int .i64 l]] w fun e w' => e = .returned (.bool false) ∧ Below w.heap.size w w' := by
  have fin : ∀ o : Obj, Below w.heap.size w (w.alloc o) := fun o => (Below.refl _ _).alloc (Nat.le_refl _) _
  go_enter Tryd.func11, Tryd.ntmps11
  go_wp2_with (first | (go_at_call 18; refine (hC.calls _).mono ?_; rintro e w1 ⟨rfl, rfl⟩) | (go_at_call 19; refine (hL.calls _).mono ?_; rintro e w1 ⟨rfl, rfl⟩))
  go_ret
  first | exact ⟨rfl, fin _⟩ | exact ⟨by simp; omega, fin _⟩
set_option maxHeartbeats 1000000 in
theorem refgood_3 (k c l : Int) (hk1 : 1 ≤ k) (hk2 : k ≤ 10) (hC : CoreOf k true) (b2 : Bool) (hL : LineOf k b2) (hc : 7 < c) (w : World) :
    Calls Tryd.prog 11 #[.agg #[.int .i64 k, .int .i64 c, .int .i64 l]] w fun e w' => e = .returned (.bool false) ∧ Below w.heap.size w w' := by
  have fin : ∀ o : Obj, Below w.heap.size w (w.alloc o) := fun o => (Below.refl _ _).alloc (Nat.le_refl _) _
  go_enter Tryd.func11, Tryd.ntmps11
  go_wp2_with (first | (go_at_call 18; refine (hC.calls _).mono ?_; rintro e w1 ⟨rfl, rfl⟩) | (go_at_call 19; refine (hL.calls _).mono ?_; rintro e w1 ⟨rfl, rfl⟩))
  go_ret
  first | exact ⟨rfl, fin _⟩ | exact ⟨by simp; omega, fin _⟩
set_option maxHeartbeats 1000000 in
theorem refgood_4_0 (k c l : Int) (hk1 : 1 ≤ k) (hk2 : k ≤ 10) (hC : CoreOf k true) (hL : LineOf k false) (hc : 0 ≤ c) (hc' : c ≤ 7) (hl : l = 0) (w : World) :
    Calls Tryd.prog 11 #[.agg #[.int .i64 k, .int .i64 c, .int .i64 l]] w fun e w' => e = .returned (.bool true) ∧ Below w.heap.size w w' := by
  have fin : ∀ o : Obj, Below w.heap.size w (w.alloc o) := fun o => (Below.refl _ _).alloc (Nat.le_refl _) _
  subst hl
  go_enter Tryd.func11, Tryd.ntmps11
  go_wp2_with (first | (go_at_call 18; refine (hC.calls _).mono ?_; rintro e w1 ⟨rfl, rfl⟩) | (go_at_call 19; refine (hL.calls _).mono ?_; rintro e w1 ⟨rfl, rfl⟩))
  go_ret
  first | exact ⟨rfl, fin _⟩ | exact ⟨by simp; omega, fin _⟩
set_option maxHeartbeats 1000000 in
theorem refgood_4_1 (k c l : Int) (hk1 : 1 ≤ k) (hk2 : k ≤ 10) (hC : CoreOf k true) (hL : LineOf k false) (hc : 0 ≤ c) (hc' : c ≤ 7) (hl : (l == 0) = false) (w : World) :
    Calls Tryd.prog 11 #[.agg #[.int .i64 k, .int .i64 c, .int .i64 l]] w fun e w' => e = .returned (.bool false) ∧ Below w.heap.size w w' := by
  have fin : ∀ o : Obj, Below w.heap.size w (w.alloc o) := fun o => (Below.refl _ _).alloc (Nat.le_refl _) _
  go_enter Tryd.func11, Tryd.ntmps11
  go_wp2_with (first | (go_at_call 18; refine (hC.calls _).mono ?_; rintro e w1 ⟨rfl, rfl⟩) | (go_at_call 19; refine (hL.calls _).mono ?_; rintro e w1 ⟨rfl, rfl⟩))
  go_ret
  first | exact ⟨rfl, fin _⟩ | exact ⟨by simp; omega, fin _⟩
set_option maxHeartbeats 1000000 in
theorem refgood_4_2 (k c l : Int) (hk1 : 1 ≤ k) (hk2 : k ≤ 10) (hC : CoreOf k true) (hL : LineOf k true) (hc : 0 ≤ c) (hc' : c ≤ 7) (hl : l < 0) (w : World) :
    Calls Tryd.prog 11 #[.agg #[.int .i64 k, .int .i64 c, .int .i64 l]] w fun e w' => e = .returned (.bool false) ∧ Below w.heap.size w w' := by
  have fin : ∀ o : Obj, Below w.heap.size w (w.alloc o) := fun o => (Below.refl _ _).alloc (Nat.le_refl _) _
  go_enter Tryd.func11, Tryd.ntmps11
  go_wp2_with (first | (go_at_call 18; refine (hC.calls _).mono ?_; rintro e w1 ⟨rfl, rfl⟩) | (go_at_call 19; refine (hL.calls _).mono ?_; rintro e w1 ⟨rfl, rfl⟩))
  go_ret
  first | exact ⟨rfl, fin _⟩ | exact ⟨by simp; omega, fin _⟩
set_option maxHeartbeats 1000000 in
theorem refgood_4_3 (k c l : Int) (hk1 : 1 ≤ k) (hk2 : k ≤ 10) (hC : CoreOf k true) (hL : LineOf k true) (hc : 0 ≤ c) (hc' : c ≤ 7) (hl : 63 < l) (w : World) :
    Calls Tryd.prog 11 #[.agg #[.int .i64 k, .int .i64 c, .int .i64 l]] w fun e w' => e = .returned (.bool false) ∧ Below w.heap.size w w' := by
  have fin : ∀ o : Obj, Below w.heap.size w (w.alloc o) := fun o => (Below.refl _ _).alloc (Nat.le_refl _) _
  go_enter Tryd.func11, Tryd.ntmps11
  go_wp2_with (first | (go_at_call 18; refine (hC.calls _).mono ?_; rintro e w1 ⟨rfl, rfl⟩) | (go_at_call 19; refine (hL.calls _).mono ?_; rintro e w1 ⟨rfl, rfl⟩))
  go_ret
  first | exact ⟨rfl, fin _⟩ | exact ⟨by simp; omega, fin _⟩
set_option maxHeartbeats 1000000 in
theorem refgood_4_4 (k c l : Int) (hk1 : 1 ≤ k) (hk2 : k ≤ 10) (hC : CoreOf k true) (hL : LineOf k true) (hc : 0 ≤ c) (hc' : c ≤ 7) (hl : 0 ≤ l) (hl' : l ≤ 63) (w : World) :
    Calls Tryd.prog 11 #[.agg #[.int .i64 k, .int .i64 c, .int .i64 l]] w fun e w' => e = .returned (.bool true) ∧ Below w.heap.size w w' := by
  have fin : ∀ o : Obj, Below w.heap.size w (w.alloc o) := fun o => (Below.refl _ _).alloc (Nat.le_refl _) _
  go_enter Tryd.func11, Tryd.ntmps11
  go_wp2_with (first | (go_at_call 18; refine (hC.calls _).mono ?_; rintro e w1 ⟨rfl, rfl⟩) | (go_at_call 19; refine (hL.calls _).mono ?_; rintro e w1 ⟨rfl, rfl⟩))
  go_ret
  first | exact ⟨rfl, fin _⟩ | exact ⟨by simp; omega, fin _⟩
set_option maxHeartbeats 1000000 in
theorem refgood_any (k c l : Int) (w : World) : Calls Tryd.prog 11 #[.agg #[.int .i64 k, .int .i64 c, .int .i64 l]] w fun e w' => e = .returned (.bool (goodB k c l)) ∧ Below w.heap.size w w' := by
  by_cases hk : 1 ≤ k ∧ k ≤ 10
  · have e1 : goodB k c l = (mayB c (coreB k) 8 && mayB l (lineB k) 64) := by unfold goodB; rw [decide_eq_true hk, Bool.true_and]
    rw [e1]
    have hC : CoreOf k (coreB k) := fun W => core_any k W
    have hL : LineOf k (lineB k) := fun W => line_any k W
    generalize coreB k = b1 at *
    generalize lineB k = b2 at *
    clear e1
    obtain ⟨hk1, hk2⟩ := hk
    have m : ∀ (n most : Int), n ≠ 0 → mayB n false most = false := fun n most h => by simp [mayB, h]
    have m0 : ∀ (b : Bool) (most : Int), mayB 0 b most = true := fun b most => by simp [mayB]
    have ml : ∀ (n most : Int), n < 0 → mayB n true most = false := fun n most h => by
      have h1 : ¬ 0 < n := by omega
      have h2 : ¬ n = 0 := by omega
      simp [mayB, h1, h2]
    have mg : ∀ (n most : Int), 0 < n → most ≤ n → mayB n true most = false := fun n most h h' => by
      have h1 : ¬ n < most := by omega
      have h2 : ¬ n = 0 := by omega
      simp [mayB, h1, h2]
    have mo : ∀ (n most : Int), 0 ≤ n → n < most → mayB n true most = true := fun n most h h' => by
      by_cases h0 : n = 0
      · subst h0; simp [mayB]
      · have h1 : 0 < n := by omega
        simp [mayB, h1, h']
    cases b1
    · by_cases hc : c = 0
      · rw [hc, m0, Bool.true_and]
        cases b2
        · by_cases hl : l = 0
          · rw [hl, m0]
            exact refgood_0_0 k 0 0 hk1 hk2 hC hL rfl rfl w
          · rw [m l 64 hl]
            exact refgood_0_1 k 0 l hk1 hk2 hC hL rfl (by simpa using hl) w
        · rcases Int.lt_trichotomy l 0 with hl | hl | hl
          · rw [ml l 64 hl]
            exact refgood_0_2 k 0 l hk1 hk2 hC hL rfl hl w
          · rw [mo l 64 (by omega) (by omega)]
            exact refgood_0_4 k 0 l hk1 hk2 hC hL rfl (by omega) (by omega) w
          · by_cases h63 : l ≤ 63
            · rw [mo l 64 (by omega) (by omega)]
              exact refgood_0_4 k 0 l hk1 hk2 hC hL rfl (by omega) h63 w
            · rw [mg l 64 hl (by omega)]
              exact refgood_0_3 k 0 l hk1 hk2 hC hL rfl (by omega) w
      · rw [m c 8 hc, Bool.false_and]
        exact refgood_1 k c l hk1 hk2 hC _ hL (by simpa using hc) w
    · by_cases h0 : c < 0
      · rw [ml c 8 h0, Bool.false_and]
        exact refgood_2 k c l hk1 hk2 hC _ hL h0 w
      · by_cases h7 : 7 < c
        · rw [mg c 8 (by omega) (by omega), Bool.false_and]
          exact refgood_3 k c l hk1 hk2 hC _ hL h7 w
        · rw [mo c 8 (by omega) (by omega), Bool.true_and]
          cases b2
          · by_cases hl : l = 0
            · rw [hl, m0]
              exact refgood_4_0 k c 0 hk1 hk2 hC hL (by omega) (by omega) rfl w
            · rw [m l 64 hl]
              exact refgood_4_1 k c l hk1 hk2 hC hL (by omega) (by omega) (by simpa using hl) w
          · by_cases hl : l < 0
            · rw [ml l 64 hl]
              exact refgood_4_2 k c l hk1 hk2 hC hL (by omega) (by omega) hl w
            · by_cases h63 : l ≤ 63
              · rw [mo l 64 (by omega) (by omega)]
                exact refgood_4_4 k c l hk1 hk2 hC hL (by omega) (by omega) (by omega) h63 w
              · rw [mg l 64 (by omega) (by omega)]
                exact refgood_4_3 k c l hk1 hk2 hC hL (by omega) (by omega) (by omega) w
  · have e1 : goodB k c l = false := by unfold goodB; rw [decide_eq_false hk]; simp
    rw [e1]
    clear e1
    by_cases h1 : k < 1
    · clear hk
      go_enter Tryd.func11, Tryd.ntmps11
      go_wp2_with fail
      go_ret
      exact ⟨rfl, (Below.refl _ _).alloc (Nat.le_refl _) _⟩
    · have h2 : 10 < k := by omega
      clear hk
      go_enter Tryd.func11, Tryd.ntmps11
      go_wp2_with fail
      go_ret
      exact ⟨rfl, (Below.refl _ _).alloc (Nat.le_refl _) _⟩
end Go.Proofs.YtmiimmpiagmmlabDoor
