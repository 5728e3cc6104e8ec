/-
  Len, New, Mod over what a buffer holds, and the law's wakes: what they return. Conditions stand in each statement.
-/
import Derived.Test.YtmiimmpiagmmlacAll
import Derived.Test.YtmiimmpiagmmlacFind
namespace Go.Proofs.Ytmiimmpiagmmlac
open Go.RowKit
set_option linter.unusedVariables false
set_option linter.unusedSimpArgs false
theorem len_sq (g room : Nat) (L : List Ent) (w : World) (h : SQ w g room L) : Calls Try.prog 13 #[.pointer (some ⟨g, 0, none⟩)] w fun e w' => e = .returned (.int .i64 L.length) ∧ w = w' := by
  obtain ⟨es, first, hB, _⟩ := h
  exact len_some g es room first _ w hB
theorem new_sq (w : World) (room : Nat) (h : room ≤ 16) : SQ (w.alloc (.cells (zb.setIfInBounds 80 (.int .i64 room)) 63)) w.heap.size room [] :=
  ⟨_, 0, new_buf w room, by omega, h, by simp, fun i e he => by simp at he⟩
theorem new_room (room : Nat) (h1 : 1 ≤ room) (h2 : room ≤ 16) (w : World) : Calls Try.prog 7 #[.int .i64 room] w fun e w' => e = .returned (.tuple #[.pointer (some ⟨w.heap.size, 0, none⟩), .int .i64 0]) ∧ SQ w' w.heap.size room [] ∧ Below w.heap.size w w' := by
  refine (new_in room (by omega) (by omega) w).mono ?_
  rintro e w1 ⟨rfl, rfl⟩
  exact ⟨rfl, new_sq w room h2, (Below.refl _ _).alloc (Nat.le_refl _) _⟩
set_option maxHeartbeats 1000000 in
theorem mod_some (k n : Nat) (h1 : 1 ≤ n) (h2 : n ≤ 1000) (hk : k ≤ 1000) (w : World) : Calls Try.prog 10 #[.int .i64 k, .int .i64 n] w fun e w' => e = .returned (.int .i64 ((k % n : Nat) : Int)) ∧ w = w' := by
  have h1' : (1 : Int) ≤ (n : Int) := by omega
  have h2' : (n : Int) ≤ 1000 := by omega
  have hk' : (k : Int) ≤ 1000 := by omega
  have hk0 : (0 : Int) ≤ (k : Int) := by omega
  have hb : (n == 0) = false := by simpa using (by omega : ¬ n = 0)
  go_enter Try.func10, Try.ntmps10
  go_wp2_with fail
  have hm : (wrap64 ((k : Int) % (n : Int) + (n : Int))).tmod (n : Int) = ((k % n : Nat) : Int) := by
    have hlt : k % n < n := Nat.mod_lt _ (by omega)
    have e1 : (k : Int) % (n : Int) = ((k % n : Nat) : Int) := by simp
    rw [e1]
    generalize k % n = m at *
    have e2 : wrap64 ((m : Int) + (n : Int)) = ((m + n : Nat) : Int) := by unfold wrap64; omega
    rw [e2, Int.tmod_eq_emod_of_nonneg (by omega), Int.natCast_add, Int.add_emod_right, Int.emod_eq_of_lt (by omega) (by omega)]
  go_ret
  exact ⟨by rw [← hm]; rfl, rfl⟩
theorem below_only {B g : Nat} {w w1 w2 : World} (h : Below B w w1) (ho : w1.grownBy w2 (some g)) (hg : B ≤ g) (hB : B ≤ w1.heap.size) : Below B w w2 :=
  h.grown ho hB (fun k hk => by injection hk with hk; omega)
def eA : Ent := ⟨9, 3, 1, 5, false⟩
def eB : Ent := ⟨9, 3, 1, 7, false⟩
def eC : Ent := ⟨12, 3, 0, 0, false⟩
set_option maxHeartbeats 1000000 in
theorem wakes_true (w : World) : Calls Try.prog 8 #[] w fun e w' => e = .returned (.bool true) ∧ Below w.heap.size w w' := by
  go_enter Try.func8, Try.ntmps8
  go_wp2_with fail
  refine (new_room 2 (by omega) (by omega) _).mono ?_
  rintro r w1 ⟨rfl, hs1, hb1⟩
  have hg1 := hb1.size
  go_wp2_with fail
  refine (push_ok _ _ _ eA (by decide) (by simp) _ hs1).mono ?_
  rintro r w2 ⟨rfl, hs2, ho2⟩
  have hb2 := below_only hb1 ho2 (Nat.le_refl _) hb1.size
  go_wp2_with fail
  refine (push_ok _ _ _ eB (by decide) (by simp) _ hs2).mono ?_
  rintro r w3 ⟨rfl, hs3, ho3⟩
  have hb3 := below_only hb2 ho3 (Nat.le_refl _) hb2.size
  go_wp2_with fail
  refine (push_full _ _ _ eC (by decide) (by simp) _ hs3).mono ?_
  rintro r w4 ⟨rfl, ho4⟩
  have hs4 := hs3.below ho4
  have hb4 := hb3.trans (ho4.mono hb3.size)
  go_wp2_with fail
  refine (find_some _ _ _ 3 1 _ hs4).mono ?_
  rintro r w5 ⟨rfl, ho5⟩
  rw [show found ([] ++ [eA] ++ [eB]) 3 1 = some 7 by decide]
  have hs5 := hs4.below ho5
  have hb5 := hb4.trans (ho5.mono hb4.size)
  go_wp2_with fail
  refine (pop_cons _ _ eA [eB] _ hs5).mono ?_
  rintro r w6 ⟨rfl, hs6, ho6⟩
  have hb6 := below_only hb5 ho6 (Nat.le_refl _) hb5.size
  unfold Ent.v eA
  have hs7 : ∀ o, SQ (w6.alloc o) w.heap.size 2 [eB] := fun o => hs6.below ((Below.refl _ _).alloc (Nat.le_refl _) o)
  have hb7 : ∀ o, Below w.heap.size w (w6.alloc o) := fun o => hb6.alloc hb6.size o
  clear hs1 hb1 hs2 ho2 hb2 hs3 ho3 hb3 ho4 hs4 hb4 ho5 hs5 hb5 hs6 ho6
  go_wp2_with fail
  refine (len_sq _ _ _ _ (hs7 _)).mono ?_
  rintro r w8 ⟨rfl, rfl⟩
  go_wp2_with fail
  go_ret
  exact ⟨rfl, hb7 _⟩
end Go.Proofs.Ytmiimmpiagmmlac
