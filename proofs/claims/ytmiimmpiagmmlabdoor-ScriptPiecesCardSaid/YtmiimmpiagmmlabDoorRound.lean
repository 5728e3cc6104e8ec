/-
  The contract of script.Round: the acts of a round of any configuration, in new memory. No conditions.
-/
import Derived.Test.YtmiimmpiagmmlabDoorEnc
import Derived.BigRegion
namespace Go.Proofs.YtmiimmpiagmmlabDoor
open Go.RowKit
set_option linter.unusedVariables false
def coreActs (i : Nat) : List A3 := [⟨1, i, 0⟩, ⟨2, i, 0⟩, ⟨3, i, 0⟩, ⟨4, i, 0⟩, ⟨5, i, 0⟩]
def lineActs (i : Nat) : List A3 := [⟨6, 0, i⟩, ⟨9, 0, i⟩]
def roundC (n : Nat) : List A3 := (List.range n).flatMap coreActs
def roundN (n : Nat) : List A3 := (List.range n).flatMap lineActs
theorem roundC_succ (n : Nat) : roundC (n + 1) = roundC n ++ coreActs n := by simp [roundC, List.range_succ]
theorem roundN_succ (n : Nat) : roundN (n + 1) = roundN n ++ lineActs n := by simp [roundN, List.range_succ]
theorem roundC_length (n : Nat) : (roundC n).length = 5 * n := by
  induction n with
  | zero => rfl
  | succ n ih => rw [roundC_succ, List.length_append, ih]; simp [coreActs]; omega
theorem roundN_length (n : Nat) : (roundN n).length = 2 * n := by
  induction n with
  | zero => rfl
  | succ n ih => rw [roundN_succ, List.length_append, ih]; simp [lineActs]; omega
/-- The acts of a round. -/
def roundL (cores lines : Int) : List A3 := if 1 ≤ cores ∧ cores ≤ 8 ∧ 1 ≤ lines ∧ lines ≤ 64 then roundC cores.toNat ++ roundN lines.toNat else []
def cfgV (cores lines a b c d e : Int) : Value := .agg #[.int .i64 cores, .int .i64 lines, .int .i64 a, .int .i64 b, .int .i64 c, .int .i64 d, .int .i64 e]
set_option maxHeartbeats 2000000 in
theorem round_out (cores lines a b c d e : Int) (h : ¬ (1 ≤ cores ∧ cores ≤ 8 ∧ 1 ≤ lines ∧ lines ≤ 64)) (w : World) :
    Calls Tryd.prog 15 #[.agg #[.int .i64 cores, .int .i64 lines, .int .i64 a, .int .i64 b, .int .i64 c, .int .i64 d, .int .i64 e]] w fun e w' => e = .returned (.slice none 0 0) ∧ Below w.heap.size w w' := by
  have fin : ∀ o : Obj, Below w.heap.size w (w.alloc o) := fun o => (Below.refl _ _).alloc (Nat.le_refl _) _
  have H := Lib.hid h; clear h
  by_cases h1 : cores < 1
  · go_enter Tryd.func15, Tryd.ntmps15
    go_wp2_with fail
    go_ret
    exact ⟨rfl, fin _⟩
  · by_cases h2 : 8 < cores
    · go_enter Tryd.func15, Tryd.ntmps15
      go_wp2_with fail
      go_ret
      exact ⟨rfl, fin _⟩
    · by_cases h3 : lines < 1
      · go_enter Tryd.func15, Tryd.ntmps15
        go_wp2_with fail
        go_ret
        exact ⟨rfl, fin _⟩
      · have h4 : 64 < lines := by have := H.out; omega
        go_enter Tryd.func15, Tryd.ntmps15
        go_wp2_with fail
        go_ret
        exact ⟨rfl, fin _⟩
theorem run_kinds0 (w : World) : (Instr.index 44 (.agg #[.int .i64 1, .int .i64 2, .int .i64 3, .int .i64 4, .int .i64 5]) (.int .i64 ((0 : Nat) : Int))).run Tryd.prog w = .ok (.int .i64 (((0 : Nat) : Int) + 1)) w := by kernel_rfl
theorem run_kinds1 (w : World) : (Instr.index 44 (.agg #[.int .i64 1, .int .i64 2, .int .i64 3, .int .i64 4, .int .i64 5]) (.int .i64 ((1 : Nat) : Int))).run Tryd.prog w = .ok (.int .i64 (((1 : Nat) : Int) + 1)) w := by kernel_rfl
theorem run_kinds2 (w : World) : (Instr.index 44 (.agg #[.int .i64 1, .int .i64 2, .int .i64 3, .int .i64 4, .int .i64 5]) (.int .i64 ((2 : Nat) : Int))).run Tryd.prog w = .ok (.int .i64 (((2 : Nat) : Int) + 1)) w := by kernel_rfl
theorem run_kinds3 (w : World) : (Instr.index 44 (.agg #[.int .i64 1, .int .i64 2, .int .i64 3, .int .i64 4, .int .i64 5]) (.int .i64 ((3 : Nat) : Int))).run Tryd.prog w = .ok (.int .i64 (((3 : Nat) : Int) + 1)) w := by kernel_rfl
theorem run_kinds4 (w : World) : (Instr.index 44 (.agg #[.int .i64 1, .int .i64 2, .int .i64 3, .int .i64 4, .int .i64 5]) (.int .i64 ((4 : Nat) : Int))).run Tryd.prog w = .ok (.int .i64 (((4 : Nat) : Int) + 1)) w := by kernel_rfl
theorem run_kinds (k : Nat) (hk : k < 5) (w : World) : (Instr.index 44 (.agg #[.int .i64 1, .int .i64 2, .int .i64 3, .int .i64 4, .int .i64 5]) (.int .i64 (k : Int))).run Tryd.prog w = .ok (.int .i64 ((k : Int) + 1)) w := by
  have hk' : k = 0 ∨ k = 1 ∨ k = 2 ∨ k = 3 ∨ k = 4 := by omega
  rcases hk' with rfl | rfl | rfl | rfl | rfl
  · exact run_kinds0 w
  · exact run_kinds1 w
  · exact run_kinds2 w
  · exact run_kinds3 w
  · exact run_kinds4 w
theorem coreActs_take (j k : Nat) (hk : k < 5) : (coreActs j).take (k + 1) = (coreActs j).take k ++ [⟨(k : Int) + 1, j, 0⟩] := by
  have hk' : k = 0 ∨ k = 1 ∨ k = 2 ∨ k = 3 ∨ k = 4 := by omega
  rcases hk' with rfl | rfl | rfl | rfl | rfl <;> rfl
set_option maxHeartbeats 4000000 in
theorem round_in (n m : Nat) (a b c d e : Int) (h1 : 1 ≤ (n:Int)) (h2 : (n:Int) ≤ 8) (h3 : 1 ≤ (m:Int)) (h4 : (m:Int) ≤ 64) (w : World) :
    Calls Tryd.prog 15 #[.agg #[.int .i64 n, .int .i64 m, .int .i64 a, .int .i64 b, .int .i64 c, .int .i64 d, .int .i64 e]] w fun e w' => ∃ v, e = .returned v ∧ w'.ownsRow (w.heap.size + 1) 31 3 v (5 * n + 2 * m) (rowOf (roundC n ++ roundN m)) ∧ Below w.heap.size w w' := by
  obtain ⟨i0, hi0, hz0, hz1, hz2⟩ := info_parts info31
  go_enter Tryd.func15, Tryd.ntmps15
  go_wp2_with fail
  generalize hW0 : w.alloc (.cells #[.int .i64 (n:Int), .int .i64 (m:Int), .int .i64 a, .int .i64 b, .int .i64 c, .int .i64 d, .int .i64 e] 36) = W0
  have hs0 : W0.heap.size = w.heap.size + 1 := by rw [← hW0]; simp
  have hc0 : W0.cell? ⟨w.heap.size, 1, none⟩ = some (.int .i64 m) := by rw [← hW0]; simp
  have hb0 : Below w.heap.size w W0 := by rw [← hW0]; exact (Below.refl _ _).alloc (Nat.le_refl _) _
  have HS0 := Lib.hid hs0
  have HC0 := Lib.hid hc0
  clear hW0 hs0 hc0
  go_loopw [3, 28] (fun v i W => ∃ j : Nat, (j : Int) ≤ n ∧ i = .int .i64 j ∧ W.ownsRow (w.heap.size + 1) 31 3 v (5 * j) (rowOf (roundC j)) ∧ Below (w.heap.size + 1) W0 W) (fun _ i _ => n - (intOf i).toNat)
  case atStart => exact ⟨0, by omega, rfl, own_nil _ _ _ _, Below.refl _ _⟩
  case round =>
    obtain ⟨j, hj, rfl, hown, hbel⟩ := hrel
    by_cases hlt : (j : Int) < n
    · go_wp2_with fail
      obtain ⟨wo, rfl⟩ : ∃ wo : World, wo = wr := ⟨_, rfl⟩
      go_loopw [3, 32] (fun v i W => ∃ k : Nat, (k : Int) ≤ 5 ∧ i = .int .i64 k ∧ W.ownsRow (w.heap.size + 1) 31 3 v (5 * j + k) (rowOf (roundC j ++ (coreActs j).take k)) ∧ Below (w.heap.size + 1) W0 W) (fun _ i _ => 5 - (intOf i).toNat)
      case atStart => exact ⟨0, by omega, rfl, by simpa using hown, hbel⟩
      case round =>
        clear hown hbel
        obtain ⟨k, hk, rfl, hown, hbel⟩ := hrel
        have hsz : w.heap.size + 1 ≤ wr.heap.size := by have := hbel.size; rw [HS0.out] at this; exact this
        by_cases hlt5 : (k : Int) < 5
        · have hidx := run_kinds k (by omega)
          have htake := Lib.hid (coreActs_take j k (by omega))
          have hj8 : (j : Int) ≤ 8 := by omega
          go_wp2_with (at_builtin; refine wpList_append_lies _ rfl _ _ _ rfl (w.heap.size + 1) 31 i0 _ 3 24 Tryd.underlying22 hi0 hz0 hz1 hz2 rfl (by omega) _ (5 * j + k) (rowOf (roundC j ++ (coreActs j).take k)) rfl (hown.alloc _) ⟨wr.heap.size, 0, none⟩ 1 1 [.int .i64 ((k : Int) + 1), .int .i64 j, .int .i64 0] rfl rfl ?c1 ?c2 (by omega) ?c3 ?c4 ?c5 _ rfl ?_)
          case c1 => exact World.news_of_block (heap_alloc_new wr _)
          case c2 => simp [Value.oneCell']
          case c3 => unfold maxLen; omega
          case c4 => omega
          case c5 => exact Nat.le_trans hsz (by simp)
          intro g cap w2 hown2 hgrow hat hlt
          have hb3 : Below (w.heap.size + 1) W0 w2 := (hbel.alloc hsz _).grown hgrow (Nat.le_trans hsz (by simp)) (own_ge hown)
          have hx : w2.ownsRow (w.heap.size + 1) 31 3 (.slice (some ⟨g, 0, none⟩) (5 * j + k + 1) cap) (5 * j + (k + 1)) (rowOf (roundC j ++ (coreActs j).take (k + 1))) := by
            rw [htake.out, ← List.append_assoc, rowOf_append, rowOf_one]
            exact hown2
          clear hgrow hat hlt hown hbel hidx htake hown2 hsz
          go_wp2_with fail
          go_roundw
          case rel => exact ⟨k + 1, by omega, by go_num, hx, hb3⟩
          case measure => simp [intOf]; omega
        · have hk5 : k = 5 := by omega
          have hx : wr.ownsRow (w.heap.size + 1) 31 3 u3 (5 * (j + 1)) (rowOf (roundC (j + 1))) := by
            rw [roundC_succ]
            rw [hk5] at hown
            exact hown
          clear hown hk5
          go_wp2_with fail
          go_roundw
          case rel => exact ⟨j + 1, by omega, by go_num, hx, hbel⟩
          case measure => simp [intOf]; omega
    · have hjn : j = n := by omega
      have hcell : wr.cell? ⟨w.heap.size, 1, none⟩ = some (.int .i64 m) := by rw [hbel.cell (p := ⟨w.heap.size, 1, none⟩) (by simp)]; exact HC0.out
      go_wp2_with fail
      obtain ⟨wo, rfl⟩ : ∃ wo : World, wo = wr := ⟨_, rfl⟩
      go_loopw [3, 45] (fun v i W => ∃ k : Nat, (k : Int) ≤ m ∧ i = .int .i64 k ∧ W.ownsRow (w.heap.size + 1) 31 3 v (5 * n + 2 * k) (rowOf (roundC n ++ roundN k)) ∧ Below (w.heap.size + 1) W0 W) (fun _ i _ => m - (intOf i).toNat)
      case atStart => exact ⟨0, by omega, rfl, by rw [← hjn]; simpa [roundN] using hown, hbel⟩
      case round =>
        clear hown hbel hcell
        obtain ⟨k, hk, rfl, hown, hbel⟩ := hrel
        have hsz : w.heap.size + 1 ≤ wr.heap.size := by have := hbel.size; rw [HS0.out] at this; exact this
        by_cases hltm : (k : Int) < m
        · go_wp2_with (at_builtin; refine wpList_append_lies _ rfl _ _ _ rfl (w.heap.size + 1) 31 i0 _ 3 24 Tryd.underlying22 hi0 hz0 hz1 hz2 rfl (by omega) _ (5 * n + 2 * k) (rowOf (roundC n ++ roundN k)) rfl (hown.alloc _) ⟨wr.heap.size, 0, none⟩ 2 2 [.int .i64 6, .int .i64 0, .int .i64 k, .int .i64 9, .int .i64 0, .int .i64 k] rfl rfl ?c1 ?c2 (by omega) ?c3 ?c4 ?c5 _ rfl ?_)
          case c1 => exact World.news_of_block (heap_alloc_new wr _)
          case c2 => simp [Value.oneCell']
          case c3 => unfold maxLen; omega
          case c4 => omega
          case c5 => exact Nat.le_trans hsz (by simp)
          intro g cap w2 hown2 hgrow hat hlt
          have hb3 : Below (w.heap.size + 1) W0 w2 := (hbel.alloc hsz _).grown hgrow (Nat.le_trans hsz (by simp)) (own_ge hown)
          have hx : w2.ownsRow (w.heap.size + 1) 31 3 (.slice (some ⟨g, 0, none⟩) (5 * n + 2 * k + 2) cap) (5 * n + 2 * (k + 1)) (rowOf (roundC n ++ roundN (k + 1))) := by
            rw [roundN_succ, ← List.append_assoc, rowOf_append (roundC n ++ roundN k)]
            exact hown2
          clear hgrow hat hlt hown hbel hown2 hsz
          go_wp2_with fail
          go_roundw
          case rel => exact ⟨k + 1, by omega, by go_num, hx, hb3⟩
          case measure => simp [intOf]; omega
        · have hkm : k = m := by omega
          have hx : wr.ownsRow (w.heap.size + 1) 31 3 u3 (5 * n + 2 * m) (rowOf (roundC n ++ roundN m)) := by
            rw [← hkm]; exact hown
          clear hown hkm
          go_wp2_with fail
          go_ret
          exact ⟨_, rfl, hx, hb0.trans (hbel.mono (by omega))⟩
theorem own_base {w : World} {base base' : Nat} {e : TypeId} {size : Nat} {v : Value} {n : Nat} {xs : List Value} (h : w.ownsRow base e size v n xs) (hb : base' ≤ base) : w.ownsRow base' e size v n xs := by
  refine ⟨h.1, ?_⟩
  rcases h.2 with h2 | ⟨g, cap, cur, hv, hg, r⟩
  · exact .inl h2
  · exact .inr ⟨g, cap, cur, hv, Nat.le_trans hb hg, r⟩
theorem roundL_in {n m : Nat} (h1 : 1 ≤ (n:Int)) (h2 : (n:Int) ≤ 8) (h3 : 1 ≤ (m:Int)) (h4 : (m:Int) ≤ 64) : roundL n m = roundC n ++ roundN m := by
  unfold roundL; rw [if_pos ⟨h1, h2, h3, h4⟩]; rfl
theorem roundL_out {n m : Int} (h : ¬ (1 ≤ n ∧ n ≤ 8 ∧ 1 ≤ m ∧ m ≤ 64)) : roundL n m = [] := by unfold roundL; rw [if_neg h]
theorem round_any (cores lines a b c d e : Int) (w : World) :
    Calls Tryd.prog 15 #[.agg #[.int .i64 cores, .int .i64 lines, .int .i64 a, .int .i64 b, .int .i64 c, .int .i64 d, .int .i64 e]] w fun e w' => ∃ v, e = .returned v ∧ w'.ownsRow w.heap.size 31 3 v (roundL cores lines).length (rowOf (roundL cores lines)) ∧ Below w.heap.size w w' := by
  by_cases h : 1 ≤ cores ∧ cores ≤ 8 ∧ 1 ≤ lines ∧ lines ≤ 64
  · obtain ⟨h1, h2, h3, h4⟩ := h
    obtain ⟨n, rfl⟩ := Int.eq_ofNat_of_zero_le (show 0 ≤ cores by omega)
    obtain ⟨m, rfl⟩ := Int.eq_ofNat_of_zero_le (show 0 ≤ lines by omega)
    rw [roundL_in h1 h2 h3 h4, List.length_append, roundC_length, roundN_length]
    exact (round_in n m a b c d e h1 h2 h3 h4 w).mono fun _ _ ⟨v, he, ho, hb⟩ => ⟨v, he, own_base ho (by omega), hb⟩
  · rw [roundL_out h]
    exact (round_out cores lines a b c d e h w).mono fun _ _ ⟨he, hb⟩ => ⟨_, he, own_nil _ _ _ _, hb⟩
end Go.Proofs.YtmiimmpiagmmlabDoor
