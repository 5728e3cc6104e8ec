/-
  The contracts of the reference of layer 11 and of the laws' wakes: what they return for any words, and that they only make new memory. Conditions: the words are in uint64's range.
-/
import Derived.Test.YtmiimmpiagmmlaaAlu
namespace Go.Proofs.Ytmiimmpiagmmlaa
open Go.RowKit
set_option linter.unusedVariables false

def sumV (b i : Int) : Int := IntKind.u64.wrap (b + IntKind.u64.wrap i)
set_option maxHeartbeats 400000 in
theorem sum_any (b i : Int) (w : World) : Calls Try.prog 9 #[.int .u64 b, .int .i64 i] w fun e w' => e = .returned (.int .u64 (sumV b i)) ∧ w = w' := by
  go_enter Try.func9, Try.ntmps9
  go_wp2
  go_ret
  exact ⟨rfl, rfl⟩

set_option maxHeartbeats 400000 in
theorem refgoes_any (op a b : Int) (w : World) : Calls Try.prog 12 #[.int .i64 op, .int .u64 a, .int .u64 b] w fun e w' => e = .returned (.agg #[.bool (goV op a b), .bool (goOk op)]) ∧ Mk w w' := by
  rcases Decidable.em (17 ≤ op ∧ op ≤ 20) with h | h
  · have h' : op = 17 ∨ op = 18 ∨ op = 19 ∨ op = 20 := by omega
    rcases h' with rfl | rfl | rfl | rfl
    all_goals
      clear h
      go_enter Try.func12, Try.ntmps12
      go_wp2
      refine bodyPost_ret (v := .agg #[_, .bool true]) (by simp [results, Try.results12, go_sem]; rfl) rfl ⟨rfl, (Mk.refl w).alloc _ _⟩
  · have h17 : (op == 17) = false := by simpa using (by omega : ¬ op = 17)
    have h18 : (op == 18) = false := by simpa using (by omega : ¬ op = 18)
    have h19 : (op == 19) = false := by simpa using (by omega : ¬ op = 19)
    have h20 : (op == 20) = false := by simpa using (by omega : ¬ op = 20)
    have e1 : goV op a b = false := by
      unfold goV
      rw [if_neg (by omega), if_neg (by omega), if_neg (by omega), if_neg (by omega)]
    have e2 : goOk op = false := by simp only [goOk, h, decide_false]
    rw [e1, e2]
    clear h e1 e2
    go_enter Try.func12, Try.ntmps12
    go_wp2
    exact bodyPost_ret (v := .agg #[.bool false, .bool false]) (by simp [results, Try.results12, go_sem]) rfl ⟨rfl, (Mk.refl w).alloc _ _⟩

set_option maxHeartbeats 400000 in
theorem wakes_any (w : World) : Calls Try.prog 10 #[] w fun e w' => e = .returned (.bool true) ∧ Mk w w' := by
  have b1 : (0:Int) ≤ 1 ∧ (1:Int) < 18446744073709551616 := by omega
  have b65 : (0:Int) ≤ 65 ∧ (65:Int) < 18446744073709551616 := by omega
  go_enter Try.func10, Try.ntmps10
  go_wp2_with fail
  refine (do_any _ _ _ _ b1 b65).mono ?_
  rintro e w1 ⟨rfl, hm1⟩
  go_wp2_with fail
  refine (goes_any _ _ _ _).mono ?_
  rintro e w1 ⟨rfl, rfl⟩
  go_wp2_with fail
  refine (do_any _ _ _ _ b1 b1).mono ?_
  rintro e w2 ⟨rfl, hm2⟩
  go_wp2_with fail
  refine (sum_any _ _ _).mono ?_
  rintro e w3 ⟨rfl, rfl⟩
  go_wp2_with fail
  go_ret
  have hs : (sumV 5 (-6) == 18446744073709551615) = true := by decide
  exact ⟨by show Ending.returned (.bool (sumV 5 (-6) == 18446744073709551615)) = _; rw [hs], hm1.trans hm2⟩

theorem shl_step (b : Int) (k : Nat) : IntKind.u64.wrap (IntKind.u64.wrap (b * 2 ^ k) * 2) = IntKind.u64.wrap (b * 2 ^ (k + 1)) := by
  have e : b * 2 ^ (k + 1) = b * 2 ^ k * 2 := by rw [Int.pow_succ, Int.mul_assoc]
  rw [e]
  generalize b * 2 ^ k = x
  simp only [IntKind.wrap_u64]
  omega
theorem shr_step (b : Int) (k : Nat) : b / 2 ^ k / 2 = b / 2 ^ (k + 1) := by
  rw [Int.pow_succ, Int.ediv_ediv_of_nonneg]
  exact Int.le_of_lt (Int.pow_pos (by omega))

set_option maxHeartbeats 400000 in
theorem refdo_2 (b c : Int) (w : World) : Calls Try.prog 8 #[.int .i64 2, .int .u64 b, .int .u64 c] w fun e w' => e = .returned (.agg #[.int .u64 (IntKind.u64.wrap (b + c)), .bool true]) ∧ Mk w w' := by
  go_enter Try.func8, Try.ntmps8
  go_wp2
  exact bodyPost_ret (v := .agg #[.int .u64 (IntKind.u64.wrap (b + c)), .bool true]) (by simp [results, Try.results8, go_sem]) rfl ⟨rfl, (Mk.refl w).alloc _ _⟩

set_option maxHeartbeats 400000 in
theorem refdo_3 (b c : Int) (w : World) : Calls Try.prog 8 #[.int .i64 3, .int .u64 b, .int .u64 c] w fun e w' => e = .returned (.agg #[.int .u64 (IntKind.u64.wrap (b - c)), .bool true]) ∧ Mk w w' := by
  go_enter Try.func8, Try.ntmps8
  go_wp2
  exact bodyPost_ret (v := .agg #[.int .u64 (IntKind.u64.wrap (b - c)), .bool true]) (by simp [results, Try.results8, go_sem]) rfl ⟨rfl, (Mk.refl w).alloc _ _⟩

set_option maxHeartbeats 400000 in
theorem refdo_4 (b c : Int) (w : World) : Calls Try.prog 8 #[.int .i64 4, .int .u64 b, .int .u64 c] w fun e w' => e = .returned (.agg #[.int .u64 (bits .and .u64 b c), .bool true]) ∧ Mk w w' := by
  go_enter Try.func8, Try.ntmps8
  go_wp2
  exact bodyPost_ret (v := .agg #[.int .u64 (bits .and .u64 b c), .bool true]) (by simp [results, Try.results8, go_sem]) rfl ⟨rfl, (Mk.refl w).alloc _ _⟩

set_option maxHeartbeats 400000 in
theorem refdo_5 (b c : Int) (w : World) : Calls Try.prog 8 #[.int .i64 5, .int .u64 b, .int .u64 c] w fun e w' => e = .returned (.agg #[.int .u64 (bits .xor .u64 b c), .bool true]) ∧ Mk w w' := by
  go_enter Try.func8, Try.ntmps8
  go_wp2
  exact bodyPost_ret (v := .agg #[.int .u64 (bits .xor .u64 b c), .bool true]) (by simp [results, Try.results8, go_sem]) rfl ⟨rfl, (Mk.refl w).alloc _ _⟩


theorem shr_walk (b : Int) (hb : 0 ≤ b ∧ b < 18446744073709551616) (k : Nat) : IntKind.u64.wrap ((b / 2 ^ k).tdiv 2) = b / 2 ^ (k + 1) := by
  have h0 : 0 ≤ b / 2 ^ k := Int.ediv_nonneg hb.1 (Int.le_of_lt (Int.pow_pos (by omega)))
  have h1 : b / 2 ^ k ≤ b := Int.ediv_le_self _ hb.1
  rw [← shr_step]
  generalize b / 2 ^ k = x at *
  rw [Int.tdiv_eq_ediv_of_nonneg h0]
  simp only [IntKind.wrap_u64]
  omega

set_option maxHeartbeats 1000000 in
theorem refdo_6 (b c : Int) (w : World) (hb : 0 ≤ b ∧ b < 18446744073709551616) (hc : 0 ≤ c ∧ c < 18446744073709551616) : Calls Try.prog 8 #[.int .i64 6, .int .u64 b, .int .u64 c] w fun e w' => e = .returned (.agg #[.int .u64 (IntKind.u64.wrap (b * 2 ^ (c % 64).toNat)), .bool true]) ∧ Mk w w' := by
  have hn0 : 0 ≤ c % 64 := by omega
  have hn1 : c % 64 < 64 := by omega
  have hst := shl_step b
  go_enter Try.func8, Try.ntmps8
  go_wp2
  go_loop [1, 7] (fun x i => ∃ k : Nat, (k : Int) ≤ c % 64 ∧ i = .int .u64 k ∧ x = .int .u64 (IntKind.u64.wrap (b * 2 ^ k))) (fun _ i => (c % 64).toNat - (intOf i).toNat)
  case atStart =>
    refine ⟨0, by omega, rfl, ?_⟩
    congr 1
    simp only [Int.pow_zero, Int.mul_one, IntKind.wrap_u64]
    omega
  case round =>
    obtain ⟨k, hk, rfl, rfl⟩ := hrel
    go_wp2
    · go_round
      case rel => exact ⟨k + 1, by omega, by go_num, rfl⟩
      case measure => simp [intOf]; omega
    · have hk2 : (c % 64).toNat = k := by omega
      exact bodyPost_ret (v := .agg #[.int .u64 (IntKind.u64.wrap (b * 2 ^ k)), .bool true]) (by simp [results, Try.results8, go_sem]) rfl ⟨by rw [hk2], (Mk.refl w).alloc _ _⟩

set_option maxHeartbeats 1000000 in
theorem refdo_7 (b c : Int) (w : World) (hb : 0 ≤ b ∧ b < 18446744073709551616) (hc : 0 ≤ c ∧ c < 18446744073709551616) : Calls Try.prog 8 #[.int .i64 7, .int .u64 b, .int .u64 c] w fun e w' => e = .returned (.agg #[.int .u64 (b / 2 ^ (c % 64).toNat), .bool true]) ∧ Mk w w' := by
  have hn0 : 0 ≤ c % 64 := by omega
  have hn1 : c % 64 < 64 := by omega
  have hst := shr_walk b hb
  go_enter Try.func8, Try.ntmps8
  go_wp2
  go_loop [1, 8] (fun x i => ∃ k : Nat, (k : Int) ≤ c % 64 ∧ i = .int .u64 k ∧ x = .int .u64 (b / 2 ^ k)) (fun _ i => (c % 64).toNat - (intOf i).toNat)
  case atStart =>
    refine ⟨0, by omega, rfl, ?_⟩
    congr 1
    simp
  case round =>
    obtain ⟨k, hk, rfl, rfl⟩ := hrel
    go_wp2
    · go_round
      case rel => exact ⟨k + 1, by omega, by go_num, rfl⟩
      case measure => simp [intOf]; omega
    · have hk2 : (c % 64).toNat = k := by omega
      exact bodyPost_ret (v := .agg #[.int .u64 (b / 2 ^ k), .bool true]) (by simp [results, Try.results8, go_sem]) rfl ⟨by rw [hk2], (Mk.refl w).alloc _ _⟩

set_option maxHeartbeats 1000000 in
theorem refdo_none (op b c : Int) (w : World) (hop : op < 2 ∨ 7 < op) : Calls Try.prog 8 #[.int .i64 op, .int .u64 b, .int .u64 c] w fun e w' => e = .returned (.agg #[.int .u64 0, .bool false]) ∧ Mk w w' := by
  have h2 : (op == 2) = false := by simpa using (by omega : ¬ op = 2)
  have h3 : (op == 3) = false := by simpa using (by omega : ¬ op = 3)
  have h4 : (op == 4) = false := by simpa using (by omega : ¬ op = 4)
  have h5 : (op == 5) = false := by simpa using (by omega : ¬ op = 5)
  have h6 : (op == 6) = false := by simpa using (by omega : ¬ op = 6)
  have h7 : (op == 7) = false := by simpa using (by omega : ¬ op = 7)
  clear hop
  go_enter Try.func8, Try.ntmps8
  go_wp2
  exact bodyPost_ret (v := .agg #[.int .u64 0, .bool false]) (by simp [results, Try.results8, go_sem]) rfl ⟨rfl, (Mk.refl w).alloc _ _⟩

theorem refdo_any (op b c : Int) (w : World) (hb : 0 ≤ b ∧ b < 18446744073709551616) (hc : 0 ≤ c ∧ c < 18446744073709551616) : Calls Try.prog 8 #[.int .i64 op, .int .u64 b, .int .u64 c] w fun e w' => e = .returned (.agg #[.int .u64 (doV op b c), .bool (doOk op)]) ∧ Mk w w' := by
  rcases Decidable.em (2 ≤ op ∧ op ≤ 7) with h | h
  · have h' : op = 2 ∨ op = 3 ∨ op = 4 ∨ op = 5 ∨ op = 6 ∨ op = 7 := by omega
    rcases h' with rfl | rfl | rfl | rfl | rfl | rfl
    · exact refdo_2 b c w
    · exact refdo_3 b c w
    · exact refdo_4 b c w
    · exact refdo_5 b c w
    · exact refdo_6 b c w hb hc
    · exact refdo_7 b c w hb hc
  · have e1 : doV op b c = 0 := by
      unfold doV
      rw [if_neg (by omega), if_neg (by omega), if_neg (by omega), if_neg (by omega), if_neg (by omega), if_neg (by omega)]
    have e2 : doOk op = false := by simp only [doOk, h, decide_false]
    rw [e1, e2]
    exact refdo_none op b c w (by omega)
end Go.Proofs.Ytmiimmpiagmmlaa
