/-
  Plain facts on the words: what alu.Do undoes, how shifts add up. No program in sight but the value functions. No conditions but the range of uint64.
-/
import Derived.Test.YtmiimmpiagmmlaaRef
import Derived.OpenShut
namespace Go.Proofs.Ytmiimmpiagmmlaa
open Go.RowKit
set_option linter.unusedVariables false
theorem doV_range (op b c : Int) (hb : 0 ≤ b ∧ b < 18446744073709551616) : 0 ≤ doV op b c ∧ doV op b c < 18446744073709551616 := by
  have key : ∀ x : Int, (Lit.int .u64 x).wf = true → 0 ≤ x ∧ x < 18446744073709551616 := fun x h => by have := bounds_u64 h; omega
  unfold doV
  split
  · exact key _ (wf_wrap _ _)
  · split
    · exact key _ (wf_wrap _ _)
    · split
      · exact key _ (wf_bits _ _ _ _)
      · split
        · exact key _ (wf_bits _ _ _ _)
        · split
          · exact key _ (wf_wrap _ _)
          · split
            · have h0 : 0 ≤ b / 2 ^ (c % 64).toNat := Int.ediv_nonneg hb.1 (Int.le_of_lt (Int.pow_pos (by omega)))
              have h1 : b / 2 ^ (c % 64).toNat ≤ b := Int.ediv_le_self _ hb.1
              omega
            · omega
theorem add_sub (a b : Int) (ha : 0 ≤ a ∧ a < 18446744073709551616) : doV 3 (doV 2 a b) b = a := by
  show IntKind.u64.wrap (IntKind.u64.wrap (a + b) - b) = a
  simp only [IntKind.wrap_u64]
  omega
theorem xor_xor (a b : Int) (ha : 0 ≤ a ∧ a < 18446744073709551616) (hb : 0 ≤ b ∧ b < 18446744073709551616) : doV 5 (doV 5 a b) b = a := by
  show bits .xor .u64 (bits .xor .u64 a b) b = a
  obtain ⟨x, rfl⟩ := Int.eq_ofNat_of_zero_le ha.1
  obtain ⟨y, rfl⟩ := Int.eq_ofNat_of_zero_le hb.1
  have hx : x < 18446744073709551616 := by omega
  have hy : y < 18446744073709551616 := by omega
  have hxy : x ^^^ y < 2 ^ 64 := Nat.xor_lt_two_pow (by omega) (by omega)
  rw [u64_xor_nat x y hx hy, u64_xor_nat (x ^^^ y) y (by omega) hy, Nat.xor_assoc, Nat.xor_self, Nat.xor_zero]
theorem xor_self (a : Int) (ha : 0 ≤ a ∧ a < 18446744073709551616) : doV 5 a a = 0 := by
  show bits .xor .u64 a a = 0
  obtain ⟨x, rfl⟩ := Int.eq_ofNat_of_zero_le ha.1
  have hx : x < 18446744073709551616 := by omega
  rw [u64_xor_nat x x hx hx, Nat.xor_self]
  rfl
theorem and_self (a : Int) (ha : 0 ≤ a ∧ a < 18446744073709551616) : doV 4 a a = a := by
  show bits .and .u64 a a = a
  obtain ⟨x, rfl⟩ := Int.eq_ofNat_of_zero_le ha.1
  have hx : x < 18446744073709551616 := by omega
  rw [u64_and_nat x x hx hx, Nat.and_self]
theorem shl_64 (a : Int) (ha : 0 ≤ a ∧ a < 18446744073709551616) : doV 6 a 64 = a := by
  show IntKind.u64.wrap (a * 2 ^ 0) = a
  simp only [IntKind.wrap_u64, Int.pow_zero, Int.mul_one]
  omega
theorem goV_18 (a b : Int) : goV 18 a b = (a == b) := rfl
theorem goV_19 (a b : Int) : goV 19 a b = (a != b) := rfl
theorem goV_20 (a b : Int) : goV 20 a b = decide (a < b) := rfl
/-- Shifted to the left by one, i times. -/
def shls (a : Int) : Nat → Int
  | 0 => a
  | i + 1 => doV 6 (shls a i) 1
def shrs (a : Int) : Nat → Int
  | 0 => a
  | i + 1 => doV 7 (shrs a i) 1
theorem shls_range (a : Int) (ha : 0 ≤ a ∧ a < 18446744073709551616) : ∀ i, 0 ≤ shls a i ∧ shls a i < 18446744073709551616
  | 0 => ha
  | i + 1 => doV_range _ _ _ (shls_range a ha i)
theorem shrs_range (a : Int) (ha : 0 ≤ a ∧ a < 18446744073709551616) : ∀ i, 0 ≤ shrs a i ∧ shrs a i < 18446744073709551616
  | 0 => ha
  | i + 1 => doV_range _ _ _ (shrs_range a ha i)
theorem shls_eq (a : Int) (ha : 0 ≤ a ∧ a < 18446744073709551616) : ∀ i, shls a i = IntKind.u64.wrap (a * 2 ^ i)
  | 0 => by simp only [shls, IntKind.wrap_u64, Int.pow_zero, Int.mul_one]; omega
  | i + 1 => by
    show IntKind.u64.wrap (shls a i * 2 ^ 1) = _
    rw [shls_eq a ha i, ← shl_step a i]
    rfl
theorem shrs_eq (a : Int) (ha : 0 ≤ a ∧ a < 18446744073709551616) : ∀ i, shrs a i = a / 2 ^ i
  | 0 => by simp [shrs]
  | i + 1 => by
    show shrs a i / 2 ^ 1 = _
    rw [shrs_eq a ha i, ← shr_step a i]
    rfl
theorem shl_all (a n : Int) (ha : 0 ≤ a ∧ a < 18446744073709551616) (h0 : 0 ≤ n) (h1 : n < 64) : doV 6 a n = shls a n.toNat := by
  rw [shls_eq a ha]
  show IntKind.u64.wrap (a * 2 ^ (n % 64).toNat) = _
  rw [show n % 64 = n by omega]
theorem shr_all (a n : Int) (ha : 0 ≤ a ∧ a < 18446744073709551616) (h0 : 0 ≤ n) (h1 : n < 64) : doV 7 a (n + 64) = shrs a n.toNat := by
  rw [shrs_eq a ha]
  show a / 2 ^ ((n + 64) % 64).toNat = _
  rw [show (n + 64) % 64 = n by omega]
theorem shr_shl (a k : Int) : doV 6 (doV 7 a k) k = IntKind.u64.wrap (a / 2 ^ (k % 64).toNat * 2 ^ (k % 64).toNat) := rfl
end Go.Proofs.Ytmiimmpiagmmlaa
