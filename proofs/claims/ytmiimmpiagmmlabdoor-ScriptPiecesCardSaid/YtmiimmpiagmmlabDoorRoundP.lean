/-
  Plain facts on a round: which act stands at which place, that each is good, that no two are alike. No program but the value functions.
-/
import Derived.Test.YtmiimmpiagmmlabDoorBackW
import Derived.Test.YtmiimmpiagmmlabDoorRoundsW
namespace Go.Proofs.YtmiimmpiagmmlabDoor
open Go.RowKit
set_option linter.unusedVariables false
theorem roundC_get : ∀ (n i : Nat), i < 5 * n → (roundC n)[i]? = some ⟨((i % 5 : Nat) : Int) + 1, ((i / 5 : Nat) : Int), 0⟩
  | 0, i, h => by omega
  | n + 1, i, h => by
    rw [roundC_succ]
    rcases Nat.lt_or_ge i (5 * n) with hlt | hge
    · rw [List.getElem?_append_left (by rw [roundC_length]; exact hlt)]
      exact roundC_get n i hlt
    · rw [List.getElem?_append_right (by rw [roundC_length]; exact hge), roundC_length]
      have hr : i - 5 * n = 0 ∨ i - 5 * n = 1 ∨ i - 5 * n = 2 ∨ i - 5 * n = 3 ∨ i - 5 * n = 4 := by omega
      have hd : i / 5 = n := by omega
      rw [hd]
      rcases hr with hr | hr | hr | hr | hr <;> (rw [hr]; have hm : i % 5 = i - 5 * n := by omega) <;> (rw [hm, hr]; rfl)
theorem roundN_get : ∀ (n i : Nat), i < 2 * n → (roundN n)[i]? = some ⟨if i % 2 = 0 then 6 else 9, 0, ((i / 2 : Nat) : Int)⟩
  | 0, i, h => by omega
  | n + 1, i, h => by
    rw [roundN_succ]
    rcases Nat.lt_or_ge i (2 * n) with hlt | hge
    · rw [List.getElem?_append_left (by rw [roundN_length]; exact hlt)]
      exact roundN_get n i hlt
    · rw [List.getElem?_append_right (by rw [roundN_length]; exact hge), roundN_length]
      have hr : i - 2 * n = 0 ∨ i - 2 * n = 1 := by omega
      have hd : i / 2 = n := by omega
      rw [hd]
      rcases hr with hr | hr
      · have hm : i % 2 = 0 := by omega
        rw [hr, hm]; rfl
      · have hm : i % 2 = 1 := by omega
        rw [hr, hm]; rfl
/-- The act at a place of a round. -/
def actAt (n i : Nat) : A3 := if i < 5 * n then ⟨((i % 5 : Nat) : Int) + 1, ((i / 5 : Nat) : Int), 0⟩ else ⟨if (i - 5 * n) % 2 = 0 then 6 else 9, 0, (((i - 5 * n) / 2 : Nat) : Int)⟩
theorem round_get {n m i : Nat} (h : i < 5 * n + 2 * m) : (roundC n ++ roundN m)[i]? = some (actAt n i) := by
  unfold actAt
  rcases Nat.lt_or_ge i (5 * n) with hlt | hge
  · rw [List.getElem?_append_left (by rw [roundC_length]; exact hlt), if_pos hlt]
    exact roundC_get n i hlt
  · rw [List.getElem?_append_right (by rw [roundC_length]; exact hge), roundC_length, if_neg (by omega)]
    exact roundN_get m _ (by omega)
theorem actAt_ok {n m i : Nat} (hn : n ≤ 8) (hm : m ≤ 64) (h : i < 5 * n + 2 * m) : goodB (actAt n i).k (actAt n i).c (actAt n i).l = true := by
  unfold actAt
  split
  · rename_i hlt
    have h1 : i % 5 < 5 := by omega
    have h2 : i / 5 < 8 := by omega
    have hc : coreB (((i % 5 : Nat) : Int) + 1) = true := by
      unfold coreB
      rw [decide_eq_true (by omega)]; rfl
    simp only [goodB, hc, mayB]
    have e1 : decide (1 ≤ ((i % 5 : Nat) : Int) + 1 ∧ ((i % 5 : Nat) : Int) + 1 ≤ 10) = true := decide_eq_true (by omega)
    have e2 : decide (((i / 5 : Nat) : Int) < 8) = true := decide_eq_true (by omega)
    rw [e1, e2]
    by_cases h0 : i / 5 = 0
    · rw [h0]; rfl
    · have e3 : decide ((0 : Int) < ((i / 5 : Nat) : Int)) = true := decide_eq_true (by omega)
      rw [e3]; simp
  · rename_i hge
    have h2 : (i - 5 * n) / 2 < 64 := by omega
    have e2 : decide ((((i - 5 * n) / 2 : Nat) : Int) < 64) = true := decide_eq_true (by omega)
    have key : ∀ k : Int, k = 6 ∨ k = 9 → goodB k 0 (((i - 5 * n) / 2 : Nat) : Int) = true := by
      intro k hk
      have hl : lineB k = true := by rcases hk with rfl | rfl <;> rfl
      have e1 : decide (1 ≤ k ∧ k ≤ 10) = true := decide_eq_true (by omega)
      simp only [goodB, hl, mayB, e1, e2]
      by_cases h0 : (i - 5 * n) / 2 = 0
      · rw [h0]; rfl
      · have e3 : decide ((0 : Int) < (((i - 5 * n) / 2 : Nat) : Int)) = true := decide_eq_true (by omega)
        rw [e3]; simp
    apply key
    show (if (i - 5 * n) % 2 = 0 then (6 : Int) else 9) = 6 ∨ _
    split
    · exact .inl rfl
    · exact .inr (by simp)
theorem actAt_ne {n k i : Nat} (h : k < i) : (actAt n k).k ≠ (actAt n i).k ∨ (actAt n k).c ≠ (actAt n i).c ∨ (actAt n k).l ≠ (actAt n i).l := by
  unfold actAt
  by_cases hk : k < 5 * n
  · rw [if_pos hk]
    by_cases hi : i < 5 * n
    · rw [if_pos hi]
      simp only
      omega
    · rw [if_neg hi]
      left
      show ((k % 5 : Nat) : Int) + 1 ≠ if (i - 5 * n) % 2 = 0 then 6 else 9
      by_cases hp : (i - 5 * n) % 2 = 0
      · rw [if_pos hp]; omega
      · rw [if_neg hp]; omega
  · have hi : ¬ i < 5 * n := by omega
    rw [if_neg hk, if_neg hi]
    by_cases hd : (k - 5 * n) / 2 = (i - 5 * n) / 2
    · left
      show (if (k - 5 * n) % 2 = 0 then (6 : Int) else 9) ≠ if (i - 5 * n) % 2 = 0 then 6 else 9
      by_cases hp : (k - 5 * n) % 2 = 0
      · rw [if_pos hp, if_neg (by omega)]; omega
      · omega
    · right; right
      simp only
      omega
end Go.Proofs.YtmiimmpiagmmlabDoor
