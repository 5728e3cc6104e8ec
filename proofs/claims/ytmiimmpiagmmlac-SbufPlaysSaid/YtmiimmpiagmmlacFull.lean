/-
  The law SbufFull: what the call returns. Conditions stand in each statement.
-/
import Derived.Test.YtmiimmpiagmmlacWakes
namespace Go.Proofs.Ytmiimmpiagmmlac
open Go.RowKit
set_option linter.unusedVariables false
set_option linter.unusedSimpArgs false
/-- The entries that SbufFull puts in. -/
def fe (x : Int) (i : Nat) : Ent := ⟨x, i, 0, 0, false⟩
def fl (x : Int) (k : Nat) : List Ent := (List.range k).map (fe x)
theorem fl_length (x : Int) (k : Nat) : (fl x k).length = k := by simp [fl]
theorem fl_succ (x : Int) (k : Nat) : fl x (k + 1) = fl x k ++ [fe x k] := by simp [fl, List.range_succ]
theorem fe_good (x : Int) (i : Nat) (hi : i < 16) (hx : x = 14 ∨ x = 12 ∨ x = 13 ∨ x = 9) : goodE (fe x i) = true := by
  unfold goodE fe
  rcases hx with rfl | rfl | rfl | rfl <;> simp <;> omega
theorem rowE_get : ∀ (L : List Ent) (i : Nat) (e : Ent), L[i]? = some e → (rowE L)[i * 5]? = some (.int .i64 e.kind) ∧ (rowE L)[i * 5 + 1]? = some (.int .i64 e.line) ∧ (rowE L)[i * 5 + 2]? = some (.int .i64 e.word) ∧ (rowE L)[i * 5 + 3]? = some (.int .u64 e.val) ∧ (rowE L)[i * 5 + 4]? = some (.bool e.sent)
  | [], i, e, h => by simp at h
  | a :: L, 0, e, h => by
    obtain rfl : a = e := by simpa using h
    exact ⟨rfl, rfl, rfl, rfl, rfl⟩
  | a :: L, i + 1, e, h => by
    have ih := rowE_get L i e (by simpa using h)
    have hr : rowE (a :: L) = a.cells ++ rowE L := by simp [rowE]
    have hn : ∀ r, (rowE (a :: L))[(i + 1) * 5 + r]? = (rowE L)[i * 5 + r]? := fun r => by
      rw [hr, List.getElem?_append_right (by simp [Ent.cells]; omega)]
      congr 1
      simp [Ent.cells]
      omega
    exact ⟨(hn 0).trans ih.1, (hn 1).trans ih.2.1, (hn 2).trans ih.2.2.1, (hn 3).trans ih.2.2.2.1, (hn 4).trans ih.2.2.2.2⟩
/-- A new row of entries, read. -/
theorem own_read {w : World} {base : Nat} {v : Value} {L : List Ent} (h : w.ownsRow base 31 5 v L.length (rowE L)) (hn : 0 < L.length) :
    ∃ g cap, v = .slice (some ⟨g, 0, none⟩) L.length cap ∧ base ≤ g ∧ g < w.heap.size ∧ ∀ i e, L[i]? = some e → w.cell? ⟨g, i * 5, none⟩ = some (.int .i64 e.kind) ∧ w.cell? ⟨g, i * 5 + 1, none⟩ = some (.int .i64 e.line) ∧ w.cell? ⟨g, i * 5 + 2, none⟩ = some (.int .i64 e.word) ∧ w.cell? ⟨g, i * 5 + 3, none⟩ = some (.int .u64 e.val) ∧ w.cell? ⟨g, i * 5 + 4, none⟩ = some (.bool e.sent) := by
  obtain ⟨g, cap, rfl, hb, hg⟩ := h.form hn
  refine ⟨g, cap, rfl, hb, hg, fun i e he => ?_⟩
  have hi : i < L.length := (List.getElem?_eq_some_iff.1 he).1
  obtain ⟨r0, r1, r2, r3, r4⟩ := rowE_get L i e he
  exact ⟨(h.cellAt _ (by omega)).trans r0, (h.cellAt _ (by omega)).trans r1, (h.cellAt _ (by omega)).trans r2, (h.cellAt _ (by omega)).trans r3, (h.cellAt _ (by omega)).trans r4⟩
theorem sendL_length (L : List Ent) : (sendL L).length = L.length := by cases L <;> simp [sendL]
theorem sendL_fl (x : Int) (k i : Nat) (hi : i < k) : (sendL (fl x k))[i]? = some ⟨x, i, 0, 0, decide (i = 0 ∧ x = 14)⟩ := by
  cases k with
  | zero => omega
  | succ k =>
    have hfl : fl x (k + 1) = fe x 0 :: (List.range k).map (fun i => fe x (i + 1)) := by simp [fl, List.range_succ_eq_map, List.map_map, Function.comp_def]
    rw [hfl, sendL_cons]
    cases i with
    | zero =>
      by_cases hx : x = 14
      · simp [fe, hx]
      · simp [fe, hx]
    | succ i =>
      have hi' : i < k := by omega
      simp [fe, hi']
set_option maxRecDepth 100000 in
set_option maxHeartbeats 4000000 in
theorem full_step (n m : Nat) (hn : n < 256) (hm : m < 256) (w : World) : Calls Try.prog 4 #[.int .u8 n, .int .u8 m] w fun r w' => r = .returned (.bool true) ∧ Below w.heap.size w w' := by
  have hn0 : (0 : Int) ≤ (n : Int) := by omega
  have hm0 : (0 : Int) ≤ (m : Int) := by omega
  have hn1 : (n : Int) < 256 := by omega
  have hm1 : (m : Int) < 256 := by omega
  obtain ⟨k, hk⟩ : ∃ k : Nat, (1 : Int) + (n : Int) % 16 = (k : Int) := ⟨1 + n % 16, by omega⟩
  obtain ⟨j, hj⟩ : ∃ j : Nat, (m : Int) % 4 = (j : Int) := ⟨m % 4, by omega⟩
  have hk1 : 1 ≤ k := by omega
  have hk2 : k ≤ 16 := by omega
  have hj4 : j < 4 := by omega
  have hj0 : (0 : Int) ≤ (j : Int) := by omega
  have hj1 : (j : Int) < 4 := by omega
  obtain ⟨x, hx, hxv⟩ : ∃ x : Int, (x = 14 ∨ x = 12 ∨ x = 13 ∨ x = 9) ∧ (#[Value.int .i64 14, .int .i64 12, .int .i64 13, .int .i64 9])[j]? = some (.int .i64 x) := by
    match j, hj4 with
    | 0, _ => exact ⟨14, by omega, rfl⟩
    | 1, _ => exact ⟨12, by omega, rfl⟩
    | 2, _ => exact ⟨13, by omega, rfl⟩
    | 3, _ => exact ⟨9, by omega, rfl⟩
  go_enter Try.func4, Try.ntmps4
  go_wp2_with fail
  refine (new_room k hk1 hk2 _).mono ?_
  rintro r w1 ⟨rfl, hs1, hb1⟩
  have hc : ∀ t, (w1.alloc (.cells #[Value.int .i64 14, .int .i64 12, .int .i64 13, .int .i64 9] t)).cell? ⟨w1.heap.size, j, none⟩ = some (.int .i64 x) := fun t => by
    rw [World.cell?_alloc_new]; exact hxv
  have hs2 : ∀ o, SQ (w1.alloc o) w.heap.size k [] := fun o => hs1.below ((Below.refl _ _).alloc (Nat.le_refl _) o)
  have hb2 : ∀ o, Below w.heap.size w (w1.alloc o) := fun o => hb1.alloc hb1.size o
  clear hxv hs1 hb1
  go_wp2_with fail
  have hs3 := hs2 (.cells #[Value.int .i64 14, .int .i64 12, .int .i64 13, .int .i64 9] 3)
  have hb3 := hb2 (.cells #[Value.int .i64 14, .int .i64 12, .int .i64 13, .int .i64 9] 3)
  clear hc hs2 hb2 hk hj
  generalize w1.alloc (.cells #[Value.int .i64 14, .int .i64 12, .int .i64 13, .int .i64 9] 3) = w2 at *
  generalize hbb : w.heap.size = B at *
  have HB := Lib.hid hbb
  clear hbb
  go_loopw [10] (fun i W => ∃ j : Nat, j ≤ k ∧ i = .int .i64 j ∧ SQ W B k (fl x j) ∧ Below B w W) (fun i W => k - (intOf i).toNat)
  case atStart => exact ⟨0, by omega, rfl, hs3, hb3⟩
  case round =>
    obtain ⟨i, hi, rfl, hsr, hbr⟩ := hrel
    by_cases hlt : (i : Int) < (k : Int)
    · have hpush := fun W (h : SQ W B k (fl x i)) => push_ok B k (fl x i) (fe x i) (fe_good x i (by omega) hx) (by rw [fl_length]; omega) W h
      unfold fe Ent.v at hpush
      go_wp2_with fail
      refine (hpush _ hsr).mono ?_
      rintro r w3 ⟨rfl, hs4, ho4⟩
      have hb4 := below_only hbr ho4 (Nat.le_refl _) (by have := HB.out; have := hbr.size; omega)
      rw [show fl x i ++ [⟨x, i, 0, 0, false⟩] = fl x (i + 1) from (fl_succ x i).symm] at hs4
      clear hsr hbr ho4
      go_wp2_with fail
      go_roundw
      case rel => exact ⟨i + 1, by omega, by go_num, hs4, hb4⟩
      case measure => simp [intOf]; omega
    · obtain rfl : i = k := by omega
      clear hs3 hb3
      go_wp2_with fail
      refine (push_full B i (fl x i) ⟨9, 1, 0, 5, false⟩ (by decide) (by rw [fl_length]; omega) _ hsr).mono ?_
      rintro r w3 ⟨rfl, ho3⟩
      have hBr : B ≤ wr.heap.size := by have := HB.out; have := hbr.size; omega
      have hs3 := hsr.below ho3
      have hb3 := hbr.trans (ho3.mono hBr)
      have hB3 := Nat.le_trans hBr ho3.size
      clear hsr hbr ho3
      go_wp2_with fail
      refine (len_sq _ _ _ _ hs3).mono ?_
      rintro r w4 ⟨rfl, rfl⟩
      rw [fl_length]
      go_wp2_with fail
      refine (send_any _ _ _ _ hs3).mono ?_
      rintro r w4 ⟨rfl, hs4, ho4⟩
      have hb4 := below_only hb3 ho4 (Nat.le_refl _) hB3
      have hB4 := Nat.le_trans hB3 ho4.size
      clear hs3 hb3 ho4
      go_wp2_with fail
      refine (all_some _ _ _ _ hs4).mono ?_
      rintro r w5 ⟨v, rfl, hown, ho5⟩
      have hs5 := hs4.below ho5
      have hb5 := hb4.trans (ho5.mono hB4)
      have hB5 := Nat.le_trans hB4 ho5.size
      have hlen : (sendL (fl x i)).length = i := by rw [sendL_length, fl_length]
      obtain ⟨g, cap, rfl, hg1, hg2, hrd⟩ := own_read hown (by rw [hlen]; omega)
      rw [hlen]
      have hrd' : ∀ q : Nat, q < i → w5.cell? ⟨g, q * 5, none⟩ = some (.int .i64 x) ∧ w5.cell? ⟨g, q * 5 + 1, none⟩ = some (.int .i64 q) ∧ w5.cell? ⟨g, q * 5 + 4, none⟩ = some (.bool (decide (q = 0 ∧ x = 14))) := fun q hq => by
        obtain ⟨r0, r1, r2, r3, r4⟩ := hrd q _ (sendL_fl x i q hq)
        exact ⟨r0, r1, r4⟩
      have HR := Lib.hid hrd'
      clear hs4 hb4 hown ho5 hlen hrd hrd'
      go_wp2_with fail
      go_loop [12] (fun v => ∃ q : Nat, q ≤ i ∧ v = .int .i64 q) (fun v => i - (intOf v).toNat)
      case atStart => exact ⟨0, by omega, rfl⟩
      case round =>
        obtain ⟨q, hq, rfl⟩ := hrel
        by_cases hlt2 : (q : Int) < (i : Int)
        · obtain ⟨r0, r1, r4⟩ := HR.out q (by omega)
          have hq0 : (0 : Int) ≤ (q : Int) := by omega
          by_cases h0 : q = 0
          · subst h0
            have r0' : w5.cell? ⟨g, 0, none⟩ = some (.int .i64 x) := r0
            have r1' : w5.cell? ⟨g, 1, none⟩ = some (.int .i64 0) := r1
            have r4' : w5.cell? ⟨g, 4, none⟩ = some (.bool (decide (0 = 0 ∧ x = 14))) := r4
            clear r0 r1 r4 hq0 hb5 hs5
            by_cases h14 : x = 14
            · subst h14
              rw [decide_eq_true (by omega)] at r4'
              clear hx
              go_wp2_with fail
              go_round
              case rel => exact ⟨1, by omega, by go_num⟩
              case measure => simp [intOf]; omega
            · have h14' : (x == 14) = false := by simpa using h14
              rw [decide_eq_false (by omega)] at r4'
              clear hx h14
              go_wp2_with fail
              go_round
              case rel => exact ⟨1, by omega, by go_num⟩
              case measure => simp [intOf]; omega
          · rw [decide_eq_false (by omega)] at r4
            have h0' : (1 : Int) ≤ (q : Int) := by omega
            have h0'' : (q == 0) = false := by simpa using h0
            clear hx h0 hb5 hs5
            go_wp2_with fail
            go_round
            case rel => exact ⟨q + 1, by omega, by go_num⟩
            case measure => simp [intOf]; omega
        · obtain rfl : q = i := by omega
          obtain ⟨R, hER, hRl⟩ : ∃ R, sendL (fl x q) = ⟨x, 0, 0, 0, decide (x = 14)⟩ :: R ∧ R.length = q - 1 := by
            have h1 := sendL_fl x q 0 (by omega)
            have h2 : (sendL (fl x q)).length = q := by rw [sendL_length, fl_length]
            cases hL : sendL (fl x q) with
            | nil => rw [hL] at h2; simp at h2; omega
            | cons e R =>
              rw [hL] at h1 h2
              simp at h1 h2
              exact ⟨R, by rw [h1], by omega⟩
          rw [hER] at hs5
          have hpop := fun W h => pop_cons B q ⟨x, 0, 0, 0, decide (x = 14)⟩ R W h
          have hR' : (R.length : Int) = (q : Int) - 1 := by omega
          have HRL := Lib.hid hR'
          unfold Ent.v at hpop
          clear hER hRl hR'
          go_wp2_with fail
          refine (hpop _ hs5).mono ?_
          rintro r w6 ⟨rfl, hs6, ho6⟩
          have hb6 := below_only hb5 ho6 (Nat.le_refl _) hB5
          have hB6 := Nat.le_trans hB5 ho6.size
          have hs7 : ∀ o, SQ (w6.alloc o) B q R := fun o => hs6.below ((Below.refl _ _).alloc (Nat.le_refl _) o)
          have hb7 : ∀ o, Below B w (w6.alloc o) := fun o => hb6.alloc hB6 o
          clear hs5 hb5 hs6 ho6 hpop hb6 HR
          by_cases h14 : x = 14
          · subst h14
            rw [decide_eq_true rfl]
            clear hx
            go_wp2_with fail
            refine (len_sq _ _ _ _ (hs7 _)).mono ?_
            rintro r w7 ⟨rfl, rfl⟩
            rw [HRL.out]
            go_wp2_with fail
            refine (wakes_true _).mono ?_
            rintro r w8 ⟨rfl, hb8⟩
            go_wp2_with fail
            go_ret
            exact ⟨rfl, by rw [HB.out]; exact (hb7 _).trans (hb8.mono (by have := hB6; simp; omega))⟩
          · have h14' : (x == 14) = false := by simpa using h14
            rw [decide_eq_false h14]
            clear hx h14
            go_wp2_with fail
            refine (len_sq _ _ _ _ (hs7 _)).mono ?_
            rintro r w7 ⟨rfl, rfl⟩
            rw [HRL.out]
            go_wp2_with fail
            refine (wakes_true _).mono ?_
            rintro r w8 ⟨rfl, hb8⟩
            go_wp2_with fail
            go_ret
            exact ⟨rfl, by rw [HB.out]; exact (hb7 _).trans (hb8.mono (by have := hB6; simp; omega))⟩
theorem full_true (n m : Int) (hn : 0 ≤ n ∧ n < 256) (hm : 0 ≤ m ∧ m < 256) (w : World) : Calls Try.prog 4 #[.int .u8 n, .int .u8 m] w fun r w' => r = .returned (.bool true) ∧ Below w.heap.size w w' := by
  obtain ⟨n, rfl⟩ := Int.eq_ofNat_of_zero_le hn.1
  obtain ⟨m, rfl⟩ := Int.eq_ofNat_of_zero_le hm.1
  exact full_step n m (by omega) (by omega) w
end Go.Proofs.Ytmiimmpiagmmlac
