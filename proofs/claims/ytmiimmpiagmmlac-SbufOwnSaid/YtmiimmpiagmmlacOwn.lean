/-
  The law SbufOwn: what the call returns. Conditions stand in each statement.
-/
import Derived.Test.YtmiimmpiagmmlacWakes
import Derived.Test.YtmiimmpiagmmlacArgs
namespace Go.Proofs.Ytmiimmpiagmmlac
open Go.RowKit
set_option linter.unusedVariables false
set_option linter.unusedSimpArgs false
/-- The entries that SbufOwn puts in. -/
def oe (l : List Int) (i : Nat) : Ent := ⟨9, 2, (i : Int) % 2, l.getD i 0, false⟩
def seg (l : List Int) (k i : Nat) : List Ent := (List.range' k (i - k)).map (oe l)
theorem seg_length (l : List Int) (k i : Nat) : (seg l k i).length = i - k := by simp [seg]
theorem seg_nil (l : List Int) (k : Nat) : seg l k k = [] := by simp [seg]
theorem seg_snoc (l : List Int) (k i : Nat) (h : k ≤ i) : seg l k (i + 1) = seg l k i ++ [oe l i] := by
  unfold seg
  rw [show i + 1 - k = (i - k) + 1 by omega, List.range'_concat, List.map_append]
  simp
  congr 1
  omega
theorem seg_cons (l : List Int) (k i : Nat) (h : k < i) : seg l k i = oe l k :: seg l (k + 1) i := by
  unfold seg
  rw [show i - k = (i - (k + 1)) + 1 by omega, List.range'_succ, List.map_cons]
theorem oe_good (l : List Int) (i : Nat) : goodE (oe l i) = true := by
  unfold goodE oe
  simp
  omega
theorem found_snoc (L : List Ent) (e : Ent) (line word : Int) : found (L ++ [e]) line word = if hit line word e then some e.val else found L line word := by
  unfold found
  rw [List.reverse_append, List.reverse_singleton, List.singleton_append, List.find?_cons]
  cases hit line word e <;> rfl
theorem SQ.drewN {w : World} {g room : Nat} {L : List Ent} (h : SQ w g room L) (n : Nat) : SQ (w.drewN n) g room L := by
  obtain ⟨es, first, hB, h2⟩ := h
  exact ⟨es, first, hB.drewN n, h2⟩
set_option maxRecDepth 100000 in
set_option maxHeartbeats 4000000 in
theorem own_long (A : Option Addr) (cap n : Nat) (k : Int) (hn : 16 < (n : Int)) (w : World) : Calls Try.prog 3 #[.slice A n cap, .int .u8 k] w fun r w' => r = .returned (.bool true) ∧ Below w.heap.size w w' := by
  go_enter Try.func3, Try.ntmps3
  go_wp2_with fail
  refine (new_room 16 (by omega) (by omega) _).mono ?_
  rintro r w1 ⟨rfl, hs1, hb1⟩
  go_wp2_with fail
  refine (wakes_true _).mono ?_
  rintro r w2 ⟨rfl, hb2⟩
  go_wp2_with fail
  go_ret
  exact ⟨rfl, hb1.trans (hb2.mono hb1.size)⟩
set_option maxRecDepth 100000 in
set_option maxHeartbeats 4000000 in
theorem own_short (A : Option Addr) (cap : Nat) (l : List Int) (k : Nat) (hk : k < 256) (hn16 : l.length ≤ 16) (w : World) (hA : 0 < l.length → ∃ b o, A = some ⟨b, o, none⟩ ∧ Wd w b o l) :
    Calls Try.prog 3 #[.slice A l.length cap, .int .u8 k] w fun r w' => r = .returned (.bool true) ∧ Below w.heap.size w w' := by
  have HA := Lib.hid (fun h => hA h); clear hA
  generalize hN : l.length = n at *
  have HN := Lib.hid hN; clear hN
  have hn' : (n : Int) ≤ 16 := by omega
  have hk0 : (0 : Int) ≤ (k : Int) := by omega
  have hk1 : (k : Int) < 256 := by omega
  go_enter Try.func3, Try.ntmps3
  go_wp2_with fail
  refine (new_room 16 (by omega) (by omega) _).mono ?_
  rintro r w1 ⟨rfl, hs1, hb1⟩
  go_wp2_with fail
  generalize hbb : w.heap.size = B at *
  have HB := Lib.hid hbb
  clear hbb
  go_loopw [7] (fun i W => ∃ j : Nat, j ≤ n ∧ i = .int .i64 j ∧ SQ W B 16 (seg l 0 j) ∧ Below B w W) (fun i W => n - (intOf i).toNat)
  case atStart => exact ⟨0, by omega, rfl, by rw [seg_nil]; exact hs1, hb1⟩
  case round =>
    obtain ⟨j, hj, rfl, hsr, hbr⟩ := hrel
    by_cases hlt : (j : Int) < (n : Int)
    · obtain ⟨b, o, rfl, hWd⟩ := HA.out (by omega)
      have hcell : w.cell? ⟨b, o + j, none⟩ = some (.int .u64 (l.getD j 0)) := by
        have hjl : j < l.length := by rw [HN.out]; omega
        have := hWd j _ (List.getElem?_eq_getElem hjl)
        rw [this]
        simp [hjl]
      have hbw : b < w.heap.size := World.block_lt_of_cell? (w := w) (a := ⟨b, o + j, none⟩) hcell
      have hc2 : wr.cell? ⟨b, o + j, none⟩ = some (.int .u64 (l.getD j 0)) := (hbr.cell (p := ⟨b, o + j, none⟩) (by rw [← HB.out]; exact hbw)).trans hcell
      have hpush := fun W (h : SQ W B 16 (seg l 0 j)) => push_ok B 16 (seg l 0 j) (oe l j) (oe_good l j) (by rw [seg_length]; omega) W h
      unfold oe Ent.v at hpush
      have hj0 : (0 : Int) ≤ (j : Int) := by omega
      generalize hx : l.getD j 0 = x at *
      have HX := Lib.hid hx
      clear hWd hcell hx
      go_wp2_with fail
      refine (hpush _ hsr).mono ?_
      rintro r w3 ⟨rfl, hs3, ho3⟩
      have hb3 := below_only hbr ho3 (Nat.le_refl _) (by have := HB.out; have := hbr.size; omega)
      rw [show seg l 0 j ++ [⟨9, 2, (j : Int) % 2, x, false⟩] = seg l 0 (j + 1) by rw [seg_snoc l 0 j (by omega)]; unfold oe; rw [HX.out]] at hs3
      clear hsr hbr ho3 hc2
      go_wp2_with fail
      go_roundw
      case rel => exact ⟨j + 1, by omega, by go_num, hs3, hb3⟩
      case measure => simp [intOf]; omega
    · obtain rfl : j = n := by omega
      clear hs1 hb1
      go_wp2_with fail
      refine (mod_some k (j + 1) (by omega) (by omega) (by omega) _).mono ?_
      rintro r w3 ⟨rfl, rfl⟩
      have hK : k % (j + 1) ≤ j := by have := Nat.mod_lt k (show 0 < j + 1 by omega); omega
      generalize k % (j + 1) = K at *
      have hKi : (K : Int) ≤ (j : Int) := by omega
      go_wp2_with fail
      obtain ⟨wo, rfl⟩ : ∃ wo : World, wo = wr := ⟨_, rfl⟩
      go_loopw [9] (fun i W => ∃ q : Nat, q ≤ K ∧ i = .int .i64 q ∧ SQ W B 16 (seg l q j) ∧ Below B w W) (fun i W => K - (intOf i).toNat)
      case atStart => exact ⟨0, by omega, rfl, hsr, hbr⟩
      case round =>
        obtain ⟨q, hq, rfl, hs4, hb4⟩ := hrel
        have hB4 : B ≤ wr.heap.size := by have := HB.out; have := hb4.size; omega
        by_cases hlt2 : (q : Int) < (K : Int)
        · obtain ⟨b, o, rfl, hWd⟩ := HA.out (by omega)
          have hcell : w.cell? ⟨b, o + q, none⟩ = some (.int .u64 (l.getD q 0)) := by
            have hjl : q < l.length := by rw [HN.out]; omega
            have := hWd q _ (List.getElem?_eq_getElem hjl)
            rw [this]
            simp [hjl]
          have hbw : b < w.heap.size := World.block_lt_of_cell? (w := w) (a := ⟨b, o + q, none⟩) hcell
          rw [seg_cons l q j (by omega)] at hs4
          have hpop := fun W (h : SQ W B 16 (oe l q :: seg l (q + 1) j)) => pop_cons B 16 (oe l q) (seg l (q + 1) j) W h
          unfold oe Ent.v at hpop
          unfold oe at hs4
          have hq0 : (0 : Int) ≤ (q : Int) := by omega
          have hqj : (q : Int) < (j : Int) := by omega
          generalize l.getD q 0 = x at *
          go_wp2_with fail
          refine (hpop _ hs4).mono ?_
          rintro r w5 ⟨rfl, hs5, ho5⟩
          have hb5 := below_only hb4 ho5 (Nat.le_refl _) hB4
          have hB5 := Nat.le_trans hB4 ho5.size
          have hc5 : ∀ X, (w5.alloc X).cell? ⟨b, o + q, none⟩ = some (.int .u64 x) := fun X => by
            rw [World.cell?_alloc_lt w5 X ⟨b, _, none⟩ (by show b < w5.heap.size; have := HB.out; omega)]
            exact (hb5.cell (p := ⟨b, o + q, none⟩) (by rw [← HB.out]; exact hbw)).trans hcell
          have hs6 : ∀ o, SQ (w5.alloc o) B 16 (seg l (q + 1) j) := fun o => hs5.below ((Below.refl _ _).alloc (Nat.le_refl _) o)
          have hb6 : ∀ o, Below B w (w5.alloc o) := fun o => hb5.alloc hB5 o
          clear hs4 hb4 ho5 hpop hWd hcell hs5 hb5 hsr hbr
          go_wp2_with fail
          go_quiet (fail)
          go_wp2_with fail
          go_roundw
          case rel => exact ⟨q + 1, by omega, by go_num, SQ.drewN (hs6 _) _, below_drewN (hb6 _) _⟩
          case measure => simp [intOf]; omega
        · obtain rfl : q = K := by omega
          clear hsr hbr
          go_wp2_with fail
          obtain ⟨wo2, rfl⟩ : ∃ wo2 : World, wo2 = wr := ⟨_, rfl⟩
          go_loopw [12] (fun i W => ∃ c : Nat, c ≤ 2 ∧ i = .int .i64 c ∧ SQ W B 16 (seg l q j) ∧ Below B w W) (fun i W => 2 - (intOf i).toNat)
          case atStart => exact ⟨0, by omega, rfl, hs4, hb4⟩
          case round =>
            obtain ⟨c, hc, rfl, hs7, hb7⟩ := hrel
            have hB7 : B ≤ wr.heap.size := by have := HB.out; have := hb7.size; omega
            by_cases hlt3 : (c : Int) < 2
            · have hc2 : c < 2 := by omega
              clear hs4 hb4
              go_wp2_with fail
              obtain ⟨wo3, rfl⟩ : ∃ wo3 : World, wo3 = wr := ⟨_, rfl⟩
              go_loop [13, 14, 15] (fun want there v => ∃ (t : Nat) (F : Option Int), q ≤ t ∧ t ≤ j ∧ v = .int .i64 t ∧ want = .int .u64 (F.getD 0) ∧ there = .bool F.isSome ∧ Hid (found (seg l q t) 2 c = F)) (fun _ _ v => j - (intOf v).toNat)
              case atStart => exact ⟨q, none, Nat.le_refl _, hK, rfl, rfl, rfl, by rw [seg_nil]; rfl⟩
              case round =>
                obtain ⟨t, F, ht1, ht2, rfl, rfl, rfl, HF⟩ := hrel
                have ht0 : (0 : Int) ≤ (t : Int) := by omega
                by_cases hlt4 : (t : Int) < (j : Int)
                · have hsn := found_snoc (seg l q t) (oe l t) 2 c
                  rw [← seg_snoc l q t ht1, HF.out] at hsn
                  by_cases hpar : (t : Int) % 2 = (c : Int)
                  · obtain ⟨b, o, rfl, hWd⟩ := HA.out (by omega)
                    have hjl : t < l.length := by rw [HN.out]; omega
                    have hcell : w.cell? ⟨b, o + t, none⟩ = some (.int .u64 (l.getD t 0)) := by
                      have := hWd t _ (List.getElem?_eq_getElem hjl)
                      rw [this]
                      simp [hjl]
                    have hbw : b < w.heap.size := World.block_lt_of_cell? (w := w) (a := ⟨b, o + t, none⟩) hcell
                    have hcr : wo3.cell? ⟨b, o + t, none⟩ = some (.int .u64 (l.getD t 0)) := (hb7.cell (p := ⟨b, o + t, none⟩) (by rw [← HB.out]; exact hbw)).trans hcell
                    rw [if_pos (by simp [hit, oe, hpar])] at hsn
                    have hv : (oe l t).val = l.getD t 0 := rfl
                    rw [hv] at hsn
                    have HSN := Lib.hid hsn
                    clear hWd hcell hsn hv
                    generalize l.getD t 0 = x at *
                    go_wp2_with fail
                    go_round
                    case rel => exact ⟨t + 1, some x, by omega, by omega, by go_num, rfl, rfl, HSN⟩
                    case measure => simp [intOf]; omega
                  · have hpar' : ((t : Int) % 2 == (c : Int)) = false := by simpa using hpar
                    rw [if_neg (by simp [hit, oe, hpar])] at hsn
                    have HSN := Lib.hid hsn
                    clear hsn hpar
                    go_wp2_with fail
                    go_round
                    case rel => exact ⟨t + 1, F, by omega, by omega, by go_num, rfl, rfl, HSN⟩
                    case measure => simp [intOf]; omega
                · obtain rfl : t = j := by omega
                  have hfind := fun W (h : SQ W B 16 (seg l q t)) => find_some B 16 (seg l q t) 2 c W h
                  rw [HF.out] at hfind
                  go_wp2_with fail
                  refine (hfind _ hs7).mono ?_
                  rintro r w8 ⟨rfl, ho8⟩
                  have hs8 := hs7.below ho8
                  have hb8 := hb7.trans (ho8.mono hB7)
                  clear hs7 hb7 ho8 hfind
                  go_wp2_with fail
                  go_roundw
                  case rel => exact ⟨c + 1, by omega, by go_num, hs8, hb8⟩
                  case measure => simp [intOf]; omega
            · obtain rfl : c = 2 := by omega
              have hsl : ((seg l q j).length : Int) = (j : Int) - (q : Int) := by rw [seg_length]; omega
              have HSL := Lib.hid hsl
              clear hs4 hb4 hsl
              go_wp2_with fail
              refine (len_sq _ _ _ _ hs7).mono ?_
              rintro r w8 ⟨rfl, rfl⟩
              rw [HSL.out]
              have hjq : (0 : Int) ≤ (j : Int) - (q : Int) := by omega
              go_wp2_with fail
              refine (wakes_true _).mono ?_
              rintro r w8 ⟨rfl, hb8⟩
              go_wp2_with fail
              go_ret
              exact ⟨rfl, by rw [HB.out]; exact hb7.trans (hb8.mono hB7)⟩
theorem own_true (A : Option Addr) (cap : Nat) (l : List Int) (k : Int) (hk : 0 ≤ k ∧ k < 256) (w : World) (hA : 0 < l.length → ∃ b o, A = some ⟨b, o, none⟩ ∧ Wd w b o l) :
    Calls Try.prog 3 #[.slice A l.length cap, .int .u8 k] w fun r w' => r = .returned (.bool true) ∧ Below w.heap.size w w' := by
  obtain ⟨k, rfl⟩ := Int.eq_ofNat_of_zero_le hk.1
  rcases Nat.lt_or_ge 16 l.length with h | h
  · exact own_long A cap l.length k (by omega) w
  · exact own_short A cap l k (by omega) h w hA
end Go.Proofs.Ytmiimmpiagmmlac
