/-
  The reference Find: what it returns. Conditions stand in each statement.
-/
import Derived.Test.YtmiimmpiagmmlacRefPop
namespace Go.Proofs.Ytmiimmpiagmmlac
open Go.RowKit
set_option linter.unusedVariables false
set_option linter.unusedSimpArgs false
set_option maxHeartbeats 2000000 in
theorem reffind_any (r room : Nat) (L : List Ent) (hl16 : L.length ≤ 16) (line word : Int) (w : World) (hs : RQ w r room L) : Calls Try.prog 21 #[.pointer (some ⟨r, 0, none⟩), .int .i64 line, .int .i64 word] w fun x w' =>
    x = .returned (.agg #[.int .u64 ((found L line word).getD 0), .bool (found L line word).isSome]) ∧ Below w.heap.size w w' := by
  have hr := hs.lt
  obtain ⟨v, c0, c1, hz, hown⟩ := hs
  obtain ⟨A, cap, rfl, _⟩ := src_of_own hown
  have hl1 : (L.length : Int) ≤ 16 := by omega
  have hmk : ∀ T, Below w.heap.size w (w.alloc (.cells #[.int .u64 0, .bool false] T)) ∧ (w.alloc (.cells #[.int .u64 0, .bool false] T)).heap[w.heap.size]? = some (.cells #[.int .u64 0, .bool false] T) ∧ w.heap.size < (w.alloc (.cells #[.int .u64 0, .bool false] T)).heap.size ∧ (w.alloc (.cells #[.int .u64 0, .bool false] T)).cell? ⟨r, 1, none⟩ = some (.slice A L.length cap) := fun T =>
    ⟨(Below.refl _ _).alloc (Nat.le_refl _) _, heap_alloc_new w _, by simp, (World.cell?_alloc_lt w _ ⟨r, 1, none⟩ hr).trans c1⟩
  have HM := Lib.hid hmk
  have HO := Lib.hid hown
  clear hown hmk hz c0
  have m1 := (HM.out 56).2.2.2
  go_enter Try.func21, Try.ntmps21
  go_wp2_with fail
  obtain ⟨n1, n2, n3, n4⟩ := HM.out 56
  generalize w.alloc (.cells #[.int .u64 0, .bool false] 56) = w1 at *
  clear HM m1
  go_loopw [7] (fun i W => ∃ (j : Nat) (q : Int), j ≤ L.length ∧ i = .int .i64 q ∧ q = (j : Int) - 1 ∧ found (L.drop j) line word = none ∧ Below w1.heap.size w1 W) (fun i W => (intOf i + 1).toNat)
  case atStart => exact ⟨L.length, (L.length : Int) - 1, Nat.le_refl _, by go_num, rfl, by simp [found], Below.refl _ _⟩
  case round =>
    obtain ⟨j, q, hj, rfl, hq, hno, hb⟩ := hrel
    have s1 := (hb.cell (p := ⟨r, 1, none⟩) (by show r < w1.heap.size; omega)).trans n4
    obtain ⟨⟨f0, f1⟩, g0, g1⟩ : (wr.cell? ⟨w.heap.size, 0, none⟩ = some (.int .u64 0) ∧ wr.cell? ⟨w.heap.size, 1, none⟩ = some (.bool false)) ∧ (wr.frozen? ⟨w.heap.size, 0, none⟩ = false ∧ wr.frozen? ⟨w.heap.size, 1, none⟩ = false) := by
      have := (hb.block w.heap.size n3).trans n2
      simp [World.cell?, World.frozen?, this]
    have hfin : ∀ u1 u2, Below w.heap.size w ((wr.setCell ⟨w.heap.size, 0, none⟩ u1).setCell ⟨w.heap.size, 1, none⟩ u2) := fun u1 u2 =>
      ((n1.trans (hb.mono (by omega))).setCell (p := ⟨w.heap.size, 0, none⟩) (Nat.le_refl _) u1).setCell (p := ⟨w.heap.size, 1, none⟩) (Nat.le_refl _) u2
    have hres : ∀ u1 u2, ((wr.setCell ⟨w.heap.size, 0, none⟩ u1).setCell ⟨w.heap.size, 1, none⟩ u2).cell? ⟨w.heap.size, 0, none⟩ = some u1 ∧ ((wr.setCell ⟨w.heap.size, 0, none⟩ u1).setCell ⟨w.heap.size, 1, none⟩ u2).cell? ⟨w.heap.size, 1, none⟩ = some u2 := fun u1 u2 => by
      have f1' : (wr.setCell ⟨w.heap.size, 0, none⟩ u1).cell? ⟨w.heap.size, 1, none⟩ = some (.bool false) := by rw [World.cell?_setCell_other _ _ _ _ (by simp)]; exact f1
      refine ⟨?_, World.cell?_setCell_same _ _ _ f1'⟩
      rw [World.cell?_setCell_other _ _ _ _ (by simp)]
      exact World.cell?_setCell_same _ _ _ f0
    have hres2 : ∀ u1 u2 o, (((wr.setCell ⟨w.heap.size, 0, none⟩ u1).setCell ⟨w.heap.size, 1, none⟩ u2).alloc o).cell? ⟨w.heap.size, 0, none⟩ = some u1 ∧ (((wr.setCell ⟨w.heap.size, 0, none⟩ u1).setCell ⟨w.heap.size, 1, none⟩ u2).alloc o).cell? ⟨w.heap.size, 1, none⟩ = some u2 := fun u1 u2 o => by
      have hsz : w.heap.size < ((wr.setCell ⟨w.heap.size, 0, none⟩ u1).setCell ⟨w.heap.size, 1, none⟩ u2).heap.size := by have := hb.size; simp [World.setCell]; omega
      exact ⟨(World.cell?_alloc_lt _ o ⟨w.heap.size, 0, none⟩ hsz).trans (hres u1 u2).1, (World.cell?_alloc_lt _ o ⟨w.heap.size, 1, none⟩ hsz).trans (hres u1 u2).2⟩
    have hfin2 : ∀ u1 u2 o, Below w.heap.size w (((wr.setCell ⟨w.heap.size, 0, none⟩ u1).setCell ⟨w.heap.size, 1, none⟩ u2).alloc o) := fun u1 u2 o =>
      (hfin u1 u2).alloc (hfin u1 u2).size o
    have HR := Lib.hid hres
    have HR2 := Lib.hid hres2
    clear hres hres2
    by_cases hlt : 0 < j
    · obtain ⟨m, rfl⟩ : ∃ m, j = m + 1 := ⟨j - 1, by omega⟩
      obtain rfl : q = (m : Int) := by omega
      obtain ⟨e, he⟩ : ∃ e, L[m]? = some e := ⟨_, List.getElem?_eq_getElem (by omega)⟩
      have hfd := Lib.hid (found_drop L line word m hno e he)
      have hfl := Lib.hid (found_last L line word m)
      obtain ⟨g, cap', hv, hg1, hg2, hrd⟩ := own_read_at HO.out (by omega)
      injection hv with h1 h2 h3
      subst h1 h3
      obtain ⟨k0, k1, k2, k3, k4⟩ := hrd m e he
      have hgw : g < w1.heap.size := by have := n1.size; omega
      rw [← n1.cell (p := ⟨g, _, none⟩) hg2, ← hb.cell (p := ⟨g, _, none⟩) hgw] at k0 k1 k2 k3 k4
      have hm0 : (0 : Int) ≤ (m : Int) := by omega
      have hm1 : (m : Int) < (L.length : Int) := by omega
      have HJ := Lib.hid hj
      have hb2 : ∀ o, Below w1.heap.size w1 (wr.alloc o) := fun o => hb.alloc hb.size o
      have hwlt : w.heap.size < wr.heap.size := Nat.lt_of_lt_of_le n3 hb.size
      have hwne : wr.heap.size ≠ w.heap.size := by omega
      clear hno hq hlt hj he hrd
      obtain ⟨ek, el, ew, ev, esn⟩ := e
      simp only at k0 k1 k2 k3 k4
      by_cases h9 : ek = 9
      · by_cases h10 : el = line
        · by_cases h11 : ew = word
          · subst h9 h10 h11
            have hq : found L el ew = some ev := by
              have h1 := hfd.out
              rw [if_pos (by simp [hit])] at h1
              rw [hfl.out (by rw [h1]; simp), h1]
            have HQ := Lib.hid hq
            clear hq
            go_wp2_with fail
            refine bodyPost_ret (v := .agg #[.int .u64 ev, .bool true]) ?_ rfl ⟨by rw [HQ.out]; rfl, hfin2 _ _ _⟩
            have r0 := (HR2.out (.int .u64 ev) (.bool true) (.cells #[.int .i64 9, .int .i64 el, .int .i64 ew, .int .u64 ev, .bool esn] 50)).1
            have r1 := (HR2.out (.int .u64 ev) (.bool true) (.cells #[.int .i64 9, .int .i64 el, .int .i64 ew, .int .u64 ev, .bool esn] 50)).2
            simp [results, Try.results21, go_sem, r0, r1]
          · have h11' : (ew == word) = false := by simpa using h11
            have hq : found (L.drop m) line word = none := by
              have h1 := hfd.out
              rw [if_neg (by simp [hit, h11])] at h1
              exact h1
            have HQ := Lib.hid hq
            subst h9 h10
            clear h11 hq
            go_wp2_with fail
            go_roundw
            case rel => exact ⟨m, (m : Int) - 1, by have := HJ.out; omega, rfl, rfl, HQ.out, hb2 _⟩
            case measure => simp [intOf]
        · have h10' : (el == line) = false := by simpa using h10
          have hq : found (L.drop m) line word = none := by
            have h1 := hfd.out
            rw [if_neg (by simp [hit, h10])] at h1
            exact h1
          have HQ := Lib.hid hq
          subst h9
          clear h10 hq
          go_wp2_with fail
          go_roundw
          case rel => exact ⟨m, (m : Int) - 1, by have := HJ.out; omega, rfl, rfl, HQ.out, hb2 _⟩
          case measure => simp [intOf]
      · have h9' : (ek == 9) = false := by simpa using h9
        have hq : found (L.drop m) line word = none := by
          have h1 := hfd.out
          rw [if_neg (by simp [hit, h9])] at h1
          exact h1
        have HQ := Lib.hid hq
        clear h9 hq
        go_wp2_with fail
        go_roundw
        case rel => exact ⟨m, (m : Int) - 1, by have := HJ.out; omega, rfl, rfl, HQ.out, hb2 _⟩
        case measure => simp [intOf]
    · obtain rfl : j = 0 := by omega
      obtain rfl : q = -1 := by omega
      rw [List.drop_zero] at hno
      have HN := Lib.hid hno
      clear hlt hno hq
      go_wp2_with fail
      refine bodyPost_ret (v := .agg #[.int .u64 0, .bool false]) ?_ rfl ⟨by rw [HN.out]; rfl, hfin _ _⟩
      have r0 := (HR.out (.int .u64 0) (.bool false)).1
      have r1 := (HR.out (.int .u64 0) (.bool false)).2
      simp [results, Try.results21, go_sem, r0, r1]
end Go.Proofs.Ytmiimmpiagmmlac
