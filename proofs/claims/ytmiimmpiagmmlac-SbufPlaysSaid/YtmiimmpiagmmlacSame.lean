/-
  Own and Same: what they return. Conditions stand in each statement.
-/
import Derived.Test.YtmiimmpiagmmlacFull
import Derived.Laws.AppendOwnNone
import Derived.Deep.Onto
import Derived.Deep.RegionHeld3
namespace Go.Proofs.Ytmiimmpiagmmlac
open Go.RowKit
set_option linter.unusedVariables false
set_option linter.unusedSimpArgs false
set_option maxHeartbeats 1000000 in
theorem own_any (e : Ent) (w : World) : Calls Try.prog 18 #[e.v] w fun r w' => r = .returned e.v ∧ Below w.heap.size w w' := by
  have fin : ∀ o1 o2 : Obj, Below w.heap.size w ((w.alloc o1).alloc o2) := fun o1 o2 => ((Below.refl _ _).alloc (Nat.le_refl _) _).alloc (by simp) _
  unfold Ent.v
  go_enter Try.func18, Try.ntmps18
  go_wp2_with fail
  refine bodyPost_ret (v := e.v) (by simp [results, Try.results18, go_sem, Ent.v]) rfl ⟨rfl, fin _ _⟩
/-- A slice of entries, read: nil or empty, or a row. -/
def Se (w : World) (v : Value) (L : List Ent) : Prop :=
  ∃ A cap, v = .slice A L.length cap ∧ (0 < L.length → ∃ g o, A = some ⟨g, o, none⟩ ∧ g < w.heap.size ∧ ∀ i e, L[i]? = some e → w.cell? ⟨g, o + i * 5, none⟩ = some (.int .i64 e.kind) ∧ w.cell? ⟨g, o + i * 5 + 1, none⟩ = some (.int .i64 e.line) ∧ w.cell? ⟨g, o + i * 5 + 2, none⟩ = some (.int .i64 e.word) ∧ w.cell? ⟨g, o + i * 5 + 3, none⟩ = some (.int .u64 e.val) ∧ w.cell? ⟨g, o + i * 5 + 4, none⟩ = some (.bool e.sent))
theorem Se.below {w w' : World} {v : Value} {L : List Ent} (h : Se w v L) (hb : Below w.heap.size w w') : Se w' v L := by
  obtain ⟨A, cap, rfl, h⟩ := h
  refine ⟨A, cap, rfl, fun hp => ?_⟩
  obtain ⟨g, o, rfl, hg, hc⟩ := h hp
  refine ⟨g, o, rfl, Nat.lt_of_lt_of_le hg hb.size, fun i e he => ?_⟩
  obtain ⟨c0, c1, c2, c3, c4⟩ := hc i e he
  exact ⟨(hb.cell (p := ⟨g, _, none⟩) hg).trans c0, (hb.cell (p := ⟨g, _, none⟩) hg).trans c1, (hb.cell (p := ⟨g, _, none⟩) hg).trans c2, (hb.cell (p := ⟨g, _, none⟩) hg).trans c3, (hb.cell (p := ⟨g, _, none⟩) hg).trans c4⟩
theorem se_of_own {w : World} {base : Nat} {t : TypeId} {v : Value} {L : List Ent} (h : w.ownsRow base t 5 v L.length (rowE L)) : Se w v L := by
  rcases Nat.eq_zero_or_pos L.length with h0 | h0
  · rcases h.2 with ⟨rfl, _⟩ | ⟨g, cap, cur, rfl, _⟩
    · exact ⟨none, 0, by rw [h0], fun hp => by omega⟩
    · exact ⟨some ⟨g, 0, none⟩, cap, rfl, fun hp => by omega⟩
  · obtain ⟨g, cap, rfl, hb, hg⟩ := h.form h0
    refine ⟨some ⟨g, 0, none⟩, cap, rfl, fun _ => ⟨g, 0, rfl, hg, fun i e he => ?_⟩⟩
    have hi : i < L.length := (List.getElem?_eq_some_iff.1 he).1
    obtain ⟨r0, r1, r2, r3, r4⟩ := rowE_get L i e he
    simp only [Nat.zero_add]
    exact ⟨(h.cellAt _ (by omega)).trans r0, (h.cellAt _ (by omega)).trans r1, (h.cellAt _ (by omega)).trans r2, (h.cellAt _ (by omega)).trans r3, (h.cellAt _ (by omega)).trans r4⟩
set_option maxHeartbeats 2000000 in
theorem same_true (va vb : Value) (L : List Ent) (hL : L.length ≤ 1000000) (w : World) (ha : Se w va L) (hb : Se w vb L) : Calls Try.prog 24 #[va, vb] w fun r w' => r = .returned (.bool true) ∧ Below w.heap.size w w' := by
  obtain ⟨A, ca, rfl, ha⟩ := ha
  obtain ⟨B, cb, rfl, hb⟩ := hb
  have HA := Lib.hid (fun h => ha h); clear ha
  have HB := Lib.hid (fun h => hb h); clear hb
  generalize hN : L.length = n at *
  have HN := Lib.hid hN; clear hN
  have hn : (n : Int) ≤ 1000000 := by omega
  go_enter Try.func24, Try.ntmps24
  go_wp2_with fail
  go_loopw [5] (fun i W => ∃ j : Nat, j ≤ n ∧ i = .int .i64 j ∧ Below w.heap.size w W) (fun i W => n - (intOf i).toNat)
  case atStart => exact ⟨0, by omega, rfl, Below.refl _ _⟩
  case round =>
    obtain ⟨j, hj, rfl, hbr⟩ := hrel
    by_cases hlt : (j : Int) < (n : Int)
    · obtain ⟨g1, o1, rfl, hg1, hc1⟩ := HA.out (by omega)
      obtain ⟨g2, o2, rfl, hg2, hc2⟩ := HB.out (by omega)
      obtain ⟨e, he⟩ : ∃ e, L[j]? = some e := ⟨_, List.getElem?_eq_getElem (by rw [HN.out]; omega)⟩
      obtain ⟨a0, a1, a2, a3, a4⟩ := hc1 j e he
      obtain ⟨b0, b1, b2, b3, b4⟩ := hc2 j e he
      rw [← hbr.cell (p := ⟨g1, _, none⟩) hg1] at a0 a1 a2 a3 a4
      rw [← hbr.cell (p := ⟨g2, _, none⟩) hg2] at b0 b1 b2 b3 b4
      have hj0 : (0 : Int) ≤ (j : Int) := by omega
      have hown := own_any e
      have hgr1 : g1 < wr.heap.size := Nat.lt_of_lt_of_le hg1 hbr.size
      have hgr2 : g2 < wr.heap.size := Nat.lt_of_lt_of_le hg2 hbr.size
      unfold Ent.v at hown
      clear hc1 hc2 he
      have hk : ∀ w4, Below wr.heap.size wr.drew w4 → w4.cell? ⟨g1, o1 + j * 5, none⟩ = some (.int .i64 e.kind) ∧ w4.cell? ⟨g1, o1 + j * 5 + 1, none⟩ = some (.int .i64 e.line) ∧ w4.cell? ⟨g1, o1 + j * 5 + 2, none⟩ = some (.int .i64 e.word) ∧ w4.cell? ⟨g1, o1 + j * 5 + 3, none⟩ = some (.int .u64 e.val) ∧ w4.cell? ⟨g1, o1 + j * 5 + 4, none⟩ = some (.bool e.sent) ∧ w4.cell? ⟨g2, o2 + j * 5, none⟩ = some (.int .i64 e.kind) ∧ w4.cell? ⟨g2, o2 + j * 5 + 1, none⟩ = some (.int .i64 e.line) ∧ w4.cell? ⟨g2, o2 + j * 5 + 2, none⟩ = some (.int .i64 e.word) ∧ w4.cell? ⟨g2, o2 + j * 5 + 3, none⟩ = some (.int .u64 e.val) ∧ w4.cell? ⟨g2, o2 + j * 5 + 4, none⟩ = some (.bool e.sent) := fun w4 hb4 =>
        ⟨(hb4.cell (p := ⟨g1, _, none⟩) hgr1).trans a0, (hb4.cell (p := ⟨g1, _, none⟩) hgr1).trans a1, (hb4.cell (p := ⟨g1, _, none⟩) hgr1).trans a2, (hb4.cell (p := ⟨g1, _, none⟩) hgr1).trans a3, (hb4.cell (p := ⟨g1, _, none⟩) hgr1).trans a4,
          (hb4.cell (p := ⟨g2, _, none⟩) hgr2).trans b0, (hb4.cell (p := ⟨g2, _, none⟩) hgr2).trans b1, (hb4.cell (p := ⟨g2, _, none⟩) hgr2).trans b2, (hb4.cell (p := ⟨g2, _, none⟩) hgr2).trans b3, (hb4.cell (p := ⟨g2, _, none⟩) hgr2).trans b4⟩
      have HK := Lib.hid hk
      clear hk
      go_wp2_with fail
      go_region_held3 (fun w' => w'.cell? ⟨g1, o1 + j * 5, none⟩ = some (.int .i64 e.kind) ∧ w'.cell? ⟨g1, o1 + j * 5 + 1, none⟩ = some (.int .i64 e.line) ∧ w'.cell? ⟨g1, o1 + j * 5 + 2, none⟩ = some (.int .i64 e.word) ∧ w'.cell? ⟨g1, o1 + j * 5 + 3, none⟩ = some (.int .u64 e.val) ∧ w'.cell? ⟨g1, o1 + j * 5 + 4, none⟩ = some (.bool e.sent) ∧ w'.cell? ⟨g2, o2 + j * 5, none⟩ = some (.int .i64 e.kind) ∧ w'.cell? ⟨g2, o2 + j * 5 + 1, none⟩ = some (.int .i64 e.line) ∧ w'.cell? ⟨g2, o2 + j * 5 + 2, none⟩ = some (.int .i64 e.word) ∧ w'.cell? ⟨g2, o2 + j * 5 + 3, none⟩ = some (.int .u64 e.val) ∧ w'.cell? ⟨g2, o2 + j * 5 + 4, none⟩ = some (.bool e.sent)) (first | go_keep | exact hk4)
        ((go_at_call 18; refine (hown wr.drew).mono ?_; rintro r w4 ⟨rfl, hb4⟩; have hk4 := HK.out w4 hb4))
      all_goals
        have hb5 : Below w.heap.size w w4 := hbr.drew.trans (hb4.mono hbr.size)
        clear hk4 hb4 a0 a1 a2 a3 a4 b0 b1 b2 b3 b4
        go_wp2_with fail
        go_roundw
        case rel => exact ⟨j + 1, by omega, by go_num, hb5⟩
        case measure => simp [intOf]; omega
    · obtain rfl : j = n := by omega
      go_wp2_with fail
      go_ret
      exact ⟨rfl, hbr⟩
end Go.Proofs.Ytmiimmpiagmmlac
