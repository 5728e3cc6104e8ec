/-
  The contract of the reference Decode: what it returns for any bytes, in new memory. Condition: at most a million bytes.
-/
import Derived.Test.YtmiimmpiagmmlabDoorDec
namespace Go.Proofs.YtmiimmpiagmmlabDoor
open Go.RowKit
set_option linter.unusedVariables false
theorem decL_at (t : ByteArray) (j : Nat) (h : j + 3 ≤ t.size) :
    decL (t.data.toList.drop j) = if goodB (t[j]'(by omega)).toNat (t[j+1]'(by omega)).toNat (t[j+2]'(by omega)).toNat then ⟨(t[j]'(by omega)).toNat, (t[j+1]'(by omega)).toNat, (t[j+2]'(by omega)).toNat⟩ :: decL (t.data.toList.drop (j + 3)) else decL (t.data.toList.drop (j + 3)) := by
  have hl : t.data.toList.length = t.size := by simp
  have h0 : t[j]'(by omega) = t.data.toList[j]'(by omega) := rfl
  have h1 : t[j+1]'(by omega) = t.data.toList[j+1]'(by omega) := rfl
  have h2 : t[j+2]'(by omega) = t.data.toList[j+2]'(by omega) := rfl
  rw [h0, h1, h2]
  have e : t.data.toList.drop j = t.data.toList[j]'(by omega) :: t.data.toList[j+1]'(by omega) :: t.data.toList[j+2]'(by omega) :: t.data.toList.drop (j + 3) := by
    rw [List.drop_eq_getElem_cons (by omega), List.drop_eq_getElem_cons (by omega), List.drop_eq_getElem_cons (by omega)]
  rw [e]
  rfl
set_option maxHeartbeats 2000000 in
theorem refdecode_any (s : ByteArray) (w : World) (hs : s.size ≤ 1000000) :
    Calls Tryd.prog 14 #[.string s] w fun e w' => ∃ v, e = .returned v ∧ w'.ownsRow w.heap.size 31 3 v (decL s.data.toList).length (rowOf (decL s.data.toList)) ∧ Below w.heap.size w w' := by
  obtain ⟨i0, hi0, hz0, hz1, hz2⟩ := info_parts info31
  generalize hD : decL s.data.toList = D at *
  have HD := Lib.hid hD; clear hD
  go_enter Tryd.func14, Tryd.ntmps14
  go_wp2_with fail
  go_loopw [3, 4] (fun v i W => ∃ (j : Nat) (acc : List A3), i = .int .i64 j ∧ j ≤ s.size ∧ Hid (acc ++ decL (s.data.toList.drop j) = D) ∧ acc.length * 3 ≤ j ∧ W.ownsRow w.heap.size 31 3 v acc.length (rowOf acc) ∧ Below w.heap.size w W) (fun _ i _ => s.size - (intOf i).toNat)
  case atStart => exact ⟨0, [], rfl, by omega, HD.out, by simp, own_nil _ _ _ _, Below.refl _ _⟩
  case round =>
    obtain ⟨j, acc, rfl, hj, HA, hsz, hown, hbel⟩ := hrel
    by_cases h3 : (j : Int) + 3 ≤ (s.size : Int)
    · go_wp2_with fail
      have h30 : j < s.size := by omega
      have h31 : j + 1 < s.size := by omega
      have h32 : j + 2 < s.size := by omega
      have g0 : (0:Int) ≤ (j : Int) := by omega
      have g30 : (j:Int) < (s.size : Int) := by omega
      have g31 : (j:Int) + 1 < (s.size : Int) := by omega
      have g32 : (j:Int) + 2 < (s.size : Int) := by omega
      have hc := decL_at s j (by omega)
      have n1 : (0:Int) ≤ (j : Int) + 1 := by omega
      have n2 : (0:Int) ≤ (j : Int) + 2 := by omega
      have t1 : ((j : Int) + 1).toNat = j + 1 := by omega
      have t2 : ((j : Int) + 2).toNat = j + 2 := by omega
      go_region
      rw [hc] at HA
      clear hc
      rw [wrap_byte, wrap_byte, wrap_byte]
      generalize ((s[j]'h30).toNat : Int) = a at *
      generalize ((s[j+1]'h31).toNat : Int) = b at *
      generalize ((s[j+2]'h32).toNat : Int) = c at *
      clear t1 t2 n1 n2
      go_wp2_with fail
      refine (refgood_any _ _ _ _).mono ?_
      rintro e w1 ⟨rfl, hb1⟩
      have hsz1 : wr.heap.size < w1.heap.size := by have := hb1.size; simp at this; omega
      have hblk : w1.heap[wr.heap.size]? = some (.cells #[.int .i64 a, .int .i64 b, .int .i64 c] 31) := by
        rw [hb1.block _ (by simp)]; exact heap_alloc_new wr _
      have hb2 : Below wr.heap.size wr w1 := (((Below.refl _ _).alloc (Nat.le_refl _) _).drew).trans (hb1.mono (by simp))
      have hown1 := own_keep hown hb2
      have hbel1 : Below w.heap.size w w1 := hbel.trans (hb2.mono hbel.size)
      have k0 : w1.cell? ⟨wr.heap.size, 0, none⟩ = some (.int .i64 a) := by rw [cell_of_row w1 _ 0 _ _ _ hblk]; rfl
      have k1 : w1.cell? ⟨wr.heap.size, 1, none⟩ = some (.int .i64 b) := by rw [cell_of_row w1 _ 1 _ _ _ hblk]; rfl
      have k2 : w1.cell? ⟨wr.heap.size, 2, none⟩ = some (.int .i64 c) := by rw [cell_of_row w1 _ 2 _ _ _ hblk]; rfl
      clear hb1 hblk hown hbel
      cases hg : goodB a b c
      · rw [hg] at HA
        clear hg
        go_wp2_with fail
        go_roundw
        case rel => exact ⟨j + 3, acc, by go_num, by omega, by simpa using HA, by omega, hown1, hbel1⟩
        case measure => simp [intOf]; omega
      · rw [hg] at HA
        clear hg
        have hlen : acc.length + 1 ≤ 1000000 := by omega
        go_wp2_with (at_builtin; refine wpList_append_lies _ rfl _ _ _ rfl w.heap.size 31 i0 _ 3 24 Tryd.underlying22 hi0 hz0 hz1 hz2 rfl (by omega) _ acc.length (rowOf acc) rfl (hown1.alloc _) ⟨w1.heap.size, 0, none⟩ 1 1 [.int .i64 a, .int .i64 b, .int .i64 c] rfl rfl ?c1 ?c2 (by omega) ?c3 ?c4 ?c5 _ rfl ?_)
        case c1 => exact World.news_of_block (heap_alloc_new w1 _)
        case c2 => simp [Value.oneCell']
        case c3 => unfold maxLen; omega
        case c4 => omega
        case c5 => exact Nat.le_trans hbel1.size (by simp)
        intro g cap w2 hown2 hgrow hat hlt
        have hb3 : Below w.heap.size w w2 := (hbel1.alloc hbel1.size _).grown hgrow (Nat.le_trans hbel1.size (by simp)) (own_ge hown1)
        clear hgrow hat hlt hown1 hbel1 hb2 k0 k1 k2
        go_wp2_with fail
        go_roundw
        case rel => exact ⟨j + 3, acc ++ [⟨a, b, c⟩], by go_num, by omega, by simpa [List.append_assoc] using HA, by simp; omega, by simpa [rowOf_append, rowOf_one] using hown2, hb3⟩
        case measure => simp [intOf]; omega
    · have hnil : decL (s.data.toList.drop j) = [] := decL_short (by have : s.data.toList.length = s.size := by simp
                                                                     simp only [List.length_drop]; omega)
      rw [hnil] at HA
      clear hnil
      go_wp2_with fail
      go_ret
      have hA := HA.out
      rw [List.append_nil] at hA
      subst hA
      exact ⟨_, rfl, hown, hbel⟩
end Go.Proofs.YtmiimmpiagmmlabDoor
