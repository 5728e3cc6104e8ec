/-
  The contract of the reference Encode: the bytes of any acts, or that one of them has no form; only new memory is made. Condition: at most a million acts.
-/
import Derived.Test.YtmiimmpiagmmlabDoorEnc
import Derived.StillTailTactics
import Derived.Deep.RegionHeld3
import Derived.BigRegion
namespace Go.Proofs.YtmiimmpiagmmlabDoor
open Go.RowKit
set_option linter.unusedVariables false
theorem region_tail {P : Program} {id : Nat} {Q : Exit → Act → World → Prop} {a : Act} {w : World} {l : List Oper} (n : Nat) (hm : P.follows .mixedOrders = true) (hB : Region.lexTailB .any l.toArray n = true)
    (h : ∀ W : World, W = w.drew → wpStill P l.toArray W (fun a' => wpList P l.toArray Q (l.drop n) a' W) (l.take n) a) : (Code.region id l.toArray true).wp P Q a w :=
  wp_region_still_tail n hm hB (h _ rfl)
set_option maxHeartbeats 2000000 in
theorem refencode_nil (A : Option Addr) (cap : Nat) (w : World) :
    Calls Tryd.prog 9 #[.slice A 0 cap] w fun e w' => e = .returned (.tuple #[.string ⟨#[]⟩, .int .i64 0]) ∧ Below w.heap.size w w' := by
  go_enter Tryd.func9, Tryd.ntmps9
  go_wp2_with fail
  go_loopw [4, 5] (fun v i W => v = .slice none 0 0 ∧ i = .int .i64 0 ∧ W = w) (fun _ i W => 0)
  case atStart => exact ⟨rfl, rfl, rfl⟩
  case round =>
    obtain ⟨rfl, rfl, rfl⟩ := hrel
    have hcv : ∀ W : World, (convert 40 9 (.slice none 0 0)).run Tryd.prog W = .ok (.string ByteArray.empty) W := fun W => run_convert_bytes_nil W 40 5 Tryd.underlying40 Tryd.underlying5 0 0 9 Tryd.underlying9
    go_wp2_with fail
    go_ret2
    exact ⟨rfl, Below.refl _ _⟩
set_option maxHeartbeats 2000000 in
theorem refencode_some (b o cap : Nat) (l : List A3) (hl : 0 < l.length) (hn : l.length ≤ 1000000) (w : World)
    (hrd : ∀ (i : Nat) (a : A3), l[i]? = some a → w.cell? ⟨b, o + i * 3, none⟩ = some (.int .i64 a.k) ∧ w.cell? ⟨b, o + i * 3 + 1, none⟩ = some (.int .i64 a.c) ∧ w.cell? ⟨b, o + i * 3 + 2, none⟩ = some (.int .i64 a.l)) :
    Calls Tryd.prog 9 #[.slice (some ⟨b, o, none⟩) l.length cap] w fun e w' => e = .returned (.tuple #[.string (encS l), .int .i64 (encE l)]) ∧ Below w.heap.size w w' := by
  obtain ⟨i0, hi0, hz0, hz1, hz2⟩ := info_parts info5
  have hb : b < w.heap.size := by
    obtain ⟨a, ha⟩ : ∃ a, l[0]? = some a := ⟨_, List.getElem?_eq_getElem hl⟩
    exact World.block_lt_of_cell? (w := w) (a := ⟨b, _, none⟩) (hrd 0 a ha).1
  have HR := Lib.hid hrd; clear hrd
  generalize hN : l.length = n at *
  have HN := Lib.hid hN; clear hN
  have hn' : (n : Int) ≤ 1000000 := by omega
  have hn0 : (0 : Int) < (n : Int) := by omega
  go_enter Tryd.func9, Tryd.ntmps9
  go_wp2_with fail
  go_loopw [4, 5] (fun v i W => ∃ j : Nat, (j : Int) ≤ n ∧ i = .int .i64 j ∧ Hid ((l.take j).all A3.ok = true) ∧ W.ownsRow w.heap.size 5 1 v (3 * j) (byteRow (bytesOf (l.take j))) ∧ Below w.heap.size w W) (fun _ i _ => n - (intOf i).toNat)
  case atStart => exact ⟨0, by omega, rfl, rfl, own_nil _ _ _ _, Below.refl _ _⟩
  case round =>
    obtain ⟨j, hj, rfl, HA, hown, hbel⟩ := hrel
    by_cases hlt : (j : Int) < n
    · have hj0 : (0:Int) ≤ (j:Int) := by omega
      obtain ⟨a, hget⟩ : ∃ a, l[j]? = some a := ⟨l[j]'(by rw [HN.out]; omega), List.getElem?_eq_getElem (by rw [HN.out]; omega)⟩
      have htake : l.take (j + 1) = l.take j ++ [a] := by rw [List.take_add_one, hget]; rfl
      have HG := Lib.hid hget; clear hget
      have HK := Lib.hid htake; clear htake
      obtain ⟨p1, p2, p3⟩ := HR.out j _ HG.out
      obtain ⟨ak, ac, al⟩ := a
      simp only at p1 p2 p3
      have q1 : wr.cell? ⟨b, o + j * 3, none⟩ = some (.int .i64 ak) := (hbel.cell (p := ⟨b, _, none⟩) hb).trans p1
      have q2 : wr.cell? ⟨b, o + j * 3 + 1, none⟩ = some (.int .i64 ac) := (hbel.cell (p := ⟨b, _, none⟩) hb).trans p2
      have q3 : wr.cell? ⟨b, o + j * 3 + 2, none⟩ = some (.int .i64 al) := (hbel.cell (p := ⟨b, _, none⟩) hb).trans p3
      clear p1 p2 p3
      go_wp2_with fail
      refine (refgood_any _ _ _ _).mono ?_
      rintro e w1 ⟨rfl, hb1⟩
      have hown1 := own_keep hown hb1
      have hbel1 : Below w.heap.size w w1 := hbel.trans (hb1.mono hbel.size)
      have hbw : b < wr.heap.size := Nat.lt_of_lt_of_le hb hbel.size
      have k0 : w1.cell? ⟨b, o + j * 3, none⟩ = some (.int .i64 ak) := (hb1.cell (p := ⟨b, _, none⟩) hbw).trans q1
      have k1 : w1.cell? ⟨b, o + j * 3 + 1, none⟩ = some (.int .i64 ac) := (hb1.cell (p := ⟨b, _, none⟩) hbw).trans q2
      have k2 : w1.cell? ⟨b, o + j * 3 + 2, none⟩ = some (.int .i64 al) := (hb1.cell (p := ⟨b, _, none⟩) hbw).trans q3
      clear hb1 hown hbel q1 q2 q3
      cases hg : goodB ak ac al
      · go_wp2_with fail
        go_ret2
        have hbad : l.all A3.ok = false := by
          rw [List.all_eq_false]
          exact ⟨_, List.mem_of_getElem? HG.out, by simp only [A3.ok, hg]; decide⟩
        rw [(enc_not hbad).1, (enc_not hbad).2]
        exact ⟨rfl, hbel1⟩
      · obtain ⟨⟨r1, r2⟩, ⟨r3, r4⟩, ⟨r5, r6⟩⟩ := ok_range hg
        have hlen : 3 * j + 3 ≤ 3000000 := by omega
        go_wp2_with fail
        have hc2 : ∀ u ∈ [Value.int .u8 (IntKind.u8.wrap ak), .int .u8 (IntKind.u8.wrap ac), .int .u8 (IntKind.u8.wrap al)], u.oneCell' = true := by simp [Value.oneCell']
        have hc3 : 3 * j + 3 ≤ maxLen := by unfold maxLen; omega
        have hc4 : (3 * j + 3) * 1 ≤ 140737488355328 := by omega
        have hc5 : ∀ o : Obj, w.heap.size ≤ (w1.alloc o).drew.heap.size := fun o => Nat.le_trans hbel1.size (by simp)
        have HC2 := Lib.hid hc2; clear hc2
        have HC5 := Lib.hid hc5; clear hc5
        have hf : ∀ (X : Obj) (w2 : World), (w1.alloc X).drew.grownBy w2 u4.ownBlock → w2.cell? ⟨b, o + j * 3, none⟩ = some (.int .i64 ak) ∧ w2.cell? ⟨b, o + j * 3 + 1, none⟩ = some (.int .i64 ac) ∧ w2.cell? ⟨b, o + j * 3 + 2, none⟩ = some (.int .i64 al) := by
          intro X w2 hgr
          have hne : some b ≠ u4.ownBlock := fun e => by have := own_ge hown1 b e.symm; omega
          have hb1 : b < w1.heap.size := Nat.lt_of_lt_of_le hb hbel1.size
          have hb2 : b < (w1.alloc X).drew.heap.size := by simp; omega
          refine ⟨?_, ?_, ?_⟩
          · rw [hgr.cell_far ⟨b, _, none⟩ hb2 hne, World.cell?_drew, World.cell?_alloc_lt w1 X ⟨b, _, none⟩ hb1]; exact k0
          · rw [hgr.cell_far ⟨b, _, none⟩ hb2 hne, World.cell?_drew, World.cell?_alloc_lt w1 X ⟨b, _, none⟩ hb1]; exact k1
          · rw [hgr.cell_far ⟨b, _, none⟩ hb2 hne, World.cell?_drew, World.cell?_alloc_lt w1 X ⟨b, _, none⟩ hb1]; exact k2
        have HF := Lib.hid hf; clear hf
        have HO := Lib.hid hown1; clear hown1
        go_region_held3 (fun w' => w'.cell? ⟨b, o + j * 3, none⟩ = some (.int .i64 ak) ∧ w'.cell? ⟨b, o + j * 3 + 1, none⟩ = some (.int .i64 ac) ∧ w'.cell? ⟨b, o + j * 3 + 2, none⟩ = some (.int .i64 al)) (first | go_keep | exact HF.out _ _ hgrow)
          ((refine step_append_lies _ (by rfl) (.tmp 18) (.tmp 37) 40 (by rfl) w.heap.size 5 i0 (.int .u8 0) 1 1 Tryd.underlying40 hi0 hz0 hz1 hz2 (by rfl) Nat.zero_lt_one u4 (3 * j) (byteRow (bytesOf (l.take j))) (by rfl) ((HO.out.alloc _).drew) ⟨w1.heap.size, 0, none⟩ 3 3 [.int .u8 (IntKind.u8.wrap ak), .int .u8 (IntKind.u8.wrap ac), .int .u8 (IntKind.u8.wrap al)] (by rfl) (by rfl) (World.news_of_block (heap_alloc_new w1 _)) HC2.out (by omega) hc3 hc4 (HC5.out _) _ rfl ?_; intro g cap2 w2 hown2 hgrow hat hlt2))
        have hb3 : Below w.heap.size w w2 := ((hbel1.alloc hbel1.size _).drew).grown hgrow (Nat.le_trans hbel1.size (by simp)) (own_ge HO.out)
        have hnews : [Value.int .u8 (IntKind.u8.wrap ak), .int .u8 (IntKind.u8.wrap ac), .int .u8 (IntKind.u8.wrap al)] = byteRow (bytesOf [⟨ak, ac, al⟩]) := by
          simp only [bytesOf, byteRow, List.flatMap_cons, List.flatMap_nil, List.append_nil, List.map_cons, List.map_nil]
          rw [← byte_back (x := ak) (by omega), ← byte_back (x := ac) (by omega), ← byte_back (x := al) (by omega)]
        have hx : w2.ownsRow w.heap.size 5 1 (.slice (some ⟨g, 0, none⟩) (3 * j + 3) cap2) (3 * (j + 1)) (byteRow (bytesOf (l.take (j + 1)))) := by
          rw [HK.out, bytesOf_append, byteRow_append, ← hnews]
          exact hown2
        have hy : Hid ((l.take (j + 1)).all A3.ok = true) := by
          show (l.take (j + 1)).all A3.ok = true
          rw [HK.out, List.all_append, HA.out]
          simp [A3.ok, hg]
        clear hgrow hat hlt2 hbel1 k0 k1 k2 hown2 hnews
        go_wp2_with fail
        go_roundw
        case rel => exact ⟨j + 1, by omega, by go_num, hy, hx, hb3⟩
        case measure => simp [intOf]; omega
    · have hjn : j = n := by omega
      have hall : l.take j = l := by rw [hjn, ← HN.out]; exact List.take_length
      rw [hall] at HA hown
      have hcv := conv_bytes hown
      have hfin := enc_all HA.out
      go_wp2_with fail
      go_ret2
      exact ⟨rfl, hbel⟩
theorem refencode_any (v : Value) (l : List A3) (hn : l.length ≤ 1000000) (w : World) (hrd : Rd w v l) :
    Calls Tryd.prog 9 #[v] w fun e w' => e = .returned (.tuple #[.string (encS l), .int .i64 (encE l)]) ∧ Below w.heap.size w w' := by
  rcases hrd with ⟨rfl, A, cap, rfl⟩ | ⟨b, o, cap, rfl, h⟩
  · exact refencode_nil A cap w
  · rcases Nat.eq_zero_or_pos l.length with h0 | h0
    · obtain rfl : l = [] := List.eq_nil_of_length_eq_zero h0
      exact refencode_nil _ cap w
    · exact refencode_some b o cap l h0 hn w h
end Go.Proofs.YtmiimmpiagmmlabDoor
