/-
  The contract of script.Decode: what it returns for any bytes, in new memory. Conditions: at most a million bytes, the table has as laid.
-/
import Derived.Test.YtmiimmpiagmmlabDoorLeaf
import Derived.Deep.QuietTactic
import Derived.BigQuiet
import Derived.RegionTactic
import Derived.Lib.Strings
import Derived.Lib.IndexBytes
import Derived.Deep.AppendLies
import Derived.Lib.Hide
namespace Go.Proofs.YtmiimmpiagmmlabDoor
open Go.RowKit
set_option linter.unusedVariables false
structure A3 where
  k : Int
  c : Int
  l : Int
def A3.cells (a : A3) : List Value := [.int .i64 a.k, .int .i64 a.c, .int .i64 a.l]
def A3.ok (a : A3) : Bool := goodB a.k a.c a.l
def rowOf (l : List A3) : List Value := l.flatMap A3.cells
theorem rowOf_append (l m : List A3) : rowOf (l ++ m) = rowOf l ++ rowOf m := by simp [rowOf]
theorem rowOf_one (a : A3) : rowOf [a] = [.int .i64 a.k, .int .i64 a.c, .int .i64 a.l] := rfl
theorem own_keep {w w' : World} {base : Nat} {e : TypeId} {size : Nat} {v : Value} {n : Nat} {xs : List Value} (h : w.ownsRow base e size v n xs) (hb : Below w.heap.size w w') : w'.ownsRow base e size v n xs := by
  refine ⟨h.1, ?_⟩
  rcases h.2 with h2 | ⟨g, cap, cur, hv, hg, hh, r⟩
  · exact .inl h2
  · refine .inr ⟨g, cap, cur, hv, hg, ?_, r⟩
    have hlt : g < w.heap.size := by
      rcases Nat.lt_or_ge g w.heap.size with h' | h'
      · exact h'
      · rw [Array.getElem?_eq_none h'] at hh; cases hh
    rw [hb.block g hlt]; exact hh
theorem own_ge {w : World} {base : Nat} {e : TypeId} {size : Nat} {v : Value} {n : Nat} {xs : List Value} (h : w.ownsRow base e size v n xs) : ∀ k, v.ownBlock = some k → base ≤ k := by
  intro k hk
  rcases h.2 with ⟨rfl, _⟩ | ⟨g, cap, cur, rfl, hg, _⟩
  · simp [Value.ownBlock] at hk
  · simp [Value.ownBlock] at hk; omega
theorem own_nil (w : World) (base : Nat) (e : TypeId) (size : Nat) : w.ownsRow base e size (.slice none 0 0) 0 [] := ⟨by simp, .inl ⟨rfl, rfl⟩⟩
def decL : List UInt8 → List A3
  | a :: b :: c :: r => if goodB a.toNat b.toNat c.toNat then ⟨a.toNat, b.toNat, c.toNat⟩ :: decL r else decL r
  | _ => []
theorem decL_short {l : List UInt8} (h : l.length < 3) : decL l = [] := by
  match l, h with
  | [], _ => rfl
  | [_], _ => rfl
  | [_, _], _ => rfl
theorem decL_cons (t : ByteArray) (h : 3 ≤ t.size) :
    decL t.data.toList = if goodB (t[0]'(by omega)).toNat (t[1]'(by omega)).toNat (t[2]'(by omega)).toNat then ⟨(t[0]'(by omega)).toNat, (t[1]'(by omega)).toNat, (t[2]'(by omega)).toNat⟩ :: decL (t.extract 3 t.size).data.toList else decL (t.extract 3 t.size).data.toList := by
  rw [Lib.extract_to_end]
  obtain ⟨⟨l⟩⟩ := t
  match l, h with
  | a :: b :: c :: r, _ => rfl
  | [], hl => simp [ByteArray.size] at hl
  | [_], hl => simp [ByteArray.size] at hl
  | [_, _], hl => simp [ByteArray.size] at hl
theorem wrap_byte (x : UInt8) : wrap64 (x.toNat : Int) = x.toNat := by
  have := x.toNat_lt
  unfold wrap64
  omega
def strLen : Value → Nat | .string t => t.size | _ => 0
theorem info31 : (Tryd.prog.info? 31).map (fun i => (i.zero, i.size, i.bytes)) = some (some (.agg #[.int .i64 0, .int .i64 0, .int .i64 0]), 3, 24) := by kernel_rfl

set_option maxHeartbeats 2000000 in
theorem decode_any (s : ByteArray) (w : World) (hs : s.size ≤ 1000000) (ht : Tab w) :
    Calls Tryd.prog 13 #[.string s] w fun e w' => ∃ v, e = .returned v ∧ w'.ownsRow w.heap.size 31 3 v (decL s.data.toList).length (rowOf (decL s.data.toList)) ∧ Below w.heap.size w w' := by
  obtain ⟨i0, hi0, hz0, hz1, hz2⟩ := info_parts info31
  have hpos := ht.pos
  generalize hD : decL s.data.toList = D at *
  have HD := Lib.hid hD; clear hD
  go_enter Tryd.func13, Tryd.ntmps13
  go_wp2_with fail
  go_loopw [0, 3] (fun b v W => ∃ (t : ByteArray) (acc : List A3), b = .string t ∧ Hid (acc ++ decL t.data.toList = D) ∧ acc.length * 3 + t.size ≤ s.size ∧ W.ownsRow w.heap.size 31 3 v acc.length (rowOf acc) ∧ Below w.heap.size w W) (fun b _ _ => strLen b)
  case atStart => exact ⟨s, [], rfl, HD.out, by simp, own_nil _ _ _ _, Below.refl _ _⟩
  case round =>
    obtain ⟨t, acc, rfl, HA, hsz, hown, hbel⟩ := hrel
    by_cases h3 : 3 ≤ (t.size : Int)
    · go_wp2_with fail
      have h30 : 0 < t.size := by omega
      have h31 : 1 < t.size := by omega
      have h32 : 2 < t.size := by omega
      have g31 : (1:Int) < (t.size : Int) := by omega
      have g32 : (2:Int) < (t.size : Int) := by omega
      have hc := decL_cons t (by omega)
      go_region
      rw [hc] at HA
      clear hc
      rw [wrap_byte, wrap_byte, wrap_byte]
      generalize ((t[0]'h30).toNat : Int) = a at *
      generalize ((t[1]'h31).toNat : Int) = b at *
      generalize ((t[2]'h32).toNat : Int) = c at *
      have htab : Tab ((wr.alloc (.cells #[.int .i64 a, .int .i64 b, .int .i64 c] 31)).drew) := (ht.below hbel hpos).below ((Below.refl wr.heap.size wr).alloc (Nat.le_refl _) _).drew (Nat.lt_of_lt_of_le hpos hbel.size)
      go_wp2_with fail
      refine (good_any _ _ _ _ htab).mono ?_
      rintro e w1 ⟨rfl, hb1⟩
      have hsz1 : wr.heap.size < w1.heap.size := by have := hb1.size; simp at this; omega
      have hblk : w1.heap[wr.heap.size]? = some (.cells #[.int .i64 a, .int .i64 b, .int .i64 c] 31) := by
        rw [hb1.block _ (by simp)]; exact heap_alloc_new wr _
      have hb2 : Below wr.heap.size wr w1 := (((Below.refl _ _).alloc (Nat.le_refl _) _).drew).trans (hb1.mono (by simp))
      have hown1 := own_keep hown hb2
      have hbel1 : Below w.heap.size w w1 := hbel.trans (hb2.mono hbel.size)
      have k0 : w1.cell? ⟨wr.heap.size, 0, none⟩ = some (.int .i64 a) := by rw [cell_of_row w1 _ 0 _ _ _ hblk]; rfl
      have k1 : w1.cell? ⟨wr.heap.size, 1, none⟩ = some (.int .i64 b) := by rw [cell_of_row w1 _ 1 _ _ _ hblk]; rfl
      have k2 : w1.cell? ⟨wr.heap.size, 2, none⟩ = some (.int .i64 c) := by rw [cell_of_row w1 _ 2 _ _ _ hblk]; rfl
      clear hb1 hblk hown hbel htab
      have hsl : (t.extract 3 t.size).size = t.size - 3 := by simp
      cases hg : goodB a b c
      · rw [hg] at HA
        clear hg
        go_wp2_with fail
        go_roundw
        case rel => exact ⟨_, acc, rfl, by simpa using HA, by omega, hown1, hbel1⟩
        case measure => simp only [strLen, hsl]; omega
      · rw [hg] at HA
        clear hg
        have hlen : acc.length + 1 ≤ 1000000 := by omega
        go_wp2_with (at_builtin; refine wpList_append_lies _ rfl _ _ _ rfl w.heap.size 31 i0 _ 3 24 Tryd.underlying22 hi0 hz0 hz1 hz2 rfl (by omega) _ acc.length (rowOf acc) rfl (hown1.alloc _) ⟨w1.heap.size, 0, none⟩ 1 1 [.int .i64 a, .int .i64 b, .int .i64 c] rfl rfl ?c1 ?c2 (by omega) ?c3 ?c4 ?c5 _ rfl ?_)
        case c1 => exact World.news_of_block (heap_alloc_new w1 _)
        case c2 => simp [Value.oneCell']
        case c3 => unfold maxLen; omega
        case c4 => omega
        case c5 => exact Nat.le_trans hbel1.size (by simp)
        intro g cap w2 hown2 hgrow hat hlt
        have hb3 : Below w.heap.size w w2 := (hbel1.alloc hbel1.size _).grown hgrow (Nat.le_trans hbel1.size (by simp)) (own_ge hown1)
        clear hgrow hat hlt hown1 hbel1 hb2 k0 k1 k2
        go_wp2_with fail
        go_roundw
        case rel => exact ⟨_, acc ++ [⟨a, b, c⟩], rfl, by simpa [List.append_assoc] using HA, by simp; omega, by simpa [rowOf_append, rowOf_one] using hown2, hb3⟩
        case measure => simp only [strLen, hsl]; omega
    · have hnil : decL t.data.toList = [] := decL_short (by have : t.data.toList.length = t.size := by simp
                                                            omega)
      rw [hnil] at HA
      clear hnil
      go_wp2_with fail
      go_ret
      have hA := HA.out
      rw [List.append_nil] at hA
      subst hA
      exact ⟨_, rfl, hown, hbel⟩
end Go.Proofs.YtmiimmpiagmmlabDoor
