/-
  The contract of script.Encode: the bytes of any acts, or that one of them has no form; only new memory is made. Conditions: at most a million acts, the table has as laid.
-/
import Derived.Test.YtmiimmpiagmmlabDoorDec
import Derived.Laws.BytesArg
import Derived.Laws.IdiomStrings
namespace Go.Proofs.YtmiimmpiagmmlabDoor
open Go.RowKit
set_option linter.unusedVariables false
/-- A slice value reads as a list of acts. -/
def Rd (w : World) (v : Value) (l : List A3) : Prop :=
  (l = [] ∧ ∃ A cap, v = .slice A 0 cap) ∨
  ∃ b o cap, v = .slice (some ⟨b, o, none⟩) l.length cap ∧ ∀ (i : Nat) (a : A3), l[i]? = some a →
    w.cell? ⟨b, o + i * 3, none⟩ = some (.int .i64 a.k) ∧ w.cell? ⟨b, o + i * 3 + 1, none⟩ = some (.int .i64 a.c) ∧ w.cell? ⟨b, o + i * 3 + 2, none⟩ = some (.int .i64 a.l)
def bytesOf (l : List A3) : List UInt8 := l.flatMap fun a => [UInt8.ofNat a.k.toNat, UInt8.ofNat a.c.toNat, UInt8.ofNat a.l.toNat]
def byteRow (l : List UInt8) : List Value := l.map fun b => .int .u8 b.toNat
theorem bytesOf_append (l m : List A3) : bytesOf (l ++ m) = bytesOf l ++ bytesOf m := by simp [bytesOf]
theorem byteRow_append (l m : List UInt8) : byteRow (l ++ m) = byteRow l ++ byteRow m := by simp [byteRow]
theorem bytesOf_length (l : List A3) : (bytesOf l).length = l.length * 3 := by
  induction l with
  | nil => rfl
  | cons a l ih => simp only [bytesOf, List.flatMap_cons, List.length_append, List.length_cons, List.length_nil] at *; omega
def encS (l : List A3) : ByteArray := if l.all A3.ok then ⟨(bytesOf l).toArray⟩ else ByteArray.empty
def encE (l : List A3) : Int := if l.all A3.ok then 0 else 11
theorem ok_range {k c l : Int} (h : goodB k c l = true) : (1 ≤ k ∧ k ≤ 10) ∧ (0 ≤ c ∧ c ≤ 7) ∧ (0 ≤ l ∧ l ≤ 63) := by
  have m : ∀ (n most : Int) (b : Bool), mayB n b most = true → 0 < most → 0 ≤ n ∧ n < most := fun n most b h hm => by
    simp [mayB] at h
    omega
  simp [goodB] at h
  obtain ⟨⟨h1, h2⟩, h3⟩ := h
  have := m _ _ _ h2 (by omega)
  have := m _ _ _ h3 (by omega)
  omega
theorem byte_back {x : Int} (h : 0 ≤ x ∧ x < 256) : IntKind.u8.wrap x = ((UInt8.ofNat x.toNat).toNat : Int) := by
  rw [IntKind.wrap_u8, UInt8.toNat_ofNat']
  omega
theorem conv_bytes {w : World} {base : Nat} {v : Value} {n : Nat} {l : List UInt8} (h : w.ownsRow base 5 1 v n (byteRow l)) : (convert 40 9 v).run Tryd.prog w = .ok (.string ⟨l.toArray⟩) w := by
  have hn : l.length = n := by have := h.1; simp [byteRow] at this; omega
  rcases h.2 with ⟨rfl, h0⟩ | ⟨g, cap, cur, rfl, _⟩
  · have : l = [] := List.eq_nil_of_length_eq_zero (by omega)
    subst this
    exact run_convert_bytes_nil w 40 5 Tryd.underlying40 Tryd.underlying5 0 0 9 Tryd.underlying9
  · subst hn
    refine run_convert_bytes_back w 40 9 5 ⟨g, 0, none⟩ cap l Tryd.underlying40 Tryd.underlying5 Tryd.underlying9 fun j hj => ?_
    refine h.cells (g := g) rfl j _ ?_
    simp [byteRow, List.getElem?_eq_getElem hj]
theorem info5 : (Tryd.prog.info? 5).map (fun i => (i.zero, i.size, i.bytes)) = some (some (.int .u8 0), 1, 1) := by kernel_rfl

theorem enc_all {l : List A3} (h : l.all A3.ok = true) : encS l = ⟨(bytesOf l).toArray⟩ ∧ encE l = 0 := by simp only [encS, encE, h, if_true, and_self]
theorem enc_not {l : List A3} (h : l.all A3.ok = false) : encS l = ByteArray.empty ∧ encE l = 11 := by simp [encS, encE, h]
set_option maxHeartbeats 2000000 in
theorem encode_nil (A : Option Addr) (cap : Nat) (w : World) :
    Calls Tryd.prog 8 #[.slice A 0 cap] w fun e w' => e = .returned (.tuple #[.string ⟨#[]⟩, .int .i64 0]) ∧ Below w.heap.size w w' := by
  go_enter Tryd.func8, Tryd.ntmps8
  go_wp2_with fail
  go_loopw [4, 9] (fun v i W => v = .slice none 0 0 ∧ i = .int .i64 0 ∧ W = w) (fun _ i W => 0)
  case atStart => exact ⟨rfl, rfl, rfl⟩
  case round =>
    obtain ⟨rfl, rfl, rfl⟩ := hrel
    have hcv : ∀ W : World, (convert 40 9 (.slice none 0 0)).run Tryd.prog W = .ok (.string ByteArray.empty) W := fun W => run_convert_bytes_nil W 40 5 Tryd.underlying40 Tryd.underlying5 0 0 9 Tryd.underlying9
    go_wp2_with fail
    go_ret2
    exact ⟨rfl, Below.refl _ _⟩
set_option maxHeartbeats 2000000 in
theorem encode_some (b o cap : Nat) (l : List A3) (hl : 0 < l.length) (hn : l.length ≤ 1000000) (w : World) (ht : Tab w)
    (hrd : ∀ (i : Nat) (a : A3), l[i]? = some a → w.cell? ⟨b, o + i * 3, none⟩ = some (.int .i64 a.k) ∧ w.cell? ⟨b, o + i * 3 + 1, none⟩ = some (.int .i64 a.c) ∧ w.cell? ⟨b, o + i * 3 + 2, none⟩ = some (.int .i64 a.l)) :
    Calls Tryd.prog 8 #[.slice (some ⟨b, o, none⟩) l.length cap] w fun e w' => e = .returned (.tuple #[.string (encS l), .int .i64 (encE l)]) ∧ Below w.heap.size w w' := by
  obtain ⟨i0, hi0, hz0, hz1, hz2⟩ := info_parts info5
  have hpos := ht.pos
  have hb : b < w.heap.size := by
    obtain ⟨a, ha⟩ : ∃ a, l[0]? = some a := ⟨_, List.getElem?_eq_getElem hl⟩
    exact World.block_lt_of_cell? (w := w) (a := ⟨b, _, none⟩) (hrd 0 a ha).1
  have HR := Lib.hid hrd; clear hrd
  generalize hN : l.length = n at *
  have HN := Lib.hid hN; clear hN
  have hn' : (n : Int) ≤ 1000000 := by omega
  have hn0 : (0 : Int) < (n : Int) := by omega
  go_enter Tryd.func8, Tryd.ntmps8
  go_wp2_with fail
  go_loopw [4, 9] (fun v i W => ∃ j : Nat, (j : Int) ≤ n ∧ i = .int .i64 j ∧ Hid ((l.take j).all A3.ok = true) ∧ W.ownsRow w.heap.size 5 1 v (3 * j) (byteRow (bytesOf (l.take j))) ∧ Below w.heap.size w W) (fun _ i _ => n - (intOf i).toNat)
  case atStart => exact ⟨0, by omega, rfl, rfl, own_nil _ _ _ _, Below.refl _ _⟩
  case round =>
    obtain ⟨j, hj, rfl, HA, hown, hbel⟩ := hrel
    by_cases hlt : (j : Int) < n
    · have hj0 : (0:Int) ≤ (j:Int) := by omega
      obtain ⟨a, hget⟩ : ∃ a, l[j]? = some a := ⟨l[j]'(by rw [HN.out]; omega), List.getElem?_eq_getElem (by rw [HN.out]; omega)⟩
      have htake : l.take (j + 1) = l.take j ++ [a] := by rw [List.take_add_one, hget]; rfl
      have HG := Lib.hid hget; clear hget
      have HK := Lib.hid htake; clear htake
      obtain ⟨p1, p2, p3⟩ := HR.out j _ HG.out
      obtain ⟨ak, ac, al⟩ := a
      simp only at p1 p2 p3
      have q1 : wr.cell? ⟨b, o + j * 3, none⟩ = some (.int .i64 ak) := (hbel.cell (p := ⟨b, _, none⟩) hb).trans p1
      have q2 : wr.cell? ⟨b, o + j * 3 + 1, none⟩ = some (.int .i64 ac) := (hbel.cell (p := ⟨b, _, none⟩) hb).trans p2
      have q3 : wr.cell? ⟨b, o + j * 3 + 2, none⟩ = some (.int .i64 al) := (hbel.cell (p := ⟨b, _, none⟩) hb).trans p3
      clear p1 p2 p3
      have htab : Tab (wr.alloc (.cells #[.int .i64 ak, .int .i64 ac, .int .i64 al] 31)) := (ht.below hbel hpos).below ((Below.refl wr.heap.size wr).alloc (Nat.le_refl _) _) (Nat.lt_of_lt_of_le hpos hbel.size)
      go_wp2_with fail
      refine (good_any _ _ _ _ htab).mono ?_
      rintro e w1 ⟨rfl, hb1⟩
      have hsz1 : wr.heap.size < w1.heap.size := by have := hb1.size; simp at this; omega
      have hblk : w1.heap[wr.heap.size]? = some (.cells #[.int .i64 ak, .int .i64 ac, .int .i64 al] 31) := by
        rw [hb1.block _ (by simp)]; exact heap_alloc_new wr _
      have hb2 : Below wr.heap.size wr w1 := ((Below.refl _ _).alloc (Nat.le_refl _) _).trans (hb1.mono (by simp))
      have hown1 := own_keep hown hb2
      have hbel1 : Below w.heap.size w w1 := hbel.trans (hb2.mono hbel.size)
      have k0 : w1.cell? ⟨wr.heap.size, 0, none⟩ = some (.int .i64 ak) := by rw [cell_of_row w1 _ 0 _ _ _ hblk]; rfl
      have k1 : w1.cell? ⟨wr.heap.size, 1, none⟩ = some (.int .i64 ac) := by rw [cell_of_row w1 _ 1 _ _ _ hblk]; rfl
      have k2 : w1.cell? ⟨wr.heap.size, 2, none⟩ = some (.int .i64 al) := by rw [cell_of_row w1 _ 2 _ _ _ hblk]; rfl
      clear hb1 hblk hown hbel htab q1 q2 q3
      cases hg : goodB ak ac al
      · go_wp2_with fail
        go_ret2
        have hbad : l.all A3.ok = false := by
          rw [List.all_eq_false]
          exact ⟨_, List.mem_of_getElem? HG.out, by simp only [A3.ok, hg]; decide⟩
        rw [(enc_not hbad).1, (enc_not hbad).2]
        exact ⟨rfl, hbel1⟩
      · obtain ⟨⟨r1, r2⟩, ⟨r3, r4⟩, ⟨r5, r6⟩⟩ := ok_range hg
        have hlen : 3 * j + 3 ≤ 3000000 := by omega
        go_wp2_with (at_builtin; refine wpList_append_lies _ rfl _ _ _ rfl w.heap.size 5 i0 _ 1 1 Tryd.underlying40 hi0 hz0 hz1 hz2 rfl (by omega) _ (3 * j) (byteRow (bytesOf (l.take j))) rfl (hown1.alloc _) ⟨w1.heap.size, 0, none⟩ 3 3 [.int .u8 ak, .int .u8 ac, .int .u8 al] rfl rfl ?c1 ?c2 (by omega) ?c3 ?c4 ?c5 _ rfl ?_)
        case c1 => exact World.news_of_block (heap_alloc_new w1 _)
        case c2 => simp [Value.oneCell']
        case c3 => unfold maxLen; omega
        case c4 => omega
        case c5 => exact Nat.le_trans hbel1.size (by simp)
        intro g cap2 w2 hown2 hgrow hat hlt2
        have hb3 : Below w.heap.size w w2 := (hbel1.alloc hbel1.size _).grown hgrow (Nat.le_trans hbel1.size (by simp)) (own_ge hown1)
        have hnews : [Value.int .u8 ak, .int .u8 ac, .int .u8 al] = byteRow (bytesOf [⟨ak, ac, al⟩]) := by
          simp only [bytesOf, byteRow, List.flatMap_cons, List.flatMap_nil, List.append_nil, List.map_cons, List.map_nil]
          rw [← byte_back (x := ak) (by omega), ← byte_back (x := ac) (by omega), ← byte_back (x := al) (by omega)]
          rw [IntKind.wrap_u8, IntKind.wrap_u8, IntKind.wrap_u8, Int.emod_eq_of_lt (by omega) (by omega), Int.emod_eq_of_lt (by omega) (by omega), Int.emod_eq_of_lt (by omega) (by omega)]
        have hx : w2.ownsRow w.heap.size 5 1 (.slice (some ⟨g, 0, none⟩) (3 * j + 3) cap2) (3 * (j + 1)) (byteRow (bytesOf (l.take (j + 1)))) := by
          rw [HK.out, bytesOf_append, byteRow_append, ← hnews]
          exact hown2
        have hy : Hid ((l.take (j + 1)).all A3.ok = true) := by
          show (l.take (j + 1)).all A3.ok = true
          rw [HK.out, List.all_append, HA.out]
          simp [A3.ok, hg]
        clear hgrow hat hlt2 hown1 hbel1 hb2 k0 k1 k2 hown2 hnews
        go_wp2_with fail
        go_roundw
        case rel => exact ⟨j + 1, by omega, by go_num, hy, hx, hb3⟩
        case measure => simp [intOf]; omega
    · have hjn : j = n := by omega
      have hall : l.take j = l := by rw [hjn, ← HN.out]; exact List.take_length
      rw [hall] at HA hown
      have hcv := conv_bytes hown
      have hfin := enc_all HA.out
      go_wp2_with fail
      go_ret2
      exact ⟨rfl, hbel⟩
theorem encode_any (v : Value) (l : List A3) (hn : l.length ≤ 1000000) (w : World) (ht : Tab w) (hrd : Rd w v l) :
    Calls Tryd.prog 8 #[v] w fun e w' => e = .returned (.tuple #[.string (encS l), .int .i64 (encE l)]) ∧ Below w.heap.size w w' := by
  rcases hrd with ⟨rfl, A, cap, rfl⟩ | ⟨b, o, cap, rfl, h⟩
  · exact encode_nil A cap w
  · rcases Nat.eq_zero_or_pos l.length with h0 | h0
    · obtain rfl : l = [] := List.eq_nil_of_length_eq_zero h0
      exact encode_nil _ cap w
    · exact encode_some b o cap l h0 hn w ht h
end Go.Proofs.YtmiimmpiagmmlabDoor
