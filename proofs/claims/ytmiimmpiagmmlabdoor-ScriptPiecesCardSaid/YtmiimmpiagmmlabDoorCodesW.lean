/-
  The walk of the law ScriptCodes: it returns true for any acts and bytes. Condition: the table has as laid.
-/
import Derived.Test.YtmiimmpiagmmlabDoorWakes
import Derived.Test.YtmiimmpiagmmlabDoorArg
import Derived.Test.YtmiimmpiagmmlabDoorRefDec
import Derived.Test.YtmiimmpiagmmlabDoorRefEnc
import Derived.Deep.RegionHeld3
namespace Go.Proofs.YtmiimmpiagmmlabDoor
open Go.RowKit
set_option linter.unusedVariables false
set_option maxHeartbeats 2000000 in
theorem codes_long (v : Value) (n : Nat) (A : Option Addr) (cap : Nat) (hv : v = .slice A n cap) (s : ByteArray) (hlong : 500 < (n : Int) ∨ 3000 < (s.size : Int)) (w : World) (ht : Tab w) :
    Calls Tryd.prog 3 #[v, .string s] w fun e w' => e = .returned (.bool true) ∧ Below w.heap.size w w' := by
  subst hv
  by_cases h1 : 500 < (n : Int)
  · clear hlong
    go_enter Tryd.func3, Tryd.ntmps3
    go_wp2_with fail
    refine (wakes_any _ ht).mono ?_
    rintro e w1 ⟨rfl, hb⟩
    go_wp2_with fail
    go_ret
    exact ⟨rfl, hb⟩
  · have h2 : 3000 < (s.size : Int) := by omega
    clear hlong
    go_enter Tryd.func3, Tryd.ntmps3
    go_wp2_with fail
    refine (wakes_any _ ht).mono ?_
    rintro e w1 ⟨rfl, hb⟩
    go_wp2_with fail
    go_ret
    exact ⟨rfl, hb⟩
theorem keep3 {W W' : World} {b i0 i1 i2 : Nat} {u0 u1 u2 : Value} (h : W.cell? ⟨b, i0, none⟩ = some u0 ∧ W.cell? ⟨b, i1, none⟩ = some u1 ∧ W.cell? ⟨b, i2, none⟩ = some u2) (hb : Below W.heap.size W W') :
    W'.cell? ⟨b, i0, none⟩ = some u0 ∧ W'.cell? ⟨b, i1, none⟩ = some u1 ∧ W'.cell? ⟨b, i2, none⟩ = some u2 := by
  have hlt : b < W.heap.size := World.block_lt_of_cell? (w := W) (a := ⟨b, i0, none⟩) h.1
  exact ⟨(hb.cell (p := ⟨b, i0, none⟩) hlt).trans h.1, (hb.cell (p := ⟨b, i1, none⟩) hlt).trans h.2.1, (hb.cell (p := ⟨b, i2, none⟩) hlt).trans h.2.2⟩
theorem Src.below {w w' : World} {A : Option Addr} {m c size : Nat} {news : List Value} (h : Src w A m c size news) (hb : Below w.heap.size w w') : Src w' A m c size news := by
  rcases h with h | ⟨ad, rfl, hl, hc⟩
  · exact .inl h
  · exact .inr ⟨ad, rfl, hl, fun j u hu => (hb.cell (World.block_lt_of_cell? (w := w) (a := ad.add j) (hc j u hu))).trans (hc j u hu)⟩
theorem decL_le (s : ByteArray) (h : (s.size : Int) ≤ 3000) : (decL s.data.toList).length ≤ 1000000 := by
  have key : ∀ (n : Nat) (l : List UInt8), l.length ≤ n → (decL l).length ≤ n := by
    intro n
    induction n using Nat.strongRecOn with
    | ind n ih =>
      intro l hl
      match l, hl with
      | [], _ => simp [decL]
      | [_], _ => simp [decL]
      | [_, _], _ => simp [decL]
      | a :: b :: c :: r, hl =>
        simp only [List.length_cons] at hl
        have := ih (n - 3) (by omega) r (by omega)
        unfold decL
        split
        · simp only [List.length_cons]; omega
        · omega
  have := key s.data.toList.length s.data.toList (Nat.le_refl _)
  have hz : s.data.toList.length = s.size := by simp
  omega
set_option maxHeartbeats 4000000 in
theorem codes_short (A : Option Addr) (cap : Nat) (l : List A3) (s : ByteArray) (hn : (l.length : Int) ≤ 500) (hs : (s.size : Int) ≤ 3000) (w : World) (ht : Tab w) (hrd : Ra w A cap l) :
    Calls Tryd.prog 3 #[.slice A l.length cap, .string s] w fun e w' => e = .returned (.bool true) ∧ Below w.heap.size w w' := by
  obtain ⟨i0, hi0, hz0, hz1, hz2⟩ := info_parts info31
  have hpos := ht.pos
  have hsrc := hrd.src
  have hrl := hrd.rd
  have HP := Lib.hid (fun h0 => hrd.pos h0)
  have hoc := rowOf_one_cell l
  have HO := Lib.hid hoc
  have hD := decL_le s hs
  have HD := Lib.hid hD
  clear hoc hrd hD
  generalize hN : l.length = n at *
  have HN := Lib.hid hN; clear hN
  have hn1 : n ≤ 1000000 := by omega
  go_enter Tryd.func3, Tryd.ntmps3
  go_wp2_with (at_builtin; refine wpList_append_src _ rfl _ _ _ rfl w.heap.size 31 i0 _ 3 24 Tryd.underlying22 hi0 hz0 hz1 hz2 rfl (by omega) (.slice (some ⟨w.heap.size, 0, none⟩) 0 0) 0 [] rfl ?c0 A n cap (rowOf l) rfl ?c1 HO.out ?c3 ?c4 ?c5 ?_)
  case c0 => exact ⟨by simp, .inr ⟨w.heap.size, 0, #[], rfl, Nat.le_refl _, heap_alloc_new w _, Nat.le_refl _, by unfold maxLen; omega, by simp, by simp⟩⟩
  case c1 => exact hsrc.below ((Below.refl _ _).alloc (Nat.le_refl _) _)
  case c3 => unfold maxLen; omega
  case c4 => omega
  case c5 => simp
  intro v' w1 hown1 hgrow
  have b1 : Below w.heap.size w w1 := ((Below.refl _ _).alloc (Nat.le_refl _) _).grown hgrow (by simp) (fun k hk => by simp [Value.ownBlock] at hk; omega)
  have hin : Rd w1 v' l := Rd_of_own (base := w.heap.size) (by rw [HN.out]; exact hown1)
  clear hgrow hown1
  have hle : l.length ≤ 1000000 := by rw [HN.out]; exact hn1
  have HLE := Lib.hid hle; clear hle
  go_wp2_with fail
  refine (encode_any _ _ HLE.out _ (ht.below b1 hpos) hin).mono ?_
  rintro e w2 ⟨rfl, hb2⟩
  have b2 := b1.trans (hb2.mono b1.size)
  have hin2 := hin.below hb2
  have hrl2 := hrl.below b2
  go_wp2_with fail
  refine (refencode_any _ _ HLE.out _ hrl2).mono ?_
  rintro e w3 ⟨rfl, hb3⟩
  have b3 := b2.trans (hb3.mono b2.size)
  have hin3 := hin2.below hb3
  have hrl3 := hrl2.below hb3
  clear hin hin2 hrl2 hb2 hb3 b1 b2
  go_wp2_with fail
  go_loopw [10] (fun i W => ∃ j : Nat, (j : Int) ≤ n ∧ i = .int .i64 j ∧ Below w3.heap.size w3 W) (fun i W => n - (intOf i).toNat)
  case atStart => exact ⟨0, by omega, rfl, Below.refl _ _⟩
  case round =>
    obtain ⟨j, hj, rfl, hbel⟩ := hrel
    have br : Below w.heap.size w wr := b3.trans (hbel.mono b3.size)
    have htr := ht.below br hpos
    by_cases hlt : (j : Int) < n
    · obtain ⟨b, o, rfl⟩ := HP.out (by omega)
      have hj0 : (0:Int) ≤ (j:Int) := by omega
      obtain ⟨a, hget⟩ : ∃ a, l[j]? = some a := ⟨l[j]'(by rw [HN.out]; omega), List.getElem?_eq_getElem (by rw [HN.out]; omega)⟩
      have hcells : wr.cell? ⟨b, o + j * 3, none⟩ = some (.int .i64 a.k) ∧ wr.cell? ⟨b, o + j * 3 + 1, none⟩ = some (.int .i64 a.c) ∧ wr.cell? ⟨b, o + j * 3 + 2, none⟩ = some (.int .i64 a.l) := by
        rcases hrl3.below hbel with ⟨rfl, _⟩ | ⟨b', o', c', he, h⟩
        · simp at hget
        · injection he with h1 h2 h3
          injection h1 with h1
          injection h1 with h1 h4
          subst h1 h4
          exact h j a hget
      obtain ⟨ak, ac, al⟩ := a
      simp only at hcells
      have HCL := Lib.hid hcells
      obtain ⟨q1, q2, q3⟩ := hcells
      clear hget
      go_wp2_with fail
      go_region_held3 (fun w' => w'.cell? ⟨b, o + j * 3, none⟩ = some (.int .i64 ak) ∧ w'.cell? ⟨b, o + j * 3 + 1, none⟩ = some (.int .i64 ac) ∧ w'.cell? ⟨b, o + j * 3 + 2, none⟩ = some (.int .i64 al)) (first | go_keep | exact hkA | exact hkB)
        (first
          | (go_at_call 10; refine (good_any _ _ _ _ (show Tab wr.drew from htr)).mono ?_; rintro e wA ⟨rfl, hbA⟩; have hkA := keep3 (W := wr.drew) HCL.out hbA)
          | (go_at_call 11; refine (refgood_any _ _ _ _).mono ?_; rintro e wB ⟨rfl, hbB⟩; have hkB := keep3 hkA hbB; have hbAB := Below.trans (hbel.drew.trans (hbA.mono hbel.size)) (hbB.mono (Nat.le_trans hbel.size hbA.size))))
      clear q1 q2 q3 hkA hkB hbA hbB
      go_wp2_with fail
      go_roundw
      case rel => exact ⟨j + 1, by omega, by go_num, hbAB⟩
      case measure => simp [intOf]; omega
    · have hinr := hin3.below hbel
      have hrlr := hrl3.below hbel
      clear hin3 hrl3 hrl hsrc hbel
      go_wp2_with fail
      refine (decode_any _ _ (by omega) htr).mono ?_
      rintro e w4 ⟨v4, rfl, hown4, hb4⟩
      have b4 := br.trans (hb4.mono br.size)
      have hr4 := Rd_of_own hown4
      go_wp2_with fail
      refine (refdecode_any _ _ (by omega)).mono ?_
      rintro e w5 ⟨v5, rfl, hown5, hb5⟩
      have b5 := b4.trans (hb5.mono b4.size)
      have hr5 := Rd_of_own hown5
      have hr45 := hr4.below hb5
      clear hown4 hown5 hr4
      go_wp2_with fail
      refine (acts_same _ _ _ _ HD.out hr45 hr5).mono ?_
      rintro e w6 ⟨rfl, hb6⟩
      have b6 := b5.trans (hb6.mono b5.size)
      have bw : Below wr.heap.size wr w6 := (hb4.trans (hb5.mono hb4.size)).trans (hb6.mono (Nat.le_trans hb4.size hb5.size))
      go_wp2_with fail
      refine (acts_same _ _ _ _ HLE.out (hinr.below bw) (hrlr.below bw)).mono ?_
      rintro e w7 ⟨rfl, hb7⟩
      have b7 := b6.trans (hb7.mono b6.size)
      go_wp2_with fail
      refine (wakes_any _ (ht.below b7 hpos)).mono ?_
      rintro e w8 ⟨rfl, hb8⟩
      have b8 := b7.trans (hb8.mono b7.size)
      go_wp2_with fail
      go_ret
      exact ⟨rfl, b8⟩
theorem scriptCodes_walk (A : Option Addr) (cap : Nat) (l : List A3) (s : ByteArray) (w : World) (ht : Tab w) (hrd : Ra w A cap l) :
    Calls Tryd.prog 3 #[.slice A l.length cap, .string s] w fun e w' => e = .returned (.bool true) ∧ Below w.heap.size w w' := by
  by_cases h : 500 < (l.length : Int) ∨ 3000 < (s.size : Int)
  · exact codes_long _ l.length A cap rfl s h w ht
  · exact codes_short A cap l s (by omega) (by omega) w ht hrd
end Go.Proofs.YtmiimmpiagmmlabDoor
