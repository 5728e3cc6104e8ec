/-
  The walk of the law ScriptPieces: it returns true for any two strings and any configuration. Condition: the table has as laid.
-/
import Derived.Test.YtmiimmpiagmmlabDoorBackW
import Derived.BigRegion
import Derived.Test.YtmiimmpiagmmlabDoorRoundP
import Derived.Deep.QuietTactic
import Derived.BigQuiet
namespace Go.Proofs.YtmiimmpiagmmlabDoor
open Go.RowKit
set_option linter.unusedVariables false
theorem decL_step (a b c : UInt8) (r : List UInt8) : decL (a :: b :: c :: r) = if goodB a.toNat b.toNat c.toNat then ⟨a.toNat, b.toNat, c.toNat⟩ :: decL r else decL r := rfl
theorem decL_append : ∀ (n : Nat) (x y : List UInt8), x.length = 3 * n → decL (x ++ y) = decL x ++ decL y
  | 0, x, y, h => by
    have : x = [] := List.eq_nil_of_length_eq_zero (by omega)
    subst this
    rfl
  | n + 1, x, y, h => by
    match x, h with
    | a :: b :: c :: r, h =>
      simp only [List.length_cons] at h
      have ih := decL_append n r y (by omega)
      show decL (a :: b :: c :: (r ++ y)) = _
      rw [decL_step, decL_step, ih]
      split <;> rfl
theorem src_of_own {w : World} {base : Nat} {v : Value} {l : List A3} (h : w.ownsRow base 31 3 v l.length (rowOf l)) : ∃ A c, v = .slice A l.length c ∧ Src w A l.length c 3 (rowOf l) := by
  rcases h.2 with ⟨rfl, h0⟩ | ⟨g, cap, cur, rfl, _⟩
  · have : l = [] := List.eq_nil_of_length_eq_zero h0
    subst this
    exact ⟨none, 0, rfl, .inl ⟨rfl, rfl, rfl, rfl⟩⟩
  · exact ⟨_, cap, rfl, .inr ⟨⟨g, 0, none⟩, rfl, rowOf_length l, fun j u hu => h.cells (g := g) rfl j u hu⟩⟩
set_option maxHeartbeats 4000000 in
theorem pieces_out (s s' : ByteArray) (n m a b c d f : Int) (hout : ¬ (1 ≤ n ∧ n ≤ 8 ∧ 1 ≤ m ∧ m ≤ 64)) (hs : (s.size : Int) ≤ 3000) (hs' : (s'.size : Int) ≤ 3000) (w : World) (ht : Tab w) :
    Calls Tryd.prog 6 #[.string s, .string s', .agg #[.int .i64 n, .int .i64 m, .int .i64 a, .int .i64 b, .int .i64 c, .int .i64 d, .int .i64 f]] w fun e w' => e = .returned (.bool true) ∧ Below w.heap.size w w' := by
  obtain ⟨i0, hi0, hz0, hz1, hz2⟩ := info_parts info31
  have hpos := ht.pos
  have HN := Lib.hid (roundL_out hout)
  clear hout
  go_enter Tryd.func6, Tryd.ntmps6
  go_wp2_with fail
  generalize hWc : w.alloc (.cells #[.int .i64 n, .int .i64 m, .int .i64 a, .int .i64 b, .int .i64 c, .int .i64 d, .int .i64 f] 36) = Wc
  have hsc : Wc.heap.size = w.heap.size + 1 := by rw [← hWc]; simp
  have hcfg : Wc.heap[w.heap.size]? = some (.cells #[.int .i64 n, .int .i64 m, .int .i64 a, .int .i64 b, .int .i64 c, .int .i64 d, .int .i64 f] 36) := by rw [← hWc]; exact heap_alloc_new w _
  have bc : Below w.heap.size w Wc := by rw [← hWc]; exact (Below.refl _ _).alloc (Nat.le_refl _) _
  have htc := ht.below bc hpos
  have hemp : (Wc.alloc (.cells #[] 31)).ownsRow (w.heap.size + 1) 31 3 (.slice (some ⟨w.heap.size + 1, 0, none⟩) 0 0) 0 [] :=
    ⟨by simp, .inr ⟨w.heap.size + 1, 0, #[], rfl, by omega, by rw [← hsc]; exact heap_alloc_new Wc _, Nat.le_refl _, by unfold maxLen; omega, by simp, by simp⟩⟩
  have b0 : Below (w.heap.size + 1) Wc (Wc.alloc (.cells #[] 31)) := (Below.refl _ _).alloc (by rw [hsc]; omega) _
  have HC0 := Lib.hid hcfg
  have HSC := Lib.hid hsc
  clear hWc hcfg hsc
  have hszof : ∀ W, Below (w.heap.size + 1) Wc W → (w.heap.size + 1) ≤ W.heap.size := fun W h => by have := h.size; rw [HSC.out] at this; exact this
  have HZ := Lib.hid hszof
  clear hszof
  obtain ⟨t, ht'⟩ : ∃ t, s.extract 0 (s.size / 3 * 3) = t := ⟨_, rfl⟩
  rw [ht']
  have htz : t.size = s.size / 3 * 3 := by rw [← ht']; simp; omega
  have htz' : t.size ≤ 3000 := by omega
  have hcat : Hid (decL (t.data.toList ++ s'.data.toList) = decL t.data.toList ++ decL s'.data.toList) := decL_append (s.size / 3) _ _ (by rw [show t.data.toList.length = t.size from by simp]; omega)
  have hD1 := dec_len t
  have hD2 := dec_len s'
  clear ht'
  refine (decode_any _ _ (by omega) (htc.below b0 (by omega))).mono ?_
  rintro e w1 ⟨v1, rfl, hown1, hb1⟩
  have b1 := b0.trans (hb1.mono (HZ.out _ b0))
  obtain ⟨A1, c1, rfl, hsrc1⟩ := src_of_own hown1
  have hemp1 := own_keep hemp hb1
  clear hown1 hemp b0 hb1
  have HO1 := Lib.hid (rowOf_one_cell (decL t.data.toList))
  have HO2 := Lib.hid (rowOf_one_cell (decL s'.data.toList))
  go_wp2_with (at_builtin; refine wpList_append_src _ rfl _ _ _ rfl (w.heap.size + 1) 31 i0 _ 3 24 Tryd.underlying22 hi0 hz0 hz1 hz2 rfl (by omega) (.slice (some ⟨w.heap.size + 1, 0, none⟩) 0 0) 0 [] rfl hemp1 A1 _ c1 _ rfl hsrc1 HO1.out ?c3 ?c4 (HZ.out _ b1) ?_)
  case c3 => unfold maxLen; omega
  case c4 => omega
  intro v2 w2 hown2 hg2
  have b2 := b1.grown hg2 (HZ.out _ b1) (fun k hk => by simp [Value.ownBlock] at hk; omega)
  clear hg2 hsrc1 hemp1 b1
  go_wp2_with fail
  refine (decode_any _ _ (by omega) (htc.below b2 (by omega))).mono ?_
  rintro e w3 ⟨v3, rfl, hown3, hb3⟩
  have b3 := b2.trans (hb3.mono (HZ.out _ b2))
  obtain ⟨A3, c3, rfl, hsrc3⟩ := src_of_own hown3
  have hown2' := own_keep hown2 hb3
  clear hown3 hown2 hb3 b2
  go_wp2_with (at_builtin; refine wpList_append_src _ rfl _ _ _ rfl (w.heap.size + 1) 31 i0 _ 3 24 Tryd.underlying22 hi0 hz0 hz1 hz2 rfl (by omega) v2 _ _ rfl hown2' A3 _ c3 _ rfl hsrc3 HO2.out ?c3 ?c4 (HZ.out _ b3) ?_)
  case c3 => unfold maxLen; omega
  case c4 => omega
  intro v4 w4 hown4 hg4
  have b4 := b3.grown hg4 (HZ.out _ b3) (own_ge hown2')
  have hr4 : Rd w4 v4 (decL t.data.toList ++ decL s'.data.toList) := Rd_of_own (base := w.heap.size + 1) (by rw [rowOf_append, List.length_append]; exact hown4)
  clear hg4 hsrc3 hown2' b3 hown4
  go_wp2_with fail
  have hcc : (t ++ s').data.toList = t.data.toList ++ s'.data.toList := by simp [ByteArray.data_append]
  have hcz : (t ++ s').size ≤ 6000 := by rw [ByteArray.size_append]; omega
  generalize t ++ s' = ts at *
  refine (decode_any _ _ (by omega) (htc.below b4 (by omega))).mono ?_
  rintro e w5 ⟨v5, rfl, hown5, hb5⟩
  have b5 := b4.trans (hb5.mono (HZ.out _ b4))
  have hr5 := Rd_of_own hown5
  rw [hcc, hcat.out] at hr5
  have hr45 := hr4.below hb5
  clear hown5 hr4 hb5 b4 hcc
  have hll : (decL t.data.toList ++ decL s'.data.toList).length ≤ 1000000 := by rw [List.length_append]; omega
  go_wp2_with fail
  refine (acts_same _ _ _ _ hll hr5 hr45).mono ?_
  rintro e w6 ⟨rfl, hb6⟩
  have b6 := b5.trans (hb6.mono (HZ.out _ b5))
  clear hr5 hr45 hb6 b5 hll
  have hcf := cells7 (show w6.heap[w.heap.size]? = some (.cells #[.int .i64 n, .int .i64 m, .int .i64 a, .int .i64 b, .int .i64 c, .int .i64 d, .int .i64 f] 36) from by rw [b6.block _ (by omega)]; exact HC0.out)
  obtain ⟨g0, g1, g2, g3, g4, g5, g6⟩ := hcf
  go_wp2_with fail
  refine (round_any _ _ _ _ _ _ _ _).mono ?_
  rintro e w8 ⟨v8, rfl, hown8, hb8⟩
  have b8 := b6.trans (hb8.mono (HZ.out _ b6))
  clear g0 g1 g2 g3 g4 g5 g6
  rw [HN.out] at hown8
  have hv8 : v8 = .slice none 0 0 ∨ ∃ g cap, v8 = .slice (some ⟨g, 0, none⟩) 0 cap := by
    rcases hown8.2 with ⟨h, _⟩ | ⟨g, cap, cur, h, _⟩
    · exact .inl h
    · exact .inr ⟨g, cap, h⟩
  rcases hv8 with rfl | ⟨g8, cap8, rfl⟩
  all_goals
    clear hown8 hb8 b6
    go_wp2_with fail
    go_loopw [9] (fun i W => i = .int .i64 0 ∧ W = w8) (fun i W => 0)
    case atStart => exact ⟨rfl, rfl⟩
    case round =>
      obtain ⟨rfl, rfl⟩ := hrel
      go_wp2_with fail
      refine (wakes_any _ (htc.below b8 (by omega))).mono ?_
      rintro e w9 ⟨rfl, hb9⟩
      go_wp2_with fail
      go_ret
      exact ⟨rfl, bc.trans ((b8.trans (hb9.mono (HZ.out _ b8))).mono (by omega))⟩
set_option maxHeartbeats 4000000 in
theorem pieces_in (s s' : ByteArray) (n m : Nat) (a b c d f : Int) (h1 : 1 ≤ (n:Int)) (h2 : (n:Int) ≤ 8) (h3 : 1 ≤ (m:Int)) (h4 : (m:Int) ≤ 64) (hs : (s.size : Int) ≤ 3000) (hs' : (s'.size : Int) ≤ 3000) (w : World) (ht : Tab w) :
    Calls Tryd.prog 6 #[.string s, .string s', .agg #[.int .i64 (n : Int), .int .i64 (m : Int), .int .i64 a, .int .i64 b, .int .i64 c, .int .i64 d, .int .i64 f]] w fun e w' => e = .returned (.bool true) ∧ Below w.heap.size w w' := by
  obtain ⟨i0, hi0, hz0, hz1, hz2⟩ := info_parts info31
  have hpos := ht.pos
  have HN := Lib.hid (roundL_in h1 h2 h3 h4)
  go_enter Tryd.func6, Tryd.ntmps6
  go_wp2_with fail
  generalize hWc : w.alloc (.cells #[.int .i64 (n : Int), .int .i64 (m : Int), .int .i64 a, .int .i64 b, .int .i64 c, .int .i64 d, .int .i64 f] 36) = Wc
  have hsc : Wc.heap.size = w.heap.size + 1 := by rw [← hWc]; simp
  have hcfg : Wc.heap[w.heap.size]? = some (.cells #[.int .i64 (n : Int), .int .i64 (m : Int), .int .i64 a, .int .i64 b, .int .i64 c, .int .i64 d, .int .i64 f] 36) := by rw [← hWc]; exact heap_alloc_new w _
  have bc : Below w.heap.size w Wc := by rw [← hWc]; exact (Below.refl _ _).alloc (Nat.le_refl _) _
  have htc := ht.below bc hpos
  have hemp : (Wc.alloc (.cells #[] 31)).ownsRow (w.heap.size + 1) 31 3 (.slice (some ⟨w.heap.size + 1, 0, none⟩) 0 0) 0 [] :=
    ⟨by simp, .inr ⟨w.heap.size + 1, 0, #[], rfl, by omega, by rw [← hsc]; exact heap_alloc_new Wc _, Nat.le_refl _, by unfold maxLen; omega, by simp, by simp⟩⟩
  have b0 : Below (w.heap.size + 1) Wc (Wc.alloc (.cells #[] 31)) := (Below.refl _ _).alloc (by rw [hsc]; omega) _
  have HC0 := Lib.hid hcfg
  have HSC := Lib.hid hsc
  clear hWc hcfg hsc
  have hszof : ∀ W, Below (w.heap.size + 1) Wc W → (w.heap.size + 1) ≤ W.heap.size := fun W h => by have := h.size; rw [HSC.out] at this; exact this
  have HZ := Lib.hid hszof
  clear hszof
  obtain ⟨t, ht'⟩ : ∃ t, s.extract 0 (s.size / 3 * 3) = t := ⟨_, rfl⟩
  rw [ht']
  have htz : t.size = s.size / 3 * 3 := by rw [← ht']; simp; omega
  have htz' : t.size ≤ 3000 := by omega
  have hcat : Hid (decL (t.data.toList ++ s'.data.toList) = decL t.data.toList ++ decL s'.data.toList) := decL_append (s.size / 3) _ _ (by rw [show t.data.toList.length = t.size from by simp]; omega)
  have hD1 := dec_len t
  have hD2 := dec_len s'
  clear ht'
  refine (decode_any _ _ (by omega) (htc.below b0 (by omega))).mono ?_
  rintro e w1 ⟨v1, rfl, hown1, hb1⟩
  have b1 := b0.trans (hb1.mono (HZ.out _ b0))
  obtain ⟨A1, c1, rfl, hsrc1⟩ := src_of_own hown1
  have hemp1 := own_keep hemp hb1
  clear hown1 hemp b0 hb1
  have HO1 := Lib.hid (rowOf_one_cell (decL t.data.toList))
  have HO2 := Lib.hid (rowOf_one_cell (decL s'.data.toList))
  go_wp2_with (at_builtin; refine wpList_append_src _ rfl _ _ _ rfl (w.heap.size + 1) 31 i0 _ 3 24 Tryd.underlying22 hi0 hz0 hz1 hz2 rfl (by omega) (.slice (some ⟨w.heap.size + 1, 0, none⟩) 0 0) 0 [] rfl hemp1 A1 _ c1 _ rfl hsrc1 HO1.out ?c3 ?c4 (HZ.out _ b1) ?_)
  case c3 => unfold maxLen; omega
  case c4 => omega
  intro v2 w2 hown2 hg2
  have b2 := b1.grown hg2 (HZ.out _ b1) (fun k hk => by simp [Value.ownBlock] at hk; omega)
  clear hg2 hsrc1 hemp1 b1
  go_wp2_with fail
  refine (decode_any _ _ (by omega) (htc.below b2 (by omega))).mono ?_
  rintro e w3 ⟨v3, rfl, hown3, hb3⟩
  have b3 := b2.trans (hb3.mono (HZ.out _ b2))
  obtain ⟨A3, c3, rfl, hsrc3⟩ := src_of_own hown3
  have hown2' := own_keep hown2 hb3
  clear hown3 hown2 hb3 b2
  go_wp2_with (at_builtin; refine wpList_append_src _ rfl _ _ _ rfl (w.heap.size + 1) 31 i0 _ 3 24 Tryd.underlying22 hi0 hz0 hz1 hz2 rfl (by omega) v2 _ _ rfl hown2' A3 _ c3 _ rfl hsrc3 HO2.out ?c3 ?c4 (HZ.out _ b3) ?_)
  case c3 => unfold maxLen; omega
  case c4 => omega
  intro v4 w4 hown4 hg4
  have b4 := b3.grown hg4 (HZ.out _ b3) (own_ge hown2')
  have hr4 : Rd w4 v4 (decL t.data.toList ++ decL s'.data.toList) := Rd_of_own (base := w.heap.size + 1) (by rw [rowOf_append, List.length_append]; exact hown4)
  clear hg4 hsrc3 hown2' b3 hown4
  go_wp2_with fail
  have hcc : (t ++ s').data.toList = t.data.toList ++ s'.data.toList := by simp [ByteArray.data_append]
  have hcz : (t ++ s').size ≤ 6000 := by rw [ByteArray.size_append]; omega
  generalize t ++ s' = ts at *
  refine (decode_any _ _ (by omega) (htc.below b4 (by omega))).mono ?_
  rintro e w5 ⟨v5, rfl, hown5, hb5⟩
  have b5 := b4.trans (hb5.mono (HZ.out _ b4))
  have hr5 := Rd_of_own hown5
  rw [hcc, hcat.out] at hr5
  have hr45 := hr4.below hb5
  clear hown5 hr4 hb5 b4 hcc
  have hll : (decL t.data.toList ++ decL s'.data.toList).length ≤ 1000000 := by rw [List.length_append]; omega
  go_wp2_with fail
  refine (acts_same _ _ _ _ hll hr5 hr45).mono ?_
  rintro e w6 ⟨rfl, hb6⟩
  have b6 := b5.trans (hb6.mono (HZ.out _ b5))
  clear hr5 hr45 hb6 b5 hll
  have hcf := cells7 (show w6.heap[w.heap.size]? = some (.cells #[.int .i64 (n : Int), .int .i64 (m : Int), .int .i64 a, .int .i64 b, .int .i64 c, .int .i64 d, .int .i64 f] 36) from by rw [b6.block _ (by omega)]; exact HC0.out)
  obtain ⟨g0, g1, g2, g3, g4, g5, g6⟩ := hcf
  go_wp2_with fail
  refine (round_any _ _ _ _ _ _ _ _).mono ?_
  rintro e w8 ⟨v8, rfl, hown8, hb8⟩
  have b8 := b6.trans (hb8.mono (HZ.out _ b6))
  clear g0 g1 g2 g3 g4 g5 g6
  rw [HN.out] at hown8
  have hlen8 : (roundC n ++ roundN m).length = 5 * n + 2 * m := by rw [List.length_append, roundC_length, roundN_length]
  obtain ⟨g8, cap8, hv8, _, _⟩ := hown8.form (by omega)
  rw [hlen8] at hv8
  have hcl : ∀ i, i < 5 * n + 2 * m → w8.cell? ⟨g8, i * 3, none⟩ = some (.int .i64 (actAt n i).k) ∧ w8.cell? ⟨g8, i * 3 + 1, none⟩ = some (.int .i64 (actAt n i).c) ∧ w8.cell? ⟨g8, i * 3 + 2, none⟩ = some (.int .i64 (actAt n i).l) := by
    intro i hi
    rcases Rd_of_own hown8 with ⟨h, _⟩ | ⟨b', o', c', he, h⟩
    · rw [h] at hlen8; simp at hlen8; omega
    · rw [hv8] at he
      injection he with e1 e2 e3
      injection e1 with e1
      injection e1 with e1 e4
      subst e1 e4
      have := h i _ (round_get hi)
      simpa using this
  have HCL := Lib.hid hcl
  have hg8 : g8 < w8.heap.size := World.block_lt_of_cell? (w := w8) (a := ⟨g8, 0 * 3, none⟩) (hcl 0 (by omega)).1
  subst hv8
  clear hown8 hb8 b6 hcl hlen8
  have hm5 : (n : Int) * 5 ≤ 40 := by omega
  go_wp2_with fail
  go_loopw [9] (fun i W => ∃ j : Nat, (j : Int) ≤ 5 * (n : Int) + 2 * (m : Int) ∧ i = .int .i64 j ∧ Below w8.heap.size w8 W) (fun i W => (5 * n + 2 * m) - (intOf i).toNat)
  case atStart => exact ⟨0, by omega, rfl, Below.refl _ _⟩
  case round =>
    obtain ⟨j, hj, rfl, hbel⟩ := hrel
    have br := b8.trans (hbel.mono (HZ.out _ b8))
    have htr := htc.below br (by omega)
    by_cases hlt : (j : Int) < 5 * (n : Int) + 2 * (m : Int)
    · have hjL : j < 5 * n + 2 * m := by omega
      have hj0 : (0:Int) ≤ (j:Int) := by omega
      have hc := HCL.out j hjL
      have q1 : wr.cell? ⟨g8, j * 3, none⟩ = some (.int .i64 (actAt n j).k) := (hbel.cell (p := ⟨g8, _, none⟩) hg8).trans hc.1
      have q2 : wr.cell? ⟨g8, j * 3 + 1, none⟩ = some (.int .i64 (actAt n j).c) := (hbel.cell (p := ⟨g8, _, none⟩) hg8).trans hc.2.1
      have q3 : wr.cell? ⟨g8, j * 3 + 2, none⟩ = some (.int .i64 (actAt n j).l) := (hbel.cell (p := ⟨g8, _, none⟩) hg8).trans hc.2.2
      have HG := Lib.hid (actAt_ok (n := n) (m := m) (i := j) (by omega) (by omega) hjL)
      clear hc
      go_wp2_with fail
      refine (good_any _ _ _ _ htr).mono ?_
      rintro e wg ⟨rfl, hbg⟩
      rw [HG.out]
      have hbelg := hbel.trans (hbg.mono hbel.size)
      clear q1 q2 q3 hbel br htr hbg
      go_wp2_with fail
      obtain ⟨wo, rfl⟩ : ∃ wo : World, wo = wr := ⟨_, rfl⟩
      go_loopw [10] (fun i W => ∃ k : Nat, (k : Int) ≤ (j : Int) ∧ i = .int .i64 k ∧ Below w8.heap.size w8 W) (fun i W => j - (intOf i).toNat)
      case atStart => exact ⟨0, by omega, rfl, hbelg⟩
      case round =>
        clear hbelg
        obtain ⟨k, hk, rfl, hbel⟩ := hrel
        by_cases hltk : (k : Int) < (j : Int)
        · have hc := HCL.out j hjL
          have hc' := HCL.out k (by omega)
          have q1 : wr.cell? ⟨g8, j * 3, none⟩ = some (.int .i64 (actAt n j).k) := (hbel.cell (p := ⟨g8, _, none⟩) hg8).trans hc.1
          have q2 : wr.cell? ⟨g8, j * 3 + 1, none⟩ = some (.int .i64 (actAt n j).c) := (hbel.cell (p := ⟨g8, _, none⟩) hg8).trans hc.2.1
          have q3 : wr.cell? ⟨g8, j * 3 + 2, none⟩ = some (.int .i64 (actAt n j).l) := (hbel.cell (p := ⟨g8, _, none⟩) hg8).trans hc.2.2
          have p1 : wr.cell? ⟨g8, k * 3, none⟩ = some (.int .i64 (actAt n k).k) := (hbel.cell (p := ⟨g8, _, none⟩) hg8).trans hc'.1
          have p2 : wr.cell? ⟨g8, k * 3 + 1, none⟩ = some (.int .i64 (actAt n k).c) := (hbel.cell (p := ⟨g8, _, none⟩) hg8).trans hc'.2.1
          have p3 : wr.cell? ⟨g8, k * 3 + 2, none⟩ = some (.int .i64 (actAt n k).l) := (hbel.cell (p := ⟨g8, _, none⟩) hg8).trans hc'.2.2
          have hne := actAt_ne (n := n) (k := k) (i := j) (by omega)
          clear hc hc'
          generalize (actAt n j).k = jk at *
          generalize (actAt n j).c = jc at *
          generalize (actAt n j).l = jl at *
          generalize (actAt n k).k = kk at *
          generalize (actAt n k).c = kc at *
          generalize (actAt n k).l = kl at *
          have hk0 : (0:Int) ≤ (k:Int) := by omega
          have hkL : (k:Int) < 5 * (n : Int) + 2 * (m : Int) := by omega
          have hthree : (kk == jk) = false ∨ (kk = jk ∧ (kc == jc) = false) ∨ (kk = jk ∧ kc = jc ∧ (kl == jl) = false) := by
            by_cases e1 : kk = jk
            · by_cases e2 : kc = jc
              · exact .inr (.inr ⟨e1, e2, by simpa using (by omega : ¬ kl = jl)⟩)
              · exact .inr (.inl ⟨e1, by simpa using e2⟩)
            · exact .inl (by simpa using e1)
          clear hne HG
          rcases hthree with e1 | ⟨rfl, e1⟩ | ⟨rfl, rfl, e1⟩
          all_goals
            go_wp2_with fail
            go_quiet (fail)
            go_wp2_with fail
            go_roundw
            case rel => exact ⟨k + 1, by omega, by go_num, hbel.trans ⟨rfl, rfl, rfl, Nat.le_refl _, fun _ _ => rfl⟩⟩
            case measure => simp [intOf]; omega
        · go_wp2_with fail
          go_roundw
          case rel => exact ⟨j + 1, by omega, by go_num, hbel⟩
          case measure => simp [intOf]; omega
    · have hjL : (j : Int) = 5 * (n : Int) + 2 * (m : Int) := by omega
      have hcf := cells7 (show wr.heap[w.heap.size]? = some (.cells #[.int .i64 (n : Int), .int .i64 (m : Int), .int .i64 a, .int .i64 b, .int .i64 c, .int .i64 d, .int .i64 f] 36) from by rw [br.block _ (by omega)]; exact HC0.out)
      obtain ⟨g0, g1, _, _, _, _, _⟩ := hcf
      clear hjL
      go_wp2_with fail
      refine (wakes_any _ htr).mono ?_
      rintro e w9 ⟨rfl, hb9⟩
      go_wp2_with fail
      go_ret
      exact ⟨rfl, bc.trans ((br.trans (hb9.mono (HZ.out _ br))).mono (by omega))⟩
theorem pieces_long (s s' : ByteArray) (n m a b c d f : Int) (hlong : 3000 < (s.size : Int) ∨ 3000 < (s'.size : Int)) (w : World) (ht : Tab w) :
    Calls Tryd.prog 6 #[.string s, .string s', .agg #[.int .i64 n, .int .i64 m, .int .i64 a, .int .i64 b, .int .i64 c, .int .i64 d, .int .i64 f]] w fun e w' => e = .returned (.bool true) ∧ Below w.heap.size w w' := by
  have hpos := ht.pos
  generalize hO : (.cells #[.int .i64 n, .int .i64 m, .int .i64 a, .int .i64 b, .int .i64 c, .int .i64 d, .int .i64 f] 36 : Obj) = O
  have b0 : Below w.heap.size w (w.alloc O) := (Below.refl _ _).alloc (Nat.le_refl _) _
  have ht0 := ht.below b0 hpos
  subst hO
  by_cases h1 : 3000 < (s.size : Int)
  · clear hlong
    go_enter Tryd.func6, Tryd.ntmps6
    go_wp2_with fail
    refine (wakes_any _ ht0).mono ?_
    rintro e w1 ⟨rfl, hb⟩
    go_wp2_with fail
    go_ret
    exact ⟨rfl, b0.trans (hb.mono b0.size)⟩
  · have h2 : 3000 < (s'.size : Int) := by omega
    clear hlong
    go_enter Tryd.func6, Tryd.ntmps6
    go_wp2_with fail
    refine (wakes_any _ ht0).mono ?_
    rintro e w1 ⟨rfl, hb⟩
    go_wp2_with fail
    go_ret
    exact ⟨rfl, b0.trans (hb.mono b0.size)⟩
theorem scriptPieces_walk (s s' : ByteArray) (n m a b c d f : Int) (w : World) (ht : Tab w) :
    Calls Tryd.prog 6 #[.string s, .string s', .agg #[.int .i64 n, .int .i64 m, .int .i64 a, .int .i64 b, .int .i64 c, .int .i64 d, .int .i64 f]] w fun e w' => e = .returned (.bool true) ∧ Below w.heap.size w w' := by
  by_cases h : 3000 < (s.size : Int) ∨ 3000 < (s'.size : Int)
  · exact pieces_long s s' n m a b c d f h w ht
  · by_cases hr : 1 ≤ n ∧ n ≤ 8 ∧ 1 ≤ m ∧ m ≤ 64
    · obtain ⟨h1, h2, h3, h4⟩ := hr
      obtain ⟨x, rfl⟩ := Int.eq_ofNat_of_zero_le (show 0 ≤ n by omega)
      obtain ⟨y, rfl⟩ := Int.eq_ofNat_of_zero_le (show 0 ≤ m by omega)
      exact pieces_in s s' x y a b c d f h1 h2 h3 h4 (by omega) (by omega) w ht
    · exact pieces_out s s' n m a b c d f hr (by omega) (by omega) w ht
end Go.Proofs.YtmiimmpiagmmlabDoor
