/-
  The law SbufPlays: what the call returns. Conditions stand in each statement.
-/
import Derived.Test.YtmiimmpiagmmlacPlaysA
namespace Go.Proofs.Ytmiimmpiagmmlac
open Go.RowKit
set_option linter.unusedVariables false
set_option linter.unusedSimpArgs false
theorem take_at {P : Program} {ops : Array Oper} {Q : Exit → Act → World → Prop} {md : Region.Mode} {S : World → Prop} (i d : Nat) {oi : Oper} {v : Value} {fuel : Nat} {listed : Array Bool} {a : Act} {w : World} (hi : ops[i]? = some oi) (hd : oi.dst = some d)
    (hs : Region.noSelect ops = true) (hf : Region.free md ops listed i = true) (hr : (Region.ready md ops listed).contains i = true)
    (hQ : ∀ c a w, Q (.panic c) (a.put oi.dst v) w → Q (.panic c) a w) (hy : YieldsIf P ops S oi v a) (hS : S w)
    (h : wpAnyH P md ops Q S fuel (listed.setIfInBounds i true) { a with tmps := a.tmps.setIfInBounds d v } w) : wpAnyH P md ops Q S (fuel + 1) listed a w :=
  wpAnyH_take hi hs hf hr hQ hy hS (by rw [hd]; exact h)
/-- Both buffers hold the same entries, and what was there is as it was. -/
structure Pl (w W : World) (b r room : Nat) (L : List Ent) : Prop where
  sq : SQ W b room L
  rq : RQ W r room L
  br : b < r
  base : w.heap.size ≤ b
  below : Below w.heap.size w W
/-- The block of the step at hand. -/
def X0 (wr : World) (k : Int) (e : Ent) : Prop :=
  (wr.alloc (.cells #[.int .i64 k, .int .i64 e.kind, .int .i64 e.line, .int .i64 e.word, .int .u64 e.val, .bool e.sent] 48)).heap[wr.heap.size]? = some (.cells #[.int .i64 k, .int .i64 e.kind, .int .i64 e.line, .int .i64 e.word, .int .u64 e.val, .bool e.sent] 48) ∧ Below wr.heap.size wr (wr.alloc (.cells #[.int .i64 k, .int .i64 e.kind, .int .i64 e.line, .int .i64 e.word, .int .u64 e.val, .bool e.sent] 48)) ∧ wr.heap.size < (wr.alloc (.cells #[.int .i64 k, .int .i64 e.kind, .int .i64 e.line, .int .i64 e.word, .int .u64 e.val, .bool e.sent] 48)).heap.size
theorem Pl.below' {w W W' : World} {b r room : Nat} {L : List Ent} (h : Pl w W b r room L) (hb : Below W.heap.size W W') : Pl w W' b r room L :=
  ⟨h.sq.below hb, h.rq.below hb, h.br, h.base, h.below.trans (hb.mono h.below.size)⟩
theorem only_below_of {w W W' : World} {k : Nat} (h : Below w.heap.size w W) (ho : W.grownBy W' (some k)) (hk : w.heap.size ≤ k) : Below w.heap.size w W' :=
  h.grown ho h.size (fun q hq => by have := Option.some.inj hq; omega)
set_option maxRecDepth 100000 in
set_option maxHeartbeats 8000000 in
theorem plays_in (room : Nat) (h1 : 1 ≤ room) (h2 : room ≤ 16) (A : Option Addr) (cap : Nat) (l : List Stp) (hn : (l.length : Int) ≤ 200) (w : World) (hA : 0 < l.length → ∃ b o, A = some ⟨b, o, none⟩ ∧ Sd w b o l) :
    Calls Try.prog 5 #[.int .i64 room, .slice A l.length cap] w fun r w' => r = .returned (.bool true) ∧ Below w.heap.size w w' := by
  have HA := Lib.hid (fun h => hA h); clear hA
  generalize hN : l.length = n at *
  have HN := Lib.hid hN; clear hN
  have h1' : (1 : Int) ≤ (room : Int) := by omega
  have h2' : (room : Int) ≤ 16 := by omega
  go_enter Try.func5, Try.ntmps5
  go_wp2_with fail
  refine (new_room room h1 h2 _).mono ?_
  rintro x w1 ⟨rfl, hs1, hb1⟩
  go_wp2_with fail
  refine (refnew_in room h1 h2 _).mono ?_
  rintro x w2 ⟨rfl, hs2, hb2⟩
  have hlt1 : w.heap.size < w1.heap.size := hs1.lt
  have hpl : Pl w w2 w.heap.size w1.heap.size room [] := ⟨hs1.below hb2, hs2, hlt1, Nat.le_refl _, hb1.trans (hb2.mono hb1.size)⟩
  clear hs1 hb1 hs2 hb2
  generalize hb : w.heap.size = b at *
  generalize hr : w1.heap.size = r at *
  have HB := Lib.hid hb
  clear hb hr
  go_wp2_with fail
  go_loopw [9] (fun i W => ∃ (j : Nat) (L : List Ent), j ≤ n ∧ i = .int .i64 j ∧ Pl w W b r room L) (fun i W => n - (intOf i).toNat)
  case atStart => exact ⟨0, [], by omega, rfl, hpl⟩
  case round =>
    obtain ⟨j, L, hj, rfl, hp⟩ := hrel
    by_cases hlt : (j : Int) < (n : Int)
    · obtain ⟨sb, so, rfl, hSd⟩ := HA.out (by omega)
      obtain ⟨⟨k, e⟩, hx⟩ : ∃ x, l[j]? = some x := ⟨_, List.getElem?_eq_getElem (by rw [HN.out]; omega)⟩
      obtain ⟨c0, c1, c2, c3, c4, c5⟩ := hSd j _ hx
      have hsw : sb < w.heap.size := World.block_lt_of_cell? (w := w) (a := ⟨sb, _, none⟩) c0
      simp only at c0 c1 c2 c3 c4 c5
      rw [← hp.below.cell (p := ⟨sb, _, none⟩) hsw] at c0 c1 c2 c3 c4 c5
      have hj0 : (0 : Int) ≤ (j : Int) := by omega
      have HP := Lib.hid hp
      clear hSd hx hpl hp
      have HXN : Hid (X0 wr k e) := ⟨heap_alloc_new wr _, (Below.refl _ _).alloc (Nat.le_refl _) _, by simp⟩
      by_cases k0 : k = 0
      · subst k0
        go_wp2_with fail
        obtain ⟨hX, hbX, hltX⟩ := HXN.out
        have hp0 := HP.out.below' hbX
        have hXb : b < wr.heap.size := HP.out.sq.lt
        have hXr : r < wr.heap.size := HP.out.rq.lt
        clear HXN HP c0 c1 c2 c3 c4 c5
        generalize wr.alloc (.cells #[.int .i64 0, .int .i64 e.kind, .int .i64 e.line, .int .i64 e.word, .int .u64 e.val, .bool e.sent] 48) = W0 at *
        generalize wr.heap.size = X at *
        have hxs : ∀ W : World, W.heap[X]? = W0.heap[X]? → W.cell? ⟨X, 1, none⟩ = some (.int .i64 e.kind) ∧ W.cell? ⟨X, 2, none⟩ = some (.int .i64 e.line) ∧ W.cell? ⟨X, 3, none⟩ = some (.int .i64 e.word) ∧ W.cell? ⟨X, 4, none⟩ = some (.int .u64 e.val) ∧ W.cell? ⟨X, 5, none⟩ = some (.bool e.sent) := fun W hW => by
          have := hW.trans hX
          simp [World.cell?, this]
        have HXS := Lib.hid hxs
        clear hxs
        have hpush := push_any b room L e
        have hrpush := refpush_any r room L e (by have := hp0.sq.room_le; omega)
        obtain ⟨c, hc⟩ : ∃ c : Int, (if goodE e = false then 11 else if room ≤ L.length then 13 else 0) = c := ⟨_, rfl⟩
        rw [hc] at hpush hrpush
        have hown := own_any e
        unfold Ent.v at hpush hrpush hown
        generalize hL : (if goodE e = true ∧ L.length < room then L ++ [e] else L) = L2 at *
        clear hc hL
        go_region_held3 (fun W : World => W.cell? ⟨X, 1, none⟩ = some (.int .i64 e.kind) ∧ W.cell? ⟨X, 2, none⟩ = some (.int .i64 e.line) ∧ W.cell? ⟨X, 3, none⟩ = some (.int .i64 e.word) ∧ W.cell? ⟨X, 4, none⟩ = some (.int .u64 e.val) ∧ W.cell? ⟨X, 5, none⟩ = some (.bool e.sent)) ((refine HXS.out _ ?_; first | assumption | rfl))
          (first
            | (go_at_call 9; refine (hpush W0.drew (hp0.sq.block rfl)).mono ?_; rintro x w4 ⟨rfl, hs4, ho4⟩; have hX4 : w4.heap[X]? = W0.heap[X]? := ho4.block X hltX (fun h => by have := Option.some.inj h; omega))
            | (go_at_call 18; refine (hown w4).mono ?_; rintro x w5 ⟨rfl, hb5⟩; have hX5 : w5.heap[X]? = W0.heap[X]? := (hb5.block X (Nat.lt_of_lt_of_le hltX ho4.size)).trans hX4)
            | (go_at_call 17; refine (hrpush w5 ((RQ.other (w := W0.drew) (hp0.rq.below (Below.refl _ _).drew) ho4 hp0.br).below hb5)).mono ?_; rintro x w6 ⟨rfl, hs6, ho6⟩; have hX6 : w6.heap[X]? = W0.heap[X]? := (ho6.block X (Nat.lt_of_lt_of_le hltX (Nat.le_trans ho4.size hb5.size)) (fun h => by have := Option.some.inj h; omega)).trans hX5))
        all_goals
          have hp6 : Pl w w6 b r room L2 := ⟨SQ.other (hs4.below hb5) ho6 (by have := hp0.br; omega), hs6, hp0.br, hp0.base,
            only_below_of ((only_below_of hp0.below.drew ho4 hp0.base).trans (hb5.mono (only_below_of hp0.below.drew ho4 hp0.base).size)) ho6 (by have := hp0.br; have := hp0.base; omega)⟩
          clear hs4 hs6 ho4 ho6 hb5 hX4 hX5 hX6 hpush hrpush hown HXS hp0 hX hbX hltX
          go_wp2_with fail
          obtain ⟨vq, _, q1, _, qo⟩ := hp6.rq
          obtain ⟨A2, ca2, rfl, _⟩ := src_of_own qo
          have hlen := fun W h => len_sq b room L2 W h
          have hall := fun W h => all_some b room L2 W h
          have hL17 : L2.length ≤ 1000000 := by have := hp6.sq.room_le; omega
          have hkk : ∀ W : World, Below w6.heap.size w6 W → W.cell? ⟨r, 1, none⟩ = some (.slice A2 L2.length ca2) := fun W hW => (hW.cell (p := ⟨r, 1, none⟩) hp6.rq.lt).trans q1
          have hk0 := hkk w6.drew (Below.refl _ _).drew
          have HKK := Lib.hid hkk
          have HQO := Lib.hid qo
          clear hkk qo
          go_region_held3 (fun W : World => W.cell? ⟨r, 1, none⟩ = some (.slice A2 L2.length ca2)) (first | assumption | exact hk7 | exact hk8)
            (first
              | (go_at_call 13; refine (hlen w6.drew (hp6.sq.block rfl)).mono ?_; rintro x w7 ⟨rfl, rfl⟩)
              | (go_at_call 15; refine (hall w6.drew (hp6.sq.block rfl)).mono ?_; rintro x w7 ⟨va, rfl, ho7, hb7⟩; have hbb7 : Below w6.heap.size w6 w7 := (Below.refl _ _).drew.trans hb7; have hk7 := HKK.out w7 hbb7)
              | (go_at_call 24; refine (same_true va (.slice A2 L2.length ca2) L2 hL17 w7 (se_of_own ho7) ((se_of_own HQO.out).below hbb7)).mono ?_; rintro x w8 ⟨rfl, hb8⟩; have hbb8 : Below w6.heap.size w6 w8 := hbb7.trans (hb8.mono hbb7.size); have hk8 := HKK.out w8 hbb8))
          all_goals
            have hp8 := hp6.below' hbb8
            clear hk7 hk8 hbb7 hbb8 hb7 hb8 ho7 HKK HQO hk0 q1 hlen hall hp6
            go_wp2_with fail
            go_roundw
            case rel => exact ⟨j + 1, L2, by omega, by go_num, hp8⟩
            case measure => simp [intOf]; omega
      · by_cases k3 : k = 3
        · subst k3
          go_wp2_with fail
          obtain ⟨hX, hbX, hltX⟩ := HXN.out
          have hp0 := HP.out.below' hbX
          have hXb : b < wr.heap.size := HP.out.sq.lt
          have hXr : r < wr.heap.size := HP.out.rq.lt
          clear HXN HP c0 c1 c2 c3 c4 c5
          generalize wr.alloc (.cells #[.int .i64 3, .int .i64 e.kind, .int .i64 e.line, .int .i64 e.word, .int .u64 e.val, .bool e.sent] 48) = W0 at *
          generalize wr.heap.size = X at *
          have hxs : ∀ W : World, W.heap[X]? = W0.heap[X]? → W.cell? ⟨X, 0, none⟩ = some (.int .i64 3) ∧ W.cell? ⟨X, 1, none⟩ = some (.int .i64 e.kind) ∧ W.cell? ⟨X, 2, none⟩ = some (.int .i64 e.line) ∧ W.cell? ⟨X, 3, none⟩ = some (.int .i64 e.word) ∧ W.cell? ⟨X, 4, none⟩ = some (.int .u64 e.val) ∧ W.cell? ⟨X, 5, none⟩ = some (.bool e.sent) := fun W hW => by
            have := hW.trans hX
            simp [World.cell?, this]
          have HXS := Lib.hid hxs
          clear hxs
          have hL16 : L.length ≤ 16 := by have := hp0.sq.room_le; omega
          have hfind := find_some b room L e.line e.word
          have hrfind := reffind_any r room L hL16 e.line e.word
          generalize found L e.line e.word = F at *
          refine (hfind W0 hp0.sq).mono ?_
          rintro x w4 ⟨rfl, hb4⟩
          have hp4 := hp0.below' hb4
          obtain ⟨y0, y1, y2, y3, y4, y5⟩ := HXS.out w4 (hb4.block X hltX)
          clear hfind hb4 hp0
          go_wp2_with fail
          refine (hrfind w4 hp4.rq).mono ?_
          rintro x w5 ⟨rfl, hb5⟩
          have hp5 := hp4.below' hb5
          have hp6 := hp5.below' (below_alloc' (w := w5) (.cells #[.int .u64 (F.getD 0), .bool F.isSome] 56))
          clear hrfind hb5 hp4 hp5 y0 y1 y2 y3 y4 y5 HXS hX hbX hltX
          go_wp2_with fail
          generalize w5.alloc (.cells #[.int .u64 (F.getD 0), .bool F.isSome] 56) = w6 at *
          obtain ⟨vq, _, q1, _, qo⟩ := hp6.rq
          obtain ⟨A2, ca2, rfl, _⟩ := src_of_own qo
          have hlen := fun W h => len_sq b room L W h
          have hall := fun W h => all_some b room L W h
          have hL17 : L.length ≤ 1000000 := by have := hp6.sq.room_le; omega
          have hkk : ∀ W : World, Below w6.heap.size w6 W → W.cell? ⟨r, 1, none⟩ = some (.slice A2 L.length ca2) := fun W hW => (hW.cell (p := ⟨r, 1, none⟩) hp6.rq.lt).trans q1
          have hk0 := hkk w6.drew (Below.refl _ _).drew
          have HKK := Lib.hid hkk
          have HQO := Lib.hid qo
          clear hkk qo
          go_region_held3 (fun W : World => W.cell? ⟨r, 1, none⟩ = some (.slice A2 L.length ca2)) (first | assumption | exact hk7 | exact hk8)
            (first
              | (go_at_call 13; refine (hlen w6.drew (hp6.sq.block rfl)).mono ?_; rintro x w7 ⟨rfl, rfl⟩)
              | (go_at_call 15; refine (hall w6.drew (hp6.sq.block rfl)).mono ?_; rintro x w7 ⟨va, rfl, ho7, hb7⟩; have hbb7 : Below w6.heap.size w6 w7 := (Below.refl _ _).drew.trans hb7; have hk7 := HKK.out w7 hbb7)
              | (go_at_call 24; refine (same_true va (.slice A2 L.length ca2) L hL17 w7 (se_of_own ho7) ((se_of_own HQO.out).below hbb7)).mono ?_; rintro x w8 ⟨rfl, hb8⟩; have hbb8 : Below w6.heap.size w6 w8 := hbb7.trans (hb8.mono hbb7.size); have hk8 := HKK.out w8 hbb8))
          all_goals
            have hp8 := hp6.below' hbb8
            clear hk7 hk8 hbb7 hbb8 hb7 hb8 ho7 HKK HQO hk0 q1 hlen hall hp6
            go_wp2_with fail
            go_roundw
            case rel => exact ⟨j + 1, L, by omega, by go_num, hp8⟩
            case measure => simp [intOf]; omega
        · by_cases k4 : k = 4
          · subst k4
            go_wp2_with fail
            obtain ⟨hX, hbX, hltX⟩ := HXN.out
            have hp0 := HP.out.below' hbX
            have hXb : b < wr.heap.size := HP.out.sq.lt
            have hXr : r < wr.heap.size := HP.out.rq.lt
            clear HXN HP c0 c1 c2 c3 c4 c5
            generalize wr.alloc (.cells #[.int .i64 4, .int .i64 e.kind, .int .i64 e.line, .int .i64 e.word, .int .u64 e.val, .bool e.sent] 48) = W0 at *
            generalize wr.heap.size = X at *
            have hxs : ∀ W : World, W.heap[X]? = W0.heap[X]? → W.cell? ⟨X, 0, none⟩ = some (.int .i64 4) ∧ W.cell? ⟨X, 1, none⟩ = some (.int .i64 e.kind) ∧ W.cell? ⟨X, 2, none⟩ = some (.int .i64 e.line) ∧ W.cell? ⟨X, 3, none⟩ = some (.int .i64 e.word) ∧ W.cell? ⟨X, 4, none⟩ = some (.int .u64 e.val) ∧ W.cell? ⟨X, 5, none⟩ = some (.bool e.sent) := fun W hW => by
              have := hW.trans hX
              simp [World.cell?, this]
            have HXS := Lib.hid hxs
            clear hxs
            have hL16 : L.length ≤ 16 := by have := hp0.sq.room_le; omega
            refine (send_any b room L W0 hp0.sq).mono ?_
            rintro x w4 ⟨rfl, hs4, ho4⟩
            go_wp2_with fail
            refine (refsend_any r room L hL16 w4 (hp0.rq.other ho4 hp0.br)).mono ?_
            rintro x w5 ⟨rfl, hs5, ho5⟩
            have hp6 : Pl w w5 b r room (sendL L) := ⟨SQ.other hs4 ho5 (by have := hp0.br; omega), hs5, hp0.br, hp0.base, only_below_of (only_below_of hp0.below ho4 hp0.base) ho5 (by have := hp0.br; have := hp0.base; omega)⟩
            generalize sendL L = L2 at *
            clear hs4 hs5 ho4 ho5 hp0 HXS hX hbX hltX hL16
            go_wp2_with fail
            obtain ⟨vq, _, q1, _, qo⟩ := hp6.rq
            obtain ⟨A2, ca2, rfl, _⟩ := src_of_own qo
            have hlen := fun W h => len_sq b room L2 W h
            have hall := fun W h => all_some b room L2 W h
            have hL17 : L2.length ≤ 1000000 := by have := hp6.sq.room_le; omega
            have hkk : ∀ W : World, Below w5.heap.size w5 W → W.cell? ⟨r, 1, none⟩ = some (.slice A2 L2.length ca2) := fun W hW => (hW.cell (p := ⟨r, 1, none⟩) hp6.rq.lt).trans q1
            have hk0 := hkk w5.drew (Below.refl _ _).drew
            have HKK := Lib.hid hkk
            have HQO := Lib.hid qo
            clear hkk qo
            go_region_held3 (fun W : World => W.cell? ⟨r, 1, none⟩ = some (.slice A2 L2.length ca2)) (first | assumption | exact hk7 | exact hk8)
              (first
                | (go_at_call 13; refine (hlen w5.drew (hp6.sq.block rfl)).mono ?_; rintro x w7 ⟨rfl, rfl⟩)
                | (go_at_call 15; refine (hall w5.drew (hp6.sq.block rfl)).mono ?_; rintro x w7 ⟨va, rfl, ho7, hb7⟩; have hbb7 : Below w5.heap.size w5 w7 := (Below.refl _ _).drew.trans hb7; have hk7 := HKK.out w7 hbb7)
                | (go_at_call 24; refine (same_true va (.slice A2 L2.length ca2) L2 hL17 w7 (se_of_own ho7) ((se_of_own HQO.out).below hbb7)).mono ?_; rintro x w8 ⟨rfl, hb8⟩; have hbb8 : Below w5.heap.size w5 w8 := hbb7.trans (hb8.mono hbb7.size); have hk8 := HKK.out w8 hbb8))
            all_goals
              have hp8 := hp6.below' hbb8
              clear hk7 hk8 hbb7 hbb8 hb7 hb8 ho7 HKK HQO hk0 q1 hlen hall hp6
              go_wp2_with fail
              go_roundw
              case rel => exact ⟨j + 1, L2, by omega, by go_num, hp8⟩
              case measure => simp [intOf]; omega
          · by_cases k5 : k = 5
            · subst k5
              go_wp2_with fail
              obtain ⟨hX, hbX, hltX⟩ := HXN.out
              have hp0 := HP.out.below' hbX
              have hXb : b < wr.heap.size := HP.out.sq.lt
              have hXr : r < wr.heap.size := HP.out.rq.lt
              clear HXN HP c0 c1 c2 c3 c4 c5
              generalize wr.alloc (.cells #[.int .i64 5, .int .i64 e.kind, .int .i64 e.line, .int .i64 e.word, .int .u64 e.val, .bool e.sent] 48) = W0 at *
              generalize wr.heap.size = X at *
              have hxs : ∀ W : World, W.heap[X]? = W0.heap[X]? → W.cell? ⟨X, 0, none⟩ = some (.int .i64 5) ∧ W.cell? ⟨X, 1, none⟩ = some (.int .i64 e.kind) ∧ W.cell? ⟨X, 2, none⟩ = some (.int .i64 e.line) ∧ W.cell? ⟨X, 3, none⟩ = some (.int .i64 e.word) ∧ W.cell? ⟨X, 4, none⟩ = some (.int .u64 e.val) ∧ W.cell? ⟨X, 5, none⟩ = some (.bool e.sent) := fun W hW => by
                have := hW.trans hX
                simp [World.cell?, this]
              have HXS := Lib.hid hxs
              clear hxs
              have hL16 : L.length ≤ 16 := by have := hp0.sq.room_le; omega
              refine (clear_some b room L W0 hp0.sq).mono ?_
              rintro x w4 ⟨rfl, hs4, ho4⟩
              obtain ⟨v4, q0, q1', qz, qo'⟩ := hp0.rq.other ho4 hp0.br
              obtain ⟨A4, ca4, rfl, _⟩ := src_of_own qo'
              have hp6 : Pl w (w4.setCell ⟨r, 1, none⟩ (.slice none 0 0)) b r room [] := by
                have ho6 : w4.grownBy (w4.setCell ⟨r, 1, none⟩ (.slice none 0 0)) (some r) := only_setCell (only_refl _ _) rfl _
                refine ⟨SQ.other hs4 ho6 (by have := hp0.br; omega), ⟨.slice none 0 0, ?_, World.cell?_setCell_same _ _ _ q1', fun o => ?_, own_nil _ _ _ _⟩, hp0.br, hp0.base, only_below_of (only_below_of hp0.below ho4 hp0.base) ho6 (by have := hp0.br; have := hp0.base; omega)⟩
                · rw [World.cell?_setCell_other _ _ _ _ (by simp)]; exact q0
                · rw [World.frozen?_setCell]; exact qz o
              have qz1 := qz 1
              have HP6 := Lib.hid hp6
              clear hs4 ho4 hp0 HXS hX hbX hltX hL16 qz qo' q0 hp6
              go_wp2_with fail
              have hp6 := HP6.out
              clear HP6 q1' qz1
              generalize w4.setCell ⟨r, 1, none⟩ (.slice none 0 0) = w6 at *
              generalize hLn : ([] : List Ent) = L2 at *
              clear hLn
              obtain ⟨vq, _, q1, _, qo⟩ := hp6.rq
              obtain ⟨A2, ca2, rfl, _⟩ := src_of_own qo
              have hlen := fun W h => len_sq b room L2 W h
              have hall := fun W h => all_some b room L2 W h
              have hL17 : L2.length ≤ 1000000 := by have := hp6.sq.room_le; omega
              have hkk : ∀ W : World, Below w6.heap.size w6 W → W.cell? ⟨r, 1, none⟩ = some (.slice A2 L2.length ca2) := fun W hW => (hW.cell (p := ⟨r, 1, none⟩) hp6.rq.lt).trans q1
              have hk0 := hkk w6.drew (Below.refl _ _).drew
              have HKK := Lib.hid hkk
              have HQO := Lib.hid qo
              clear hkk qo
              go_region_held3 (fun W : World => W.cell? ⟨r, 1, none⟩ = some (.slice A2 L2.length ca2)) (first | assumption | exact hk7 | exact hk8)
                (first
                  | (go_at_call 13; refine (hlen w6.drew (hp6.sq.block rfl)).mono ?_; rintro x w7 ⟨rfl, rfl⟩)
                  | (go_at_call 15; refine (hall w6.drew (hp6.sq.block rfl)).mono ?_; rintro x w7 ⟨va, rfl, ho7, hb7⟩; have hbb7 : Below w6.heap.size w6 w7 := (Below.refl _ _).drew.trans hb7; have hk7 := HKK.out w7 hbb7)
                  | (go_at_call 24; refine (same_true va (.slice A2 L2.length ca2) L2 hL17 w7 (se_of_own ho7) ((se_of_own HQO.out).below hbb7)).mono ?_; rintro x w8 ⟨rfl, hb8⟩; have hbb8 : Below w6.heap.size w6 w8 := hbb7.trans (hb8.mono hbb7.size); have hk8 := HKK.out w8 hbb8))
              all_goals
                have hp8 := hp6.below' hbb8
                clear hk7 hk8 hbb7 hbb8 hb7 hb8 ho7 HKK HQO hk0 q1 hlen hall hp6
                go_wp2_with fail
                go_roundw
                case rel => exact ⟨j + 1, L2, by omega, by go_num, hp8⟩
                case measure => simp [intOf]; omega
            · have k0' : (k == 0) = false := by simpa using k0
              have k3' : (k == 3) = false := by simpa using k3
              have k4' : (k == 4) = false := by simpa using k4
              have k5' : (k == 5) = false := by simpa using k5
              by_cases k1 : k = 1
              · subst k1
                clear k0 k3 k4 k5 k0' k3' k4' k5'
                go_wp2_with fail
                obtain ⟨hX, hbX, hltX⟩ := HXN.out
                have hp0 := HP.out.below' hbX
                have hXb : b < wr.heap.size := HP.out.sq.lt
                have hXr : r < wr.heap.size := HP.out.rq.lt
                have hW0s : (wr.alloc (.cells #[.int .i64 1, .int .i64 e.kind, .int .i64 e.line, .int .i64 e.word, .int .u64 e.val, .bool e.sent] 48)).heap.size = wr.heap.size + 1 := by simp
                clear HXN HP c0 c1 c2 c3 c4 c5
                generalize wr.alloc (.cells #[.int .i64 1, .int .i64 e.kind, .int .i64 e.line, .int .i64 e.word, .int .u64 e.val, .bool e.sent] 48) = W0 at *
                generalize hHX : wr.heap.size + 1 = H at *
                generalize wr.heap.size = X at *
                have hx0 : ∀ W : World, W.heap[X]? = W0.heap[X]? → W.cell? ⟨X, 0, none⟩ = some (.int .i64 1) := fun W hW => by
                  have := hW.trans hX
                  simp [World.cell?, this]
                have HX0 := Lib.hid hx0
                have hL16 : L.length ≤ 16 := by have := hp0.sq.room_le; omega
                have hZ1 : Below W0.heap.size W0 (W0.alloc (.cells #[.int .i64 0, .int .i64 0, .int .i64 0, .int .u64 0, .bool false] 31)) := below_alloc' _
                have hZ2 : (W0.alloc (.cells #[.int .i64 0, .int .i64 0, .int .i64 0, .int .u64 0, .bool false] 31)).heap[H]? = some (.cells #[.int .i64 0, .int .i64 0, .int .i64 0, .int .u64 0, .bool false] 31) := by rw [← hW0s]; exact heap_alloc_new W0 _
                have hZ3 : H < (W0.alloc (.cells #[.int .i64 0, .int .i64 0, .int .i64 0, .int .u64 0, .bool false] 31)).heap.size := by
                  have : (W0.alloc (.cells #[.int .i64 0, .int .i64 0, .int .i64 0, .int .u64 0, .bool false] 31)).heap.size = W0.heap.size + 1 := by simp
                  omega
                have hp1 := hp0.below' hZ1
                have hbH : b ≠ H := by omega
                have hrH : r ≠ H := by omega
                clear hx0 hX hbX
                generalize W0.alloc (.cells #[.int .i64 0, .int .i64 0, .int .i64 0, .int .u64 0, .bool false] 31) = W1 at *
                rcases L with _ | ⟨e0, L'⟩
                · refine (pop_nil b room W1 hp1.sq).mono ?_
                  rintro x w4 ⟨rfl, hb4⟩
                  have hs4 := hp1.sq.below hb4
                  have ho4 : W1.grownBy w4 (some b) := only_of_below hb4 _
                  obtain ⟨⟨z0, z1, z2, z3, z4⟩, f0, f1, f2, f3, f4⟩ := cells5 ((ho4.block H hZ3 (fun h => by have := Option.some.inj h; omega)).trans hZ2)
                  have hq5 := put5n z0 z1 z2 z3 z4 (.int .i64 0) (.int .i64 0) (.int .i64 0) (.int .u64 0) (.bool false)
                  have ho5 : W0.grownBy (set5 w4 H (.int .i64 0) (.int .i64 0) (.int .i64 0) (.int .u64 0) (.bool false)) (some b) := only_set5 (only_trans (only_of_below hZ1 _) ho4) (by omega) _ _ _ _ _
                  have hsq5 : SQ (set5 w4 H (.int .i64 0) (.int .i64 0) (.int .i64 0) (.int .u64 0) (.bool false)) b room [] := hs4.block (set5_block _ _ _ _ _ _ _ b hbH)
                  have hrq5 : RQ (set5 w4 H (.int .i64 0) (.int .i64 0) (.int .i64 0) (.int .u64 0) (.bool false)) r room [] := hp0.rq.other ho5 hp0.br
                  have hbw5 : Below w.heap.size w (set5 w4 H (.int .i64 0) (.int .i64 0) (.int .i64 0) (.int .u64 0) (.bool false)) := only_below_of hp0.below ho5 hp0.base
                  have hX5 : (set5 w4 H (.int .i64 0) (.int .i64 0) (.int .i64 0) (.int .u64 0) (.bool false)).cell? ⟨X, 0, none⟩ = some (.int .i64 1) := HX0.out _ (ho5.block X hltX (fun h => by have := Option.some.inj h; omega))
                  have hXl5 : X < (set5 w4 H (.int .i64 0) (.int .i64 0) (.int .i64 0) (.int .u64 0) (.bool false)).heap.size := Nat.lt_of_lt_of_le hltX ho5.size
                  have g0 : (set5 w4 H (.int .i64 0) (.int .i64 0) (.int .i64 0) (.int .u64 0) (.bool false)).cell? ⟨H, 0, none⟩ = some (.int .i64 0) := hq5.1
                  have g1 : (set5 w4 H (.int .i64 0) (.int .i64 0) (.int .i64 0) (.int .u64 0) (.bool false)).cell? ⟨H, 1, none⟩ = some (.int .i64 0) := hq5.2.1
                  have g2 : (set5 w4 H (.int .i64 0) (.int .i64 0) (.int .i64 0) (.int .u64 0) (.bool false)).cell? ⟨H, 2, none⟩ = some (.int .i64 0) := hq5.2.2.1
                  have g3 : (set5 w4 H (.int .i64 0) (.int .i64 0) (.int .i64 0) (.int .u64 0) (.bool false)).cell? ⟨H, 3, none⟩ = some (.int .u64 0) := hq5.2.2.2.1
                  have g4 : (set5 w4 H (.int .i64 0) (.int .i64 0) (.int .i64 0) (.int .u64 0) (.bool false)).cell? ⟨H, 4, none⟩ = some (.bool false) := hq5.2.2.2.2
                  have hHl5 : H < (set5 w4 H (.int .i64 0) (.int .i64 0) (.int .i64 0) (.int .u64 0) (.bool false)).heap.size := World.block_lt_of_cell? (w := set5 w4 H (.int .i64 0) (.int .i64 0) (.int .i64 0) (.int .u64 0) (.bool false)) (a := ⟨H, 0, none⟩) g0
                  have hbr := hp0.br
                  have hbase := hp0.base
                  have H5 := Lib.hid (And.intro ho5 (And.intro hsq5 (And.intro hrq5 (And.intro hbw5 (And.intro hX5 (And.intro g0 (And.intro g1 (And.intro g2 (And.intro g3 g4)))))))))
                  clear hq5 ho5 hsq5 hrq5 hbw5 hX5 g0 g1 g2 g3 g4 hs4 ho4 hp0 hp1 hZ1 hZ2 hZ3
                  unfold Ent.v Ent.zero
                  go_wp2_with fail
                  obtain ⟨ho5, hsq5, hrq5, hbw5, hX5, g0, g1, g2, g3, g4⟩ := H5.out
                  clear H5 z0 z1 z2 z3 z4 f0 f1 f2 f3 f4
                  change Code.wp _ _ _ _ (set5 w4 H (.int .i64 0) (.int .i64 0) (.int .i64 0) (.int .u64 0) (.bool false))
                  generalize set5 w4 H (.int .i64 0) (.int .i64 0) (.int .i64 0) (.int .u64 0) (.bool false) = w5 at *
                  have HR5 := Lib.hid hrq5
                  obtain ⟨v5, _, p1, _, p2⟩ := hrq5
                  obtain ⟨A5, ca5, rfl, _⟩ := src_of_own p2
                  clear p2
                  have p1' : w5.cell? ⟨r, 1, none⟩ = some (.slice A5 0 ca5) := p1
                  clear p1
                  go_quiet (fail)
                  go_wp2_with fail
                  have hr6 := HR5.out.below (below_drewN (Below.refl w5.heap.size w5) nq)
                  have hs6 := hsq5.below (below_drewN (Below.refl w5.heap.size w5) nq)
                  have hb6 := below_drewN hbw5 nq
                  refine (refpop_any r room [] (by simp) _ hr6).mono ?_
                  rintro x w6 ⟨rfl, hr7, ho6⟩
                  have hp6 : Pl w w6 b r room [] := ⟨hs6.other ho6 (by omega), hr7, hbr, hbase, only_below_of hb6 ho6 (by omega)⟩
                  clear hr6 hs6 hb6 hr7 ho6 hsq5 hbw5 HR5 ho5 hX5 g0 g1 g2 g3 g4 p1' hL16
                  generalize hLn : ([] : List Ent) = L2 at *
                  clear hLn
                  go_wp2_with fail
                  obtain ⟨vq, _, q1, _, qo⟩ := hp6.rq
                  obtain ⟨A2, ca2, rfl, _⟩ := src_of_own qo
                  have hlen := fun W h => len_sq b room L2 W h
                  have hall := fun W h => all_some b room L2 W h
                  have hL17 : L2.length ≤ 1000000 := by have := hp6.sq.room_le; omega
                  have hkk : ∀ W : World, Below w6.heap.size w6 W → W.cell? ⟨r, 1, none⟩ = some (.slice A2 L2.length ca2) := fun W hW => (hW.cell (p := ⟨r, 1, none⟩) hp6.rq.lt).trans q1
                  have hk0 := hkk w6.drew (Below.refl _ _).drew
                  have HKK := Lib.hid hkk
                  have HQO := Lib.hid qo
                  clear hkk qo
                  go_region_held3 (fun W : World => W.cell? ⟨r, 1, none⟩ = some (.slice A2 L2.length ca2)) (first | assumption | exact hk7 | exact hk8)
                    (first
                      | (go_at_call 13; refine (hlen w6.drew (hp6.sq.block rfl)).mono ?_; rintro x w7 ⟨rfl, rfl⟩)
                      | (go_at_call 15; refine (hall w6.drew (hp6.sq.block rfl)).mono ?_; rintro x w7 ⟨va, rfl, ho7, hb7⟩; have hbb7 : Below w6.heap.size w6 w7 := (Below.refl _ _).drew.trans hb7; have hk7 := HKK.out w7 hbb7)
                      | (go_at_call 24; refine (same_true va (.slice A2 L2.length ca2) L2 hL17 w7 (se_of_own ho7) ((se_of_own HQO.out).below hbb7)).mono ?_; rintro x w8 ⟨rfl, hb8⟩; have hbb8 : Below w6.heap.size w6 w8 := hbb7.trans (hb8.mono hbb7.size); have hk8 := HKK.out w8 hbb8))
                  all_goals
                    have hp8 := hp6.below' hbb8
                    clear hk7 hk8 hbb7 hbb8 hb7 hb8 ho7 HKK HQO hk0 q1 hlen hall hp6
                    go_wp2_with fail
                    go_roundw
                    case rel => exact ⟨j + 1, L2, by omega, by go_num, hp8⟩
                    case measure => simp [intOf]; omega
                · refine (pop_cons b room e0 L' W1 hp1.sq).mono ?_
                  rintro x w4 ⟨rfl, hs4, ho4⟩
                  obtain ⟨⟨z0, z1, z2, z3, z4⟩, f0, f1, f2, f3, f4⟩ := cells5 ((ho4.block H hZ3 (fun h => by have := Option.some.inj h; omega)).trans hZ2)
                  have hq5 := put5n z0 z1 z2 z3 z4 (.int .i64 e0.kind) (.int .i64 e0.line) (.int .i64 e0.word) (.int .u64 e0.val) (.bool e0.sent)
                  have ho5 : W0.grownBy (set5 w4 H (.int .i64 e0.kind) (.int .i64 e0.line) (.int .i64 e0.word) (.int .u64 e0.val) (.bool e0.sent)) (some b) := only_set5 (only_trans (only_of_below hZ1 _) ho4) (by omega) _ _ _ _ _
                  have hsq5 : SQ (set5 w4 H (.int .i64 e0.kind) (.int .i64 e0.line) (.int .i64 e0.word) (.int .u64 e0.val) (.bool e0.sent)) b room L' := hs4.block (set5_block _ _ _ _ _ _ _ b hbH)
                  have hrq5 : RQ (set5 w4 H (.int .i64 e0.kind) (.int .i64 e0.line) (.int .i64 e0.word) (.int .u64 e0.val) (.bool e0.sent)) r room (e0 :: L') := hp0.rq.other ho5 hp0.br
                  have hbw5 : Below w.heap.size w (set5 w4 H (.int .i64 e0.kind) (.int .i64 e0.line) (.int .i64 e0.word) (.int .u64 e0.val) (.bool e0.sent)) := only_below_of hp0.below ho5 hp0.base
                  have hX5 : (set5 w4 H (.int .i64 e0.kind) (.int .i64 e0.line) (.int .i64 e0.word) (.int .u64 e0.val) (.bool e0.sent)).cell? ⟨X, 0, none⟩ = some (.int .i64 1) := HX0.out _ (ho5.block X hltX (fun h => by have := Option.some.inj h; omega))
                  have hXl5 : X < (set5 w4 H (.int .i64 e0.kind) (.int .i64 e0.line) (.int .i64 e0.word) (.int .u64 e0.val) (.bool e0.sent)).heap.size := Nat.lt_of_lt_of_le hltX ho5.size
                  have g0 : (set5 w4 H (.int .i64 e0.kind) (.int .i64 e0.line) (.int .i64 e0.word) (.int .u64 e0.val) (.bool e0.sent)).cell? ⟨H, 0, none⟩ = some (.int .i64 e0.kind) := hq5.1
                  have g1 : (set5 w4 H (.int .i64 e0.kind) (.int .i64 e0.line) (.int .i64 e0.word) (.int .u64 e0.val) (.bool e0.sent)).cell? ⟨H, 1, none⟩ = some (.int .i64 e0.line) := hq5.2.1
                  have g2 : (set5 w4 H (.int .i64 e0.kind) (.int .i64 e0.line) (.int .i64 e0.word) (.int .u64 e0.val) (.bool e0.sent)).cell? ⟨H, 2, none⟩ = some (.int .i64 e0.word) := hq5.2.2.1
                  have g3 : (set5 w4 H (.int .i64 e0.kind) (.int .i64 e0.line) (.int .i64 e0.word) (.int .u64 e0.val) (.bool e0.sent)).cell? ⟨H, 3, none⟩ = some (.int .u64 e0.val) := hq5.2.2.2.1
                  have g4 : (set5 w4 H (.int .i64 e0.kind) (.int .i64 e0.line) (.int .i64 e0.word) (.int .u64 e0.val) (.bool e0.sent)).cell? ⟨H, 4, none⟩ = some (.bool e0.sent) := hq5.2.2.2.2
                  have hHl5 : H < (set5 w4 H (.int .i64 e0.kind) (.int .i64 e0.line) (.int .i64 e0.word) (.int .u64 e0.val) (.bool e0.sent)).heap.size := World.block_lt_of_cell? (w := set5 w4 H (.int .i64 e0.kind) (.int .i64 e0.line) (.int .i64 e0.word) (.int .u64 e0.val) (.bool e0.sent)) (a := ⟨H, 0, none⟩) g0
                  have hbr := hp0.br
                  have hbase := hp0.base
                  have H5 := Lib.hid (And.intro ho5 (And.intro hsq5 (And.intro hrq5 (And.intro hbw5 (And.intro hX5 (And.intro g0 (And.intro g1 (And.intro g2 (And.intro g3 g4)))))))))
                  clear hq5 ho5 hsq5 hrq5 hbw5 hX5 g0 g1 g2 g3 g4 hs4 ho4 hp0 hp1 hZ1 hZ2 hZ3
                  unfold Ent.v
                  go_wp2_with fail
                  obtain ⟨ho5, hsq5, hrq5, hbw5, hX5, g0, g1, g2, g3, g4⟩ := H5.out
                  clear H5 z0 z1 z2 z3 z4 f0 f1 f2 f3 f4
                  change Code.wp _ _ _ _ (set5 w4 H (.int .i64 e0.kind) (.int .i64 e0.line) (.int .i64 e0.word) (.int .u64 e0.val) (.bool e0.sent))
                  generalize set5 w4 H (.int .i64 e0.kind) (.int .i64 e0.line) (.int .i64 e0.word) (.int .u64 e0.val) (.bool e0.sent) = w5 at *
                  have HR5 := Lib.hid hrq5
                  obtain ⟨v5, _, p1, _, p2⟩ := hrq5
                  obtain ⟨g, ca5, rfl, _, hgl, hrd⟩ := own_read_at p2 (by simp)
                  obtain ⟨r0, r1, r2, r3, r4⟩ := hrd 0 e0 rfl
                  simp only [Nat.zero_mul, Nat.zero_add] at r0 r1 r2 r3 r4
                  have p1' : w5.cell? ⟨r, 1, none⟩ = some (.slice (some ⟨g, 0, none⟩) (L'.length + 1) ca5) := p1
                  have hr5 : r < w5.heap.size := HR5.out.lt
                  have hL1 : (0 : Int) ≤ (L'.length : Int) := by omega
                  have hss : ∀ W : World, Below w5.heap.size w5 W → W.cell? ⟨r, 1, none⟩ = some (.slice (some ⟨g, 0, none⟩) (L'.length + 1) ca5) ∧ W.cell? ⟨H, 0, none⟩ = some (.int .i64 e0.kind) ∧ W.cell? ⟨H, 1, none⟩ = some (.int .i64 e0.line) ∧ W.cell? ⟨H, 2, none⟩ = some (.int .i64 e0.word) ∧ W.cell? ⟨H, 3, none⟩ = some (.int .u64 e0.val) ∧ W.cell? ⟨H, 4, none⟩ = some (.bool e0.sent) ∧ W.cell? ⟨g, 0, none⟩ = some (.int .i64 e0.kind) ∧ W.cell? ⟨g, 1, none⟩ = some (.int .i64 e0.line) ∧ W.cell? ⟨g, 2, none⟩ = some (.int .i64 e0.word) ∧ W.cell? ⟨g, 3, none⟩ = some (.int .u64 e0.val) ∧ W.cell? ⟨g, 4, none⟩ = some (.bool e0.sent) := fun W hW =>
                    ⟨(hW.cell (p := ⟨r, _, none⟩) hr5).trans p1', (hW.cell (p := ⟨H, _, none⟩) hHl5).trans g0, (hW.cell (p := ⟨H, _, none⟩) hHl5).trans g1, (hW.cell (p := ⟨H, _, none⟩) hHl5).trans g2, (hW.cell (p := ⟨H, _, none⟩) hHl5).trans g3, (hW.cell (p := ⟨H, _, none⟩) hHl5).trans g4,
                      (hW.cell (p := ⟨g, _, none⟩) hgl).trans r0, (hW.cell (p := ⟨g, _, none⟩) hgl).trans r1, (hW.cell (p := ⟨g, _, none⟩) hgl).trans r2, (hW.cell (p := ⟨g, _, none⟩) hgl).trans r3, (hW.cell (p := ⟨g, _, none⟩) hgl).trans r4⟩
                  have hk5 := hss w5.drew (Below.refl _ _).drew
                  have HSS := Lib.hid hss
                  have hown := own_any e0
                  unfold Ent.v at hown
                  clear hss hrd p1 p2
                  refine wp_region_held_drew (S := fun W : World => W.cell? ⟨r, 1, none⟩ = some (.slice (some ⟨g, 0, none⟩) (L'.length + 1) ca5) ∧ W.cell? ⟨H, 0, none⟩ = some (.int .i64 e0.kind) ∧ W.cell? ⟨H, 1, none⟩ = some (.int .i64 e0.line) ∧ W.cell? ⟨H, 2, none⟩ = some (.int .i64 e0.word) ∧ W.cell? ⟨H, 3, none⟩ = some (.int .u64 e0.val) ∧ W.cell? ⟨H, 4, none⟩ = some (.bool e0.sent) ∧ W.cell? ⟨g, 0, none⟩ = some (.int .i64 e0.kind) ∧ W.cell? ⟨g, 1, none⟩ = some (.int .i64 e0.line) ∧ W.cell? ⟨g, 2, none⟩ = some (.int .i64 e0.word) ∧ W.cell? ⟨g, 3, none⟩ = some (.int .u64 e0.val) ∧ W.cell? ⟨g, 4, none⟩ = some (.bool e0.sent)) (by kernel_rfl) hk5 (fun hHeld => ?_)
                  refine take_at 0 84 (v := ?v0) rfl rfl (by kernel_rfl) (by kernel_rfl) (by kernel_rfl) (fun _ _ _ h => h) (Or.inl ⟨by rfl, ?y0⟩) (by assumption) ?z0
                  case y0 => (intro w hSw; (try dsimp only at hSw); go_simp; first | done | with_reducible rfl)
                  simp only [List.setIfInBounds_toArray, List.set_cons_zero, List.set_cons_succ]
                  refine take_at 1 85 (v := ?v1) rfl rfl (by kernel_rfl) (by kernel_rfl) (by kernel_rfl) (fun _ _ _ h => h) (Or.inl ⟨by rfl, ?y1⟩) (by assumption) ?z1
                  case y1 => (intro w hSw; (try dsimp only at hSw); go_simp; first | done | with_reducible rfl)
                  simp only [List.setIfInBounds_toArray, List.set_cons_zero, List.set_cons_succ]
                  refine take_at 2 86 (v := ?v2) rfl rfl (by kernel_rfl) (by kernel_rfl) (by kernel_rfl) (fun _ _ _ h => h) (Or.inl ⟨by rfl, ?y2⟩) (by assumption) ?z2
                  case y2 => (intro w hSw; (try dsimp only at hSw); go_simp; first | done | with_reducible rfl)
                  simp only [List.setIfInBounds_toArray, List.set_cons_zero, List.set_cons_succ]
                  refine take_at 3 87 (v := ?v3) rfl rfl (by kernel_rfl) (by kernel_rfl) (by kernel_rfl) (fun _ _ _ h => h) (Or.inl ⟨by rfl, ?y3⟩) (by assumption) ?z3
                  case y3 => (intro w hSw; (try dsimp only at hSw); go_simp; first | done | with_reducible rfl)
                  simp only [List.setIfInBounds_toArray, List.set_cons_zero, List.set_cons_succ]
                  refine take_at 4 88 (v := ?v4) rfl rfl (by kernel_rfl) (by kernel_rfl) (by kernel_rfl) (fun _ _ _ h => h) (Or.inl ⟨by rfl, ?y4⟩) (by assumption) ?z4
                  case y4 => (intro w hSw; (try dsimp only at hSw); go_simp; first | done | with_reducible rfl)
                  simp only [List.setIfInBounds_toArray, List.set_cons_zero, List.set_cons_succ]
                  refine take_at 5 89 (v := ?v5) rfl rfl (by kernel_rfl) (by kernel_rfl) (by kernel_rfl) (fun _ _ _ h => h) (Or.inl ⟨by rfl, ?y5⟩) (by assumption) ?z5
                  case y5 => (intro w hSw; (try dsimp only at hSw); go_simp; first | done | with_reducible rfl)
                  simp only [List.setIfInBounds_toArray, List.set_cons_zero, List.set_cons_succ]
                  refine take_at 6 90 (v := ?v6) rfl rfl (by kernel_rfl) (by kernel_rfl) (by kernel_rfl) (fun _ _ _ h => h) (Or.inl ⟨by rfl, ?y6⟩) (by assumption) ?z6
                  case y6 => (intro w hSw; (try dsimp only at hSw); go_simp; first | done | with_reducible rfl)
                  simp only [List.setIfInBounds_toArray, List.set_cons_zero, List.set_cons_succ]
                  refine take_at 7 91 (v := ?v7) rfl rfl (by kernel_rfl) (by kernel_rfl) (by kernel_rfl) (fun _ _ _ h => h) (Or.inl ⟨by rfl, ?y7⟩) (by assumption) ?z7
                  case y7 => (intro w hSw; (try dsimp only at hSw); go_simp; first | done | with_reducible rfl)
                  simp only [List.setIfInBounds_toArray, List.set_cons_zero, List.set_cons_succ]
                  refine take_at 8 92 (v := ?v8) rfl rfl (by kernel_rfl) (by kernel_rfl) (by kernel_rfl) (fun _ _ _ h => h) (Or.inl ⟨by rfl, ?y8⟩) (by assumption) ?z8
                  case y8 => (intro w hSw; (try dsimp only at hSw); go_simp; first | done | with_reducible rfl)
                  simp only [List.setIfInBounds_toArray, List.set_cons_zero, List.set_cons_succ]
                  refine take_at 9 93 (v := ?v9) rfl rfl (by kernel_rfl) (by kernel_rfl) (by kernel_rfl) (fun _ _ _ h => h) (Or.inl ⟨by rfl, ?y9⟩) (by assumption) ?z9
                  case y9 => (intro w hSw; (try dsimp only at hSw); go_simp; first | done | with_reducible rfl)
                  simp only [List.setIfInBounds_toArray, List.set_cons_zero, List.set_cons_succ]
                  refine take_at 10 94 (v := ?v10) rfl rfl (by kernel_rfl) (by kernel_rfl) (by kernel_rfl) (fun _ _ _ h => h) (Or.inl ⟨by rfl, ?y10⟩) (by assumption) ?z10
                  case y10 => (intro w hSw; (try dsimp only at hSw); go_simp; first | done | with_reducible rfl)
                  simp only [List.setIfInBounds_toArray, List.set_cons_zero, List.set_cons_succ]
                  refine take_at 11 95 (v := ?v11) rfl rfl (by kernel_rfl) (by kernel_rfl) (by kernel_rfl) (fun _ _ _ h => h) (Or.inl ⟨by rfl, ?y11⟩) (by assumption) ?z11
                  case y11 => (intro w hSw; (try dsimp only at hSw); go_simp; first | done | with_reducible rfl)
                  simp only [List.setIfInBounds_toArray, List.set_cons_zero, List.set_cons_succ]
                  refine take_at 13 97 (v := ?v13) rfl rfl (by kernel_rfl) (by kernel_rfl) (by kernel_rfl) (fun _ _ _ h => h) (Or.inl ⟨by rfl, ?y13⟩) (by assumption) ?z13
                  case y13 => (intro w hSw; (try dsimp only at hSw); go_simp; first | done | with_reducible rfl)
                  simp only [List.setIfInBounds_toArray, List.set_cons_zero, List.set_cons_succ]
                  refine take_at 14 98 (v := ?v14) rfl rfl (by kernel_rfl) (by kernel_rfl) (by kernel_rfl) (fun _ _ _ h => h) (Or.inl ⟨by rfl, ?y14⟩) (by assumption) ?z14
                  case y14 => (intro w hSw; (try dsimp only at hSw); go_simp; first | done | with_reducible rfl)
                  simp only [List.setIfInBounds_toArray, List.set_cons_zero, List.set_cons_succ]
                  refine take_at 15 99 (v := ?v15) rfl rfl (by kernel_rfl) (by kernel_rfl) (by kernel_rfl) (fun _ _ _ h => h) (Or.inl ⟨by rfl, ?y15⟩) (by assumption) ?z15
                  case y15 => (intro w hSw; (try dsimp only at hSw); go_simp; first | done | with_reducible rfl)
                  simp only [List.setIfInBounds_toArray, List.set_cons_zero, List.set_cons_succ]
                  refine take_at 16 100 (v := ?v16) rfl rfl (by kernel_rfl) (by kernel_rfl) (by kernel_rfl) (fun _ _ _ h => h) (Or.inl ⟨by rfl, ?y16⟩) (by assumption) ?z16
                  case y16 => (intro w hSw; (try dsimp only at hSw); go_simp; first | done | with_reducible rfl)
                  simp only [List.setIfInBounds_toArray, List.set_cons_zero, List.set_cons_succ]
                  refine take_at 17 101 (v := ?v17) rfl rfl (by kernel_rfl) (by kernel_rfl) (by kernel_rfl) (fun _ _ _ h => h) (Or.inl ⟨by rfl, ?y17⟩) (by assumption) ?z17
                  case y17 => (intro w hSw; (try dsimp only at hSw); go_simp; first | done | with_reducible rfl)
                  simp only [List.setIfInBounds_toArray, List.set_cons_zero, List.set_cons_succ]
                  refine take_at 18 102 (v := ?v18) rfl rfl (by kernel_rfl) (by kernel_rfl) (by kernel_rfl) (fun _ _ _ h => h) (Or.inl ⟨by rfl, ?y18⟩) (by assumption) ?z18
                  case y18 => (intro w hSw; (try dsimp only at hSw); go_simp; first | done | with_reducible rfl)
                  simp only [List.setIfInBounds_toArray, List.set_cons_zero, List.set_cons_succ]
                  refine wpAnyH_ready (rs := [12]) (by kernel_rfl) (by simp) ?_
                  refine AllReadyH.cons rfl (fun K hK => ?_) AllReadyH.nil
                  go_simp
                  refine (hown w5.drew).mono ?_
                  rintro x w6 ⟨rfl, hb6⟩
                  have hbb6 : Below w5.heap.size w5 w6 := (Below.refl _ _).drew.trans hb6
                  have hk6 := HSS.out w6 hbb6
                  refine hK.out _ _ hk6 (fun hHeld6 => ?_)
                  clear hK hHeld
                  refine take_at 19 103 (v := ?v19) rfl rfl (by kernel_rfl) (by kernel_rfl) (by kernel_rfl) (fun _ _ _ h => h) (Or.inl ⟨by rfl, ?y19⟩) (by assumption) ?z19
                  case y19 => (intro w hSw; (try dsimp only at hSw); go_simp; first | done | with_reducible rfl)
                  simp only [List.setIfInBounds_toArray, List.set_cons_zero, List.set_cons_succ]
                  refine take_at 20 104 (v := ?v20) rfl rfl (by kernel_rfl) (by kernel_rfl) (by kernel_rfl) (fun _ _ _ h => h) (Or.inl ⟨by rfl, ?y20⟩) (by assumption) ?z20
                  case y20 => (intro w hSw; (try dsimp only at hSw); go_simp; first | done | with_reducible rfl)
                  simp only [List.setIfInBounds_toArray, List.set_cons_zero, List.set_cons_succ]
                  refine take_at 21 105 (v := ?v21) rfl rfl (by kernel_rfl) (by kernel_rfl) (by kernel_rfl) (fun _ _ _ h => h) (Or.inl ⟨by rfl, ?y21⟩) (by assumption) ?z21
                  case y21 => (intro w hSw; (try dsimp only at hSw); go_simp; first | done | with_reducible rfl)
                  simp only [List.setIfInBounds_toArray, List.set_cons_zero, List.set_cons_succ]
                  refine take_at 22 106 (v := ?v22) rfl rfl (by kernel_rfl) (by kernel_rfl) (by kernel_rfl) (fun _ _ _ h => h) (Or.inl ⟨by rfl, ?y22⟩) (by assumption) ?z22
                  case y22 => (intro w hSw; (try dsimp only at hSw); go_simp; first | done | with_reducible rfl)
                  simp only [List.setIfInBounds_toArray, List.set_cons_zero, List.set_cons_succ]
                  refine take_at 23 107 (v := ?v23) rfl rfl (by kernel_rfl) (by kernel_rfl) (by kernel_rfl) (fun _ _ _ h => h) (Or.inl ⟨by rfl, ?y23⟩) (by assumption) ?z23
                  case y23 => (intro w hSw; (try dsimp only at hSw); go_simp; first | done | with_reducible rfl)
                  simp only [List.setIfInBounds_toArray, List.set_cons_zero, List.set_cons_succ]
                  refine take_at 24 108 (v := ?v24) rfl rfl (by kernel_rfl) (by kernel_rfl) (by kernel_rfl) (fun _ _ _ h => h) (Or.inl ⟨by rfl, ?y24⟩) (by assumption) ?z24
                  case y24 => (intro w hSw; (try dsimp only at hSw); go_simp; first | done | with_reducible rfl)
                  simp only [List.setIfInBounds_toArray, List.set_cons_zero, List.set_cons_succ]
                  refine take_at 25 109 (v := ?v25) rfl rfl (by kernel_rfl) (by kernel_rfl) (by kernel_rfl) (fun _ _ _ h => h) (Or.inl ⟨by rfl, ?y25⟩) (by assumption) ?z25
                  case y25 => (intro w hSw; (try dsimp only at hSw); go_simp; first | done | with_reducible rfl)
                  simp only [List.setIfInBounds_toArray, List.set_cons_zero, List.set_cons_succ]
                  refine take_at 26 110 (v := undef) rfl rfl (by kernel_rfl) (by kernel_rfl) (by kernel_rfl) (fun _ _ _ h => h) (Or.inr ⟨by rfl, rfl⟩) (by assumption) ?_
                  simp only [List.setIfInBounds_toArray, List.set_cons_zero, List.set_cons_succ]
                  refine take_at 27 111 (v := undef) rfl rfl (by kernel_rfl) (by kernel_rfl) (by kernel_rfl) (fun _ _ _ h => h) (Or.inr ⟨by rfl, rfl⟩) (by assumption) ?_
                  simp only [List.setIfInBounds_toArray, List.set_cons_zero, List.set_cons_succ]
                  refine take_at 28 112 (v := undef) rfl rfl (by kernel_rfl) (by kernel_rfl) (by kernel_rfl) (fun _ _ _ h => h) (Or.inr ⟨by rfl, rfl⟩) (by assumption) ?_
                  simp only [List.setIfInBounds_toArray, List.set_cons_zero, List.set_cons_succ]
                  refine take_at 29 113 (v := ?v29) rfl rfl (by kernel_rfl) (by kernel_rfl) (by kernel_rfl) (fun _ _ _ h => h) (Or.inl ⟨by rfl, ?y29⟩) (by assumption) ?z29
                  case y29 => (intro w hSw; (try dsimp only at hSw); go_simp; first | done | with_reducible rfl)
                  simp only [List.setIfInBounds_toArray, List.set_cons_zero, List.set_cons_succ]
                  refine take_at 30 114 (v := ?v30) rfl rfl (by kernel_rfl) (by kernel_rfl) (by kernel_rfl) (fun _ _ _ h => h) (Or.inl ⟨by rfl, ?y30⟩) (by assumption) ?z30
                  case y30 => (intro w hSw; (try dsimp only at hSw); go_simp; first | done | with_reducible rfl)
                  simp only [List.setIfInBounds_toArray, List.set_cons_zero, List.set_cons_succ]
                  refine wpAnyH_done (by kernel_rfl) ?_ _
                  all_goals
                    have hs6 := hsq5.below hbb6
                    have hr6 := HR5.out.below hbb6
                    have hw6 := hbw5.trans (hbb6.mono hbw5.size)
                    have hx6 := (hbb6.cell (p := ⟨X, 0, none⟩) hXl5).trans hX5
                    clear hk6 hHeld6 hk5 hbb6 hb6 HSS hown hsq5 hbw5 HR5 ho5 hX5 g0 g1 g2 g3 g4 r0 r1 r2 r3 r4 p1'
                    go_wp2_with fail
                    refine (refpop_any r room (e0 :: L') hL16 _ hr6).mono ?_
                    rintro x w7 ⟨rfl, hr7, ho7⟩
                    have hp6 : Pl w w7 b r room L' := ⟨hs6.other ho7 (by omega), hr7, hbr, hbase, only_below_of hw6 ho7 (by omega)⟩
                    clear hr6 hs6 hw6 hr7 ho7 hx6 hL16 hL1
                    go_wp2_with fail
                    obtain ⟨vq, _, q1, _, qo⟩ := hp6.rq
                    obtain ⟨A2, ca2, rfl, _⟩ := src_of_own qo
                    have hlen := fun W h => len_sq b room L' W h
                    have hall := fun W h => all_some b room L' W h
                    have hL17 : L'.length ≤ 1000000 := by have := hp6.sq.room_le; omega
                    have hkk : ∀ W : World, Below w7.heap.size w7 W → W.cell? ⟨r, 1, none⟩ = some (.slice A2 L'.length ca2) := fun W hW => (hW.cell (p := ⟨r, 1, none⟩) hp6.rq.lt).trans q1
                    have hk0 := hkk w7.drew (Below.refl _ _).drew
                    have HKK := Lib.hid hkk
                    have HQO := Lib.hid qo
                    clear hkk qo
                    go_region_held3 (fun W : World => W.cell? ⟨r, 1, none⟩ = some (.slice A2 L'.length ca2)) (first | assumption | exact hk7 | exact hk8)
                      (first
                        | (go_at_call 13; refine (hlen w7.drew (hp6.sq.block rfl)).mono ?_; rintro x w9 ⟨rfl, rfl⟩)
                        | (go_at_call 15; refine (hall w7.drew (hp6.sq.block rfl)).mono ?_; rintro x w9 ⟨va, rfl, ho7, hb7⟩; have hbb7 : Below w7.heap.size w7 w9 := (Below.refl _ _).drew.trans hb7; have hk7 := HKK.out w9 hbb7)
                        | (go_at_call 24; refine (same_true va (.slice A2 L'.length ca2) L' hL17 w9 (se_of_own ho7) ((se_of_own HQO.out).below hbb7)).mono ?_; rintro x w8 ⟨rfl, hb8⟩; have hbb8 : Below w7.heap.size w7 w8 := hbb7.trans (hb8.mono hbb7.size); have hk8 := HKK.out w8 hbb8))
                    all_goals
                      have hp8 := hp6.below' hbb8
                      clear hk7 hk8 hbb7 hbb8 hb7 hb8 ho7 HKK HQO hk0 q1 hlen hall hp6
                      go_wp2_with fail
                      go_roundw
                      case rel => exact ⟨j + 1, L', by omega, by go_num, hp8⟩
                      case measure => simp [intOf]; omega
              · by_cases k2 : k = 2
                · subst k2
                  clear k0 k1 k3 k4 k5 k0' k3' k4' k5'
                  go_wp2_with fail
                  obtain ⟨hX, hbX, hltX⟩ := HXN.out
                  have hp0 := HP.out.below' hbX
                  have hXb : b < wr.heap.size := HP.out.sq.lt
                  have hXr : r < wr.heap.size := HP.out.rq.lt
                  have hW0s : (wr.alloc (.cells #[.int .i64 2, .int .i64 e.kind, .int .i64 e.line, .int .i64 e.word, .int .u64 e.val, .bool e.sent] 48)).heap.size = wr.heap.size + 1 := by simp
                  clear HXN HP c0 c1 c2 c3 c4 c5
                  generalize wr.alloc (.cells #[.int .i64 2, .int .i64 e.kind, .int .i64 e.line, .int .i64 e.word, .int .u64 e.val, .bool e.sent] 48) = W0 at *
                  generalize hHX : wr.heap.size + 1 = H at *
                  generalize wr.heap.size = X at *
                  have hx0 : ∀ W : World, W.heap[X]? = W0.heap[X]? → W.cell? ⟨X, 0, none⟩ = some (.int .i64 2) := fun W hW => by
                    have := hW.trans hX
                    simp [World.cell?, this]
                  have HX0 := Lib.hid hx0
                  have hL16 : L.length ≤ 16 := by have := hp0.sq.room_le; omega
                  have hZ1 : Below W0.heap.size W0 (W0.alloc (.cells #[.int .i64 0, .int .i64 0, .int .i64 0, .int .u64 0, .bool false] 31)) := below_alloc' _
                  have hZ2 : (W0.alloc (.cells #[.int .i64 0, .int .i64 0, .int .i64 0, .int .u64 0, .bool false] 31)).heap[H]? = some (.cells #[.int .i64 0, .int .i64 0, .int .i64 0, .int .u64 0, .bool false] 31) := by rw [← hW0s]; exact heap_alloc_new W0 _
                  have hZ3 : H < (W0.alloc (.cells #[.int .i64 0, .int .i64 0, .int .i64 0, .int .u64 0, .bool false] 31)).heap.size := by
                    have : (W0.alloc (.cells #[.int .i64 0, .int .i64 0, .int .i64 0, .int .u64 0, .bool false] 31)).heap.size = W0.heap.size + 1 := by simp
                    omega
                  have hp1 := hp0.below' hZ1
                  have hbH : b ≠ H := by omega
                  have hrH : r ≠ H := by omega
                  clear hx0 hX hbX
                  generalize W0.alloc (.cells #[.int .i64 0, .int .i64 0, .int .i64 0, .int .u64 0, .bool false] 31) = W1 at *
                  rcases L with _ | ⟨e0, L'⟩
                  · refine (head_nil b room W1 hp1.sq).mono ?_
                    rintro x w4 ⟨rfl, hb4⟩
                    have hs4 := hp1.sq.below hb4
                    have ho4 : W1.grownBy w4 (some b) := only_of_below hb4 _
                    obtain ⟨⟨z0, z1, z2, z3, z4⟩, f0, f1, f2, f3, f4⟩ := cells5 ((ho4.block H hZ3 (fun h => by have := Option.some.inj h; omega)).trans hZ2)
                    have hq5 := put5n z0 z1 z2 z3 z4 (.int .i64 0) (.int .i64 0) (.int .i64 0) (.int .u64 0) (.bool false)
                    have ho5 : W0.grownBy (set5 w4 H (.int .i64 0) (.int .i64 0) (.int .i64 0) (.int .u64 0) (.bool false)) (some b) := only_set5 (only_trans (only_of_below hZ1 _) ho4) (by omega) _ _ _ _ _
                    have hsq5 : SQ (set5 w4 H (.int .i64 0) (.int .i64 0) (.int .i64 0) (.int .u64 0) (.bool false)) b room [] := hs4.block (set5_block _ _ _ _ _ _ _ b hbH)
                    have hrq5 : RQ (set5 w4 H (.int .i64 0) (.int .i64 0) (.int .i64 0) (.int .u64 0) (.bool false)) r room [] := hp0.rq.other ho5 hp0.br
                    have hbw5 : Below w.heap.size w (set5 w4 H (.int .i64 0) (.int .i64 0) (.int .i64 0) (.int .u64 0) (.bool false)) := only_below_of hp0.below ho5 hp0.base
                    have hX5 : (set5 w4 H (.int .i64 0) (.int .i64 0) (.int .i64 0) (.int .u64 0) (.bool false)).cell? ⟨X, 0, none⟩ = some (.int .i64 2) := HX0.out _ (ho5.block X hltX (fun h => by have := Option.some.inj h; omega))
                    have hXl5 : X < (set5 w4 H (.int .i64 0) (.int .i64 0) (.int .i64 0) (.int .u64 0) (.bool false)).heap.size := Nat.lt_of_lt_of_le hltX ho5.size
                    have g0 : (set5 w4 H (.int .i64 0) (.int .i64 0) (.int .i64 0) (.int .u64 0) (.bool false)).cell? ⟨H, 0, none⟩ = some (.int .i64 0) := hq5.1
                    have g1 : (set5 w4 H (.int .i64 0) (.int .i64 0) (.int .i64 0) (.int .u64 0) (.bool false)).cell? ⟨H, 1, none⟩ = some (.int .i64 0) := hq5.2.1
                    have g2 : (set5 w4 H (.int .i64 0) (.int .i64 0) (.int .i64 0) (.int .u64 0) (.bool false)).cell? ⟨H, 2, none⟩ = some (.int .i64 0) := hq5.2.2.1
                    have g3 : (set5 w4 H (.int .i64 0) (.int .i64 0) (.int .i64 0) (.int .u64 0) (.bool false)).cell? ⟨H, 3, none⟩ = some (.int .u64 0) := hq5.2.2.2.1
                    have g4 : (set5 w4 H (.int .i64 0) (.int .i64 0) (.int .i64 0) (.int .u64 0) (.bool false)).cell? ⟨H, 4, none⟩ = some (.bool false) := hq5.2.2.2.2
                    have hHl5 : H < (set5 w4 H (.int .i64 0) (.int .i64 0) (.int .i64 0) (.int .u64 0) (.bool false)).heap.size := World.block_lt_of_cell? (w := set5 w4 H (.int .i64 0) (.int .i64 0) (.int .i64 0) (.int .u64 0) (.bool false)) (a := ⟨H, 0, none⟩) g0
                    have hbr := hp0.br
                    have hbase := hp0.base
                    have H5 := Lib.hid (And.intro ho5 (And.intro hsq5 (And.intro hrq5 (And.intro hbw5 (And.intro hX5 (And.intro g0 (And.intro g1 (And.intro g2 (And.intro g3 g4)))))))))
                    clear hq5 ho5 hsq5 hrq5 hbw5 hX5 g0 g1 g2 g3 g4 hs4 ho4 hp0 hp1 hZ1 hZ2 hZ3
                    unfold Ent.v Ent.zero
                    go_wp2_with fail
                    obtain ⟨ho5, hsq5, hrq5, hbw5, hX5, g0, g1, g2, g3, g4⟩ := H5.out
                    clear H5 z0 z1 z2 z3 z4 f0 f1 f2 f3 f4
                    change Code.wp _ _ _ _ (set5 w4 H (.int .i64 0) (.int .i64 0) (.int .i64 0) (.int .u64 0) (.bool false))
                    generalize set5 w4 H (.int .i64 0) (.int .i64 0) (.int .i64 0) (.int .u64 0) (.bool false) = w5 at *
                    have HR5 := Lib.hid hrq5
                    obtain ⟨v5, _, p1, _, p2⟩ := hrq5
                    obtain ⟨A5, ca5, rfl, _⟩ := src_of_own p2
                    clear p2
                    have p1' : w5.cell? ⟨r, 1, none⟩ = some (.slice A5 0 ca5) := p1
                    clear p1
                    go_quiet (fail)
                    go_wp2_with fail
                    have hr6 := HR5.out.below (below_drewN (Below.refl w5.heap.size w5) nq)
                    have hs6 := hsq5.below (below_drewN (Below.refl w5.heap.size w5) nq)
                    have hb6 := below_drewN hbw5 nq
                    have hp6 : Pl w (w5.drewN nq) b r room [] := ⟨hs6, hr6, hbr, hbase, hb6⟩
                    clear hr6 hs6 hb6 hsq5 hbw5 HR5 ho5 hX5 g0 g1 g2 g3 g4 p1' hL16
                    generalize w5.drewN nq = w6 at *
                    generalize hLn : ([] : List Ent) = L2 at *
                    clear hLn
                    obtain ⟨vq, _, q1, _, qo⟩ := hp6.rq
                    obtain ⟨A2, ca2, rfl, _⟩ := src_of_own qo
                    have hlen := fun W h => len_sq b room L2 W h
                    have hall := fun W h => all_some b room L2 W h
                    have hL17 : L2.length ≤ 1000000 := by have := hp6.sq.room_le; omega
                    have hkk : ∀ W : World, Below w6.heap.size w6 W → W.cell? ⟨r, 1, none⟩ = some (.slice A2 L2.length ca2) := fun W hW => (hW.cell (p := ⟨r, 1, none⟩) hp6.rq.lt).trans q1
                    have hk0 := hkk w6.drew (Below.refl _ _).drew
                    have HKK := Lib.hid hkk
                    have HQO := Lib.hid qo
                    clear hkk qo
                    go_region_held3 (fun W : World => W.cell? ⟨r, 1, none⟩ = some (.slice A2 L2.length ca2)) (first | assumption | exact hk7 | exact hk8)
                      (first
                        | (go_at_call 13; refine (hlen w6.drew (hp6.sq.block rfl)).mono ?_; rintro x w7 ⟨rfl, rfl⟩)
                        | (go_at_call 15; refine (hall w6.drew (hp6.sq.block rfl)).mono ?_; rintro x w7 ⟨va, rfl, ho7, hb7⟩; have hbb7 : Below w6.heap.size w6 w7 := (Below.refl _ _).drew.trans hb7; have hk7 := HKK.out w7 hbb7)
                        | (go_at_call 24; refine (same_true va (.slice A2 L2.length ca2) L2 hL17 w7 (se_of_own ho7) ((se_of_own HQO.out).below hbb7)).mono ?_; rintro x w8 ⟨rfl, hb8⟩; have hbb8 : Below w6.heap.size w6 w8 := hbb7.trans (hb8.mono hbb7.size); have hk8 := HKK.out w8 hbb8))
                    all_goals
                      have hp8 := hp6.below' hbb8
                      clear hk7 hk8 hbb7 hbb8 hb7 hb8 ho7 HKK HQO hk0 q1 hlen hall hp6
                      go_wp2_with fail
                      go_roundw
                      case rel => exact ⟨j + 1, L2, by omega, by go_num, hp8⟩
                      case measure => simp [intOf]; omega
                  · refine (head_cons b room e0 L' W1 hp1.sq).mono ?_
                    rintro x w4 ⟨rfl, hb4⟩
                    have hs4 := hp1.sq.below hb4
                    have ho4 : W1.grownBy w4 (some b) := only_of_below hb4 _
                    obtain ⟨⟨z0, z1, z2, z3, z4⟩, f0, f1, f2, f3, f4⟩ := cells5 ((ho4.block H hZ3 (fun h => by have := Option.some.inj h; omega)).trans hZ2)
                    have hq5 := put5n z0 z1 z2 z3 z4 (.int .i64 e0.kind) (.int .i64 e0.line) (.int .i64 e0.word) (.int .u64 e0.val) (.bool e0.sent)
                    have ho5 : W0.grownBy (set5 w4 H (.int .i64 e0.kind) (.int .i64 e0.line) (.int .i64 e0.word) (.int .u64 e0.val) (.bool e0.sent)) (some b) := only_set5 (only_trans (only_of_below hZ1 _) ho4) (by omega) _ _ _ _ _
                    have hsq5 : SQ (set5 w4 H (.int .i64 e0.kind) (.int .i64 e0.line) (.int .i64 e0.word) (.int .u64 e0.val) (.bool e0.sent)) b room (e0 :: L') := hs4.block (set5_block _ _ _ _ _ _ _ b hbH)
                    have hrq5 : RQ (set5 w4 H (.int .i64 e0.kind) (.int .i64 e0.line) (.int .i64 e0.word) (.int .u64 e0.val) (.bool e0.sent)) r room (e0 :: L') := hp0.rq.other ho5 hp0.br
                    have hbw5 : Below w.heap.size w (set5 w4 H (.int .i64 e0.kind) (.int .i64 e0.line) (.int .i64 e0.word) (.int .u64 e0.val) (.bool e0.sent)) := only_below_of hp0.below ho5 hp0.base
                    have hX5 : (set5 w4 H (.int .i64 e0.kind) (.int .i64 e0.line) (.int .i64 e0.word) (.int .u64 e0.val) (.bool e0.sent)).cell? ⟨X, 0, none⟩ = some (.int .i64 2) := HX0.out _ (ho5.block X hltX (fun h => by have := Option.some.inj h; omega))
                    have hXl5 : X < (set5 w4 H (.int .i64 e0.kind) (.int .i64 e0.line) (.int .i64 e0.word) (.int .u64 e0.val) (.bool e0.sent)).heap.size := Nat.lt_of_lt_of_le hltX ho5.size
                    have g0 : (set5 w4 H (.int .i64 e0.kind) (.int .i64 e0.line) (.int .i64 e0.word) (.int .u64 e0.val) (.bool e0.sent)).cell? ⟨H, 0, none⟩ = some (.int .i64 e0.kind) := hq5.1
                    have g1 : (set5 w4 H (.int .i64 e0.kind) (.int .i64 e0.line) (.int .i64 e0.word) (.int .u64 e0.val) (.bool e0.sent)).cell? ⟨H, 1, none⟩ = some (.int .i64 e0.line) := hq5.2.1
                    have g2 : (set5 w4 H (.int .i64 e0.kind) (.int .i64 e0.line) (.int .i64 e0.word) (.int .u64 e0.val) (.bool e0.sent)).cell? ⟨H, 2, none⟩ = some (.int .i64 e0.word) := hq5.2.2.1
                    have g3 : (set5 w4 H (.int .i64 e0.kind) (.int .i64 e0.line) (.int .i64 e0.word) (.int .u64 e0.val) (.bool e0.sent)).cell? ⟨H, 3, none⟩ = some (.int .u64 e0.val) := hq5.2.2.2.1
                    have g4 : (set5 w4 H (.int .i64 e0.kind) (.int .i64 e0.line) (.int .i64 e0.word) (.int .u64 e0.val) (.bool e0.sent)).cell? ⟨H, 4, none⟩ = some (.bool e0.sent) := hq5.2.2.2.2
                    have hHl5 : H < (set5 w4 H (.int .i64 e0.kind) (.int .i64 e0.line) (.int .i64 e0.word) (.int .u64 e0.val) (.bool e0.sent)).heap.size := World.block_lt_of_cell? (w := set5 w4 H (.int .i64 e0.kind) (.int .i64 e0.line) (.int .i64 e0.word) (.int .u64 e0.val) (.bool e0.sent)) (a := ⟨H, 0, none⟩) g0
                    have hbr := hp0.br
                    have hbase := hp0.base
                    have H5 := Lib.hid (And.intro ho5 (And.intro hsq5 (And.intro hrq5 (And.intro hbw5 (And.intro hX5 (And.intro g0 (And.intro g1 (And.intro g2 (And.intro g3 g4)))))))))
                    clear hq5 ho5 hsq5 hrq5 hbw5 hX5 g0 g1 g2 g3 g4 hs4 ho4 hp0 hp1 hZ1 hZ2 hZ3
                    unfold Ent.v
                    go_wp2_with fail
                    obtain ⟨ho5, hsq5, hrq5, hbw5, hX5, g0, g1, g2, g3, g4⟩ := H5.out
                    clear H5 z0 z1 z2 z3 z4 f0 f1 f2 f3 f4
                    change Code.wp _ _ _ _ (set5 w4 H (.int .i64 e0.kind) (.int .i64 e0.line) (.int .i64 e0.word) (.int .u64 e0.val) (.bool e0.sent))
                    generalize set5 w4 H (.int .i64 e0.kind) (.int .i64 e0.line) (.int .i64 e0.word) (.int .u64 e0.val) (.bool e0.sent) = w5 at *
                    have HR5 := Lib.hid hrq5
                    obtain ⟨v5, _, p1, _, p2⟩ := hrq5
                    obtain ⟨g, ca5, rfl, _, hgl, hrd⟩ := own_read_at p2 (by simp)
                    obtain ⟨r0, r1, r2, r3, r4⟩ := hrd 0 e0 rfl
                    simp only [Nat.zero_mul, Nat.zero_add] at r0 r1 r2 r3 r4
                    have p1' : w5.cell? ⟨r, 1, none⟩ = some (.slice (some ⟨g, 0, none⟩) (L'.length + 1) ca5) := p1
                    have hr5 : r < w5.heap.size := HR5.out.lt
                    have hL1 : (0 : Int) ≤ (L'.length : Int) := by omega
                    have hss : ∀ W : World, Below w5.heap.size w5 W → W.cell? ⟨r, 1, none⟩ = some (.slice (some ⟨g, 0, none⟩) (L'.length + 1) ca5) ∧ W.cell? ⟨H, 0, none⟩ = some (.int .i64 e0.kind) ∧ W.cell? ⟨H, 1, none⟩ = some (.int .i64 e0.line) ∧ W.cell? ⟨H, 2, none⟩ = some (.int .i64 e0.word) ∧ W.cell? ⟨H, 3, none⟩ = some (.int .u64 e0.val) ∧ W.cell? ⟨H, 4, none⟩ = some (.bool e0.sent) ∧ W.cell? ⟨g, 0, none⟩ = some (.int .i64 e0.kind) ∧ W.cell? ⟨g, 1, none⟩ = some (.int .i64 e0.line) ∧ W.cell? ⟨g, 2, none⟩ = some (.int .i64 e0.word) ∧ W.cell? ⟨g, 3, none⟩ = some (.int .u64 e0.val) ∧ W.cell? ⟨g, 4, none⟩ = some (.bool e0.sent) := fun W hW =>
                      ⟨(hW.cell (p := ⟨r, _, none⟩) hr5).trans p1', (hW.cell (p := ⟨H, _, none⟩) hHl5).trans g0, (hW.cell (p := ⟨H, _, none⟩) hHl5).trans g1, (hW.cell (p := ⟨H, _, none⟩) hHl5).trans g2, (hW.cell (p := ⟨H, _, none⟩) hHl5).trans g3, (hW.cell (p := ⟨H, _, none⟩) hHl5).trans g4,
                        (hW.cell (p := ⟨g, _, none⟩) hgl).trans r0, (hW.cell (p := ⟨g, _, none⟩) hgl).trans r1, (hW.cell (p := ⟨g, _, none⟩) hgl).trans r2, (hW.cell (p := ⟨g, _, none⟩) hgl).trans r3, (hW.cell (p := ⟨g, _, none⟩) hgl).trans r4⟩
                    have hk5 := hss w5.drew (Below.refl _ _).drew
                    have HSS := Lib.hid hss
                    have hown := own_any e0
                    unfold Ent.v at hown
                    clear hss hrd p1 p2
                    refine wp_region_held_drew (S := fun W : World => W.cell? ⟨r, 1, none⟩ = some (.slice (some ⟨g, 0, none⟩) (L'.length + 1) ca5) ∧ W.cell? ⟨H, 0, none⟩ = some (.int .i64 e0.kind) ∧ W.cell? ⟨H, 1, none⟩ = some (.int .i64 e0.line) ∧ W.cell? ⟨H, 2, none⟩ = some (.int .i64 e0.word) ∧ W.cell? ⟨H, 3, none⟩ = some (.int .u64 e0.val) ∧ W.cell? ⟨H, 4, none⟩ = some (.bool e0.sent) ∧ W.cell? ⟨g, 0, none⟩ = some (.int .i64 e0.kind) ∧ W.cell? ⟨g, 1, none⟩ = some (.int .i64 e0.line) ∧ W.cell? ⟨g, 2, none⟩ = some (.int .i64 e0.word) ∧ W.cell? ⟨g, 3, none⟩ = some (.int .u64 e0.val) ∧ W.cell? ⟨g, 4, none⟩ = some (.bool e0.sent)) (by kernel_rfl) hk5 (fun hHeld => ?_)
                    refine take_at 0 84 (v := ?vv0) rfl rfl (by kernel_rfl) (by kernel_rfl) (by kernel_rfl) (fun _ _ _ h => h) (Or.inl ⟨by rfl, ?yy0⟩) (by assumption) ?zz0
                    case yy0 => (intro w hSw; (try dsimp only at hSw); go_simp; first | done | with_reducible rfl)
                    simp only [List.setIfInBounds_toArray, List.set_cons_zero, List.set_cons_succ]
                    refine take_at 1 85 (v := ?vv1) rfl rfl (by kernel_rfl) (by kernel_rfl) (by kernel_rfl) (fun _ _ _ h => h) (Or.inl ⟨by rfl, ?yy1⟩) (by assumption) ?zz1
                    case yy1 => (intro w hSw; (try dsimp only at hSw); go_simp; first | done | with_reducible rfl)
                    simp only [List.setIfInBounds_toArray, List.set_cons_zero, List.set_cons_succ]
                    refine take_at 2 86 (v := ?vv2) rfl rfl (by kernel_rfl) (by kernel_rfl) (by kernel_rfl) (fun _ _ _ h => h) (Or.inl ⟨by rfl, ?yy2⟩) (by assumption) ?zz2
                    case yy2 => (intro w hSw; (try dsimp only at hSw); go_simp; first | done | with_reducible rfl)
                    simp only [List.setIfInBounds_toArray, List.set_cons_zero, List.set_cons_succ]
                    refine take_at 3 87 (v := ?vv3) rfl rfl (by kernel_rfl) (by kernel_rfl) (by kernel_rfl) (fun _ _ _ h => h) (Or.inl ⟨by rfl, ?yy3⟩) (by assumption) ?zz3
                    case yy3 => (intro w hSw; (try dsimp only at hSw); go_simp; first | done | with_reducible rfl)
                    simp only [List.setIfInBounds_toArray, List.set_cons_zero, List.set_cons_succ]
                    refine take_at 4 88 (v := ?vv4) rfl rfl (by kernel_rfl) (by kernel_rfl) (by kernel_rfl) (fun _ _ _ h => h) (Or.inl ⟨by rfl, ?yy4⟩) (by assumption) ?zz4
                    case yy4 => (intro w hSw; (try dsimp only at hSw); go_simp; first | done | with_reducible rfl)
                    simp only [List.setIfInBounds_toArray, List.set_cons_zero, List.set_cons_succ]
                    refine take_at 5 89 (v := ?vv5) rfl rfl (by kernel_rfl) (by kernel_rfl) (by kernel_rfl) (fun _ _ _ h => h) (Or.inl ⟨by rfl, ?yy5⟩) (by assumption) ?zz5
                    case yy5 => (intro w hSw; (try dsimp only at hSw); go_simp; first | done | with_reducible rfl)
                    simp only [List.setIfInBounds_toArray, List.set_cons_zero, List.set_cons_succ]
                    refine take_at 6 90 (v := ?vv6) rfl rfl (by kernel_rfl) (by kernel_rfl) (by kernel_rfl) (fun _ _ _ h => h) (Or.inl ⟨by rfl, ?yy6⟩) (by assumption) ?zz6
                    case yy6 => (intro w hSw; (try dsimp only at hSw); go_simp; first | done | with_reducible rfl)
                    simp only [List.setIfInBounds_toArray, List.set_cons_zero, List.set_cons_succ]
                    refine take_at 7 91 (v := ?vv7) rfl rfl (by kernel_rfl) (by kernel_rfl) (by kernel_rfl) (fun _ _ _ h => h) (Or.inl ⟨by rfl, ?yy7⟩) (by assumption) ?zz7
                    case yy7 => (intro w hSw; (try dsimp only at hSw); go_simp; first | done | with_reducible rfl)
                    simp only [List.setIfInBounds_toArray, List.set_cons_zero, List.set_cons_succ]
                    refine take_at 8 92 (v := ?vv8) rfl rfl (by kernel_rfl) (by kernel_rfl) (by kernel_rfl) (fun _ _ _ h => h) (Or.inl ⟨by rfl, ?yy8⟩) (by assumption) ?zz8
                    case yy8 => (intro w hSw; (try dsimp only at hSw); go_simp; first | done | with_reducible rfl)
                    simp only [List.setIfInBounds_toArray, List.set_cons_zero, List.set_cons_succ]
                    refine take_at 9 93 (v := ?vv9) rfl rfl (by kernel_rfl) (by kernel_rfl) (by kernel_rfl) (fun _ _ _ h => h) (Or.inl ⟨by rfl, ?yy9⟩) (by assumption) ?zz9
                    case yy9 => (intro w hSw; (try dsimp only at hSw); go_simp; first | done | with_reducible rfl)
                    simp only [List.setIfInBounds_toArray, List.set_cons_zero, List.set_cons_succ]
                    refine take_at 10 94 (v := ?vv10) rfl rfl (by kernel_rfl) (by kernel_rfl) (by kernel_rfl) (fun _ _ _ h => h) (Or.inl ⟨by rfl, ?yy10⟩) (by assumption) ?zz10
                    case yy10 => (intro w hSw; (try dsimp only at hSw); go_simp; first | done | with_reducible rfl)
                    simp only [List.setIfInBounds_toArray, List.set_cons_zero, List.set_cons_succ]
                    refine take_at 11 95 (v := ?vv11) rfl rfl (by kernel_rfl) (by kernel_rfl) (by kernel_rfl) (fun _ _ _ h => h) (Or.inl ⟨by rfl, ?yy11⟩) (by assumption) ?zz11
                    case yy11 => (intro w hSw; (try dsimp only at hSw); go_simp; first | done | with_reducible rfl)
                    simp only [List.setIfInBounds_toArray, List.set_cons_zero, List.set_cons_succ]
                    refine take_at 13 97 (v := ?vv13) rfl rfl (by kernel_rfl) (by kernel_rfl) (by kernel_rfl) (fun _ _ _ h => h) (Or.inl ⟨by rfl, ?yy13⟩) (by assumption) ?zz13
                    case yy13 => (intro w hSw; (try dsimp only at hSw); go_simp; first | done | with_reducible rfl)
                    simp only [List.setIfInBounds_toArray, List.set_cons_zero, List.set_cons_succ]
                    refine take_at 14 98 (v := ?vv14) rfl rfl (by kernel_rfl) (by kernel_rfl) (by kernel_rfl) (fun _ _ _ h => h) (Or.inl ⟨by rfl, ?yy14⟩) (by assumption) ?zz14
                    case yy14 => (intro w hSw; (try dsimp only at hSw); go_simp; first | done | with_reducible rfl)
                    simp only [List.setIfInBounds_toArray, List.set_cons_zero, List.set_cons_succ]
                    refine take_at 15 99 (v := ?vv15) rfl rfl (by kernel_rfl) (by kernel_rfl) (by kernel_rfl) (fun _ _ _ h => h) (Or.inl ⟨by rfl, ?yy15⟩) (by assumption) ?zz15
                    case yy15 => (intro w hSw; (try dsimp only at hSw); go_simp; first | done | with_reducible rfl)
                    simp only [List.setIfInBounds_toArray, List.set_cons_zero, List.set_cons_succ]
                    refine take_at 16 100 (v := ?vv16) rfl rfl (by kernel_rfl) (by kernel_rfl) (by kernel_rfl) (fun _ _ _ h => h) (Or.inl ⟨by rfl, ?yy16⟩) (by assumption) ?zz16
                    case yy16 => (intro w hSw; (try dsimp only at hSw); go_simp; first | done | with_reducible rfl)
                    simp only [List.setIfInBounds_toArray, List.set_cons_zero, List.set_cons_succ]
                    refine take_at 17 101 (v := ?vv17) rfl rfl (by kernel_rfl) (by kernel_rfl) (by kernel_rfl) (fun _ _ _ h => h) (Or.inl ⟨by rfl, ?yy17⟩) (by assumption) ?zz17
                    case yy17 => (intro w hSw; (try dsimp only at hSw); go_simp; first | done | with_reducible rfl)
                    simp only [List.setIfInBounds_toArray, List.set_cons_zero, List.set_cons_succ]
                    refine take_at 18 102 (v := ?vv18) rfl rfl (by kernel_rfl) (by kernel_rfl) (by kernel_rfl) (fun _ _ _ h => h) (Or.inl ⟨by rfl, ?yy18⟩) (by assumption) ?zz18
                    case yy18 => (intro w hSw; (try dsimp only at hSw); go_simp; first | done | with_reducible rfl)
                    simp only [List.setIfInBounds_toArray, List.set_cons_zero, List.set_cons_succ]
                    refine wpAnyH_ready (rs := [12]) (by kernel_rfl) (by simp) ?_
                    refine AllReadyH.cons rfl (fun K hK => ?_) AllReadyH.nil
                    go_simp
                    refine (hown w5.drew).mono ?_
                    rintro x w6 ⟨rfl, hb6⟩
                    have hbb6 : Below w5.heap.size w5 w6 := (Below.refl _ _).drew.trans hb6
                    have hk6 := HSS.out w6 hbb6
                    refine hK.out _ _ hk6 (fun hHeld6 => ?_)
                    clear hK hHeld
                    refine take_at 19 103 (v := ?vv19) rfl rfl (by kernel_rfl) (by kernel_rfl) (by kernel_rfl) (fun _ _ _ h => h) (Or.inl ⟨by rfl, ?yy19⟩) (by assumption) ?zz19
                    case yy19 => (intro w hSw; (try dsimp only at hSw); go_simp; first | done | with_reducible rfl)
                    simp only [List.setIfInBounds_toArray, List.set_cons_zero, List.set_cons_succ]
                    refine take_at 20 104 (v := ?vv20) rfl rfl (by kernel_rfl) (by kernel_rfl) (by kernel_rfl) (fun _ _ _ h => h) (Or.inl ⟨by rfl, ?yy20⟩) (by assumption) ?zz20
                    case yy20 => (intro w hSw; (try dsimp only at hSw); go_simp; first | done | with_reducible rfl)
                    simp only [List.setIfInBounds_toArray, List.set_cons_zero, List.set_cons_succ]
                    refine take_at 21 105 (v := ?vv21) rfl rfl (by kernel_rfl) (by kernel_rfl) (by kernel_rfl) (fun _ _ _ h => h) (Or.inl ⟨by rfl, ?yy21⟩) (by assumption) ?zz21
                    case yy21 => (intro w hSw; (try dsimp only at hSw); go_simp; first | done | with_reducible rfl)
                    simp only [List.setIfInBounds_toArray, List.set_cons_zero, List.set_cons_succ]
                    refine take_at 22 106 (v := ?vv22) rfl rfl (by kernel_rfl) (by kernel_rfl) (by kernel_rfl) (fun _ _ _ h => h) (Or.inl ⟨by rfl, ?yy22⟩) (by assumption) ?zz22
                    case yy22 => (intro w hSw; (try dsimp only at hSw); go_simp; first | done | with_reducible rfl)
                    simp only [List.setIfInBounds_toArray, List.set_cons_zero, List.set_cons_succ]
                    refine take_at 23 107 (v := ?vv23) rfl rfl (by kernel_rfl) (by kernel_rfl) (by kernel_rfl) (fun _ _ _ h => h) (Or.inl ⟨by rfl, ?yy23⟩) (by assumption) ?zz23
                    case yy23 => (intro w hSw; (try dsimp only at hSw); go_simp; first | done | with_reducible rfl)
                    simp only [List.setIfInBounds_toArray, List.set_cons_zero, List.set_cons_succ]
                    refine take_at 24 108 (v := ?vv24) rfl rfl (by kernel_rfl) (by kernel_rfl) (by kernel_rfl) (fun _ _ _ h => h) (Or.inl ⟨by rfl, ?yy24⟩) (by assumption) ?zz24
                    case yy24 => (intro w hSw; (try dsimp only at hSw); go_simp; first | done | with_reducible rfl)
                    simp only [List.setIfInBounds_toArray, List.set_cons_zero, List.set_cons_succ]
                    refine take_at 25 109 (v := ?vv25) rfl rfl (by kernel_rfl) (by kernel_rfl) (by kernel_rfl) (fun _ _ _ h => h) (Or.inl ⟨by rfl, ?yy25⟩) (by assumption) ?zz25
                    case yy25 => (intro w hSw; (try dsimp only at hSw); go_simp; first | done | with_reducible rfl)
                    simp only [List.setIfInBounds_toArray, List.set_cons_zero, List.set_cons_succ]
                    refine take_at 26 110 (v := undef) rfl rfl (by kernel_rfl) (by kernel_rfl) (by kernel_rfl) (fun _ _ _ h => h) (Or.inr ⟨by rfl, rfl⟩) (by assumption) ?_
                    simp only [List.setIfInBounds_toArray, List.set_cons_zero, List.set_cons_succ]
                    refine take_at 27 111 (v := undef) rfl rfl (by kernel_rfl) (by kernel_rfl) (by kernel_rfl) (fun _ _ _ h => h) (Or.inr ⟨by rfl, rfl⟩) (by assumption) ?_
                    simp only [List.setIfInBounds_toArray, List.set_cons_zero, List.set_cons_succ]
                    refine take_at 28 112 (v := undef) rfl rfl (by kernel_rfl) (by kernel_rfl) (by kernel_rfl) (fun _ _ _ h => h) (Or.inr ⟨by rfl, rfl⟩) (by assumption) ?_
                    simp only [List.setIfInBounds_toArray, List.set_cons_zero, List.set_cons_succ]
                    refine take_at 29 113 (v := ?vv29) rfl rfl (by kernel_rfl) (by kernel_rfl) (by kernel_rfl) (fun _ _ _ h => h) (Or.inl ⟨by rfl, ?yy29⟩) (by assumption) ?zz29
                    case yy29 => (intro w hSw; (try dsimp only at hSw); go_simp; first | done | with_reducible rfl)
                    simp only [List.setIfInBounds_toArray, List.set_cons_zero, List.set_cons_succ]
                    refine take_at 30 114 (v := ?vv30) rfl rfl (by kernel_rfl) (by kernel_rfl) (by kernel_rfl) (fun _ _ _ h => h) (Or.inl ⟨by rfl, ?yy30⟩) (by assumption) ?zz30
                    case yy30 => (intro w hSw; (try dsimp only at hSw); go_simp; first | done | with_reducible rfl)
                    simp only [List.setIfInBounds_toArray, List.set_cons_zero, List.set_cons_succ]
                    refine wpAnyH_done (by kernel_rfl) ?_ _
                    all_goals
                      have hs6 := hsq5.below hbb6
                      have hr6 := HR5.out.below hbb6
                      have hw6 := hbw5.trans (hbb6.mono hbw5.size)
                      have hx6 := (hbb6.cell (p := ⟨X, 0, none⟩) hXl5).trans hX5
                      clear hk6 hHeld6 hk5 hbb6 hb6 HSS hown hsq5 hbw5 HR5 ho5 hX5 g0 g1 g2 g3 g4 r0 r1 r2 r3 r4 p1'
                      go_wp2_with fail
                      have hp6 : Pl w w6 b r room (e0 :: L') := ⟨hs6, hr6, hbr, hbase, hw6⟩
                      clear hr6 hs6 hw6 hx6 hL16 hL1
                      generalize hLn : (e0 :: L') = L2 at *
                      clear hLn
                      obtain ⟨vq, _, q1, _, qo⟩ := hp6.rq
                      obtain ⟨A2, ca2, rfl, _⟩ := src_of_own qo
                      have hlen := fun W h => len_sq b room L2 W h
                      have hall := fun W h => all_some b room L2 W h
                      have hL17 : L2.length ≤ 1000000 := by have := hp6.sq.room_le; omega
                      have hkk : ∀ W : World, Below w6.heap.size w6 W → W.cell? ⟨r, 1, none⟩ = some (.slice A2 L2.length ca2) := fun W hW => (hW.cell (p := ⟨r, 1, none⟩) hp6.rq.lt).trans q1
                      have hk0 := hkk w6.drew (Below.refl _ _).drew
                      have HKK := Lib.hid hkk
                      have HQO := Lib.hid qo
                      clear hkk qo
                      go_region_held3 (fun W : World => W.cell? ⟨r, 1, none⟩ = some (.slice A2 L2.length ca2)) (first | assumption | exact hk7 | exact hk8)
                        (first
                          | (go_at_call 13; refine (hlen w6.drew (hp6.sq.block rfl)).mono ?_; rintro x w7 ⟨rfl, rfl⟩)
                          | (go_at_call 15; refine (hall w6.drew (hp6.sq.block rfl)).mono ?_; rintro x w7 ⟨va, rfl, ho7, hb7⟩; have hbb7 : Below w6.heap.size w6 w7 := (Below.refl _ _).drew.trans hb7; have hk7 := HKK.out w7 hbb7)
                          | (go_at_call 24; refine (same_true va (.slice A2 L2.length ca2) L2 hL17 w7 (se_of_own ho7) ((se_of_own HQO.out).below hbb7)).mono ?_; rintro x w8 ⟨rfl, hb8⟩; have hbb8 : Below w6.heap.size w6 w8 := hbb7.trans (hb8.mono hbb7.size); have hk8 := HKK.out w8 hbb8))
                      all_goals
                        have hp8 := hp6.below' hbb8
                        clear hk7 hk8 hbb7 hbb8 hb7 hb8 ho7 HKK HQO hk0 q1 hlen hall hp6
                        go_wp2_with fail
                        go_roundw
                        case rel => exact ⟨j + 1, L2, by omega, by go_num, hp8⟩
                        case measure => simp [intOf]; omega
                · have k1' : (k == 1) = false := by simpa using k1
                  have k2' : (k == 2) = false := by simpa using k2
                  clear k0 k1 k2 k3 k4 k5
                  go_wp2_with fail
                  obtain ⟨hX, hbX, hltX⟩ := HXN.out
                  have hp0 := HP.out.below' hbX
                  have hXb : b < wr.heap.size := HP.out.sq.lt
                  have hXr : r < wr.heap.size := HP.out.rq.lt
                  clear HXN HP c0 c1 c2 c3 c4 c5
                  generalize wr.alloc (.cells #[.int .i64 k, .int .i64 e.kind, .int .i64 e.line, .int .i64 e.word, .int .u64 e.val, .bool e.sent] 48) = W0 at *
                  generalize wr.heap.size = X at *
                  have hxs : ∀ W : World, W.heap[X]? = W0.heap[X]? → W.cell? ⟨X, 0, none⟩ = some (.int .i64 k) ∧ W.cell? ⟨X, 1, none⟩ = some (.int .i64 e.kind) ∧ W.cell? ⟨X, 2, none⟩ = some (.int .i64 e.line) ∧ W.cell? ⟨X, 3, none⟩ = some (.int .i64 e.word) ∧ W.cell? ⟨X, 4, none⟩ = some (.int .u64 e.val) ∧ W.cell? ⟨X, 5, none⟩ = some (.bool e.sent) := fun W hW => by
                    have := hW.trans hX
                    simp [World.cell?, this]
                  have HXS := Lib.hid hxs
                  clear hxs
                  have hL16 : L.length ≤ 16 := by have := hp0.sq.room_le; omega
                  clear HXS hX hbX hltX hL16
                  obtain ⟨vq, _, q1, _, qo⟩ := hp0.rq
                  obtain ⟨A2, ca2, rfl, _⟩ := src_of_own qo
                  have hlen := fun W h => len_sq b room L W h
                  have hall := fun W h => all_some b room L W h
                  have hL17 : L.length ≤ 1000000 := by have := hp0.sq.room_le; omega
                  have hkk : ∀ W : World, Below W0.heap.size W0 W → W.cell? ⟨r, 1, none⟩ = some (.slice A2 L.length ca2) := fun W hW => (hW.cell (p := ⟨r, 1, none⟩) hp0.rq.lt).trans q1
                  have hk0 := hkk W0.drew (Below.refl _ _).drew
                  have HKK := Lib.hid hkk
                  have HQO := Lib.hid qo
                  clear hkk qo
                  go_region_held3 (fun W : World => W.cell? ⟨r, 1, none⟩ = some (.slice A2 L.length ca2)) (first | assumption | exact hk7 | exact hk8)
                    (first
                      | (go_at_call 13; refine (hlen W0.drew (hp0.sq.block rfl)).mono ?_; rintro x w7 ⟨rfl, rfl⟩)
                      | (go_at_call 15; refine (hall W0.drew (hp0.sq.block rfl)).mono ?_; rintro x w7 ⟨va, rfl, ho7, hb7⟩; have hbb7 : Below W0.heap.size W0 w7 := (Below.refl _ _).drew.trans hb7; have hk7 := HKK.out w7 hbb7)
                      | (go_at_call 24; refine (same_true va (.slice A2 L.length ca2) L hL17 w7 (se_of_own ho7) ((se_of_own HQO.out).below hbb7)).mono ?_; rintro x w8 ⟨rfl, hb8⟩; have hbb8 : Below W0.heap.size W0 w8 := hbb7.trans (hb8.mono hbb7.size); have hk8 := HKK.out w8 hbb8))
                  all_goals
                    have hp8 := hp0.below' hbb8
                    clear hk7 hk8 hbb7 hbb8 hb7 hb8 ho7 HKK HQO hk0 q1 hlen hall hp0
                    go_wp2_with fail
                    go_roundw
                    case rel => exact ⟨j + 1, L, by omega, by go_num, hp8⟩
                    case measure => simp [intOf]; omega
    · obtain rfl : j = n := by omega
      have HP := Lib.hid hp
      clear hp hpl
      go_wp2_with fail
      refine (wakes_true _).mono ?_
      rintro x w3 ⟨rfl, hb3⟩
      go_wp2_with fail
      go_ret
      exact ⟨rfl, HP.out.below.trans (hb3.mono HP.out.below.size)⟩
theorem plays_true (room : Int) (A : Option Addr) (cap : Nat) (l : List Stp) (w : World) (hA : 0 < l.length → ∃ b o, A = some ⟨b, o, none⟩ ∧ Sd w b o l) :
    Calls Try.prog 5 #[.int .i64 room, .slice A l.length cap] w fun r w' => r = .returned (.bool true) ∧ Below w.heap.size w w' := by
  by_cases hl : 200 < (l.length : Int)
  · exact plays_long room A cap l.length hl w
  · by_cases hr : room < 1 ∨ 16 < room
    · exact plays_out room hr A cap l.length (by omega) w
    · obtain ⟨n, rfl⟩ := Int.eq_ofNat_of_zero_le (show 0 ≤ room by omega)
      exact plays_in n (by omega) (by omega) A cap l (by omega) w hA
end Go.Proofs.Ytmiimmpiagmmlac
