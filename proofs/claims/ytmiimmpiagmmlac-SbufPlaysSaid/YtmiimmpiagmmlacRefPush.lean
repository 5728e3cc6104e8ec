/-
  The reference Push: what it returns and what the buffer holds then. Conditions stand in each statement.
-/
import Derived.Test.YtmiimmpiagmmlacRef
import Derived.Deep.RegionLaw
namespace Go.Proofs.Ytmiimmpiagmmlac
open Go.RowKit
set_option linter.unusedVariables false
set_option linter.unusedSimpArgs false
theorem below_alloc {a w : World} (h : Below a.heap.size a w) (o : Obj) : Below a.heap.size a (w.alloc o) := h.alloc h.size o
set_option maxHeartbeats 1000000 in
theorem refpush_bad (r : Nat) (e : Ent) (h : goodE e = false) (w : World) : Calls Try.prog 17 #[.pointer (some ⟨r, 0, none⟩), e.v] w fun x w' => x = .returned (.int .i64 11) ∧ Below w.heap.size w w' := by
  generalize hW : w.alloc (.cells #[.int .i64 e.kind, .int .i64 e.line, .int .i64 e.word, .int .u64 e.val, .bool e.sent] 50) = W0
  have hb0 : Below w.heap.size w W0 := by rw [← hW]; exact (Below.refl _ _).alloc (Nat.le_refl _) _
  subst hW
  have hle : w.heap.size ≤ (w.alloc (.cells #[.int .i64 e.kind, .int .i64 e.line, .int .i64 e.word, .int .u64 e.val, .bool e.sent] 50)).heap.size := hb0.size
  have hg := refgood_any e
  rw [h] at hg
  unfold Ent.v at hg ⊢
  go_enter Try.func17, Try.ntmps17
  go_wp2_with fail
  refine (hg _).mono ?_
  rintro x w1 ⟨rfl, hb1⟩
  go_wp2_with fail
  go_ret
  exact ⟨rfl, hb0.trans (hb1.mono hle)⟩
set_option maxHeartbeats 1000000 in
theorem refpush_full (r room : Nat) (L : List Ent) (e : Ent) (h : goodE e = true) (hl16 : L.length ≤ 16) (hfull : room ≤ L.length) (w : World) (hs : RQ w r room L) : Calls Try.prog 17 #[.pointer (some ⟨r, 0, none⟩), e.v] w fun x w' => x = .returned (.int .i64 13) ∧ Below w.heap.size w w' := by
  generalize hW : w.alloc (.cells #[.int .i64 e.kind, .int .i64 e.line, .int .i64 e.word, .int .u64 e.val, .bool e.sent] 50) = W0
  have hb0 : Below w.heap.size w W0 := by rw [← hW]; exact (Below.refl _ _).alloc (Nat.le_refl _) _
  have hs0 := hs.below hb0
  subst hW
  have hle : w.heap.size ≤ (w.alloc (.cells #[.int .i64 e.kind, .int .i64 e.line, .int .i64 e.word, .int .u64 e.val, .bool e.sent] 50)).heap.size := hb0.size
  have hg := refgood_any e
  rw [h] at hg
  unfold Ent.v at hg ⊢
  clear hs
  go_enter Try.func17, Try.ntmps17
  go_wp2_with fail
  refine (hg _).mono ?_
  rintro x w1 ⟨rfl, hb1⟩
  obtain ⟨v, c0, c1, hz, hown⟩ := hs0.below hb1
  obtain ⟨A, cap, rfl, _⟩ := src_of_own hown
  have hlr : (room : Int) ≤ (L.length : Int) := by omega
  clear hs0 hown
  go_wp2_with fail
  go_quiet (fail)
  go_wp2_with fail
  go_ret
  exact ⟨rfl, below_drewN (hb0.trans (hb1.mono hle)) _⟩
set_option maxHeartbeats 2000000 in
theorem refpush_ok (r room : Nat) (L : List Ent) (e : Ent) (h : goodE e = true) (hl16 : L.length ≤ 16) (hroom : L.length < room) (w : World) (hs : RQ w r room L) : Calls Try.prog 17 #[.pointer (some ⟨r, 0, none⟩), e.v] w fun x w' => x = .returned (.int .i64 0) ∧ RQ w' r room (L ++ [e]) ∧ w.grownBy w' (some r) := by
  generalize hW : w.alloc (.cells #[.int .i64 e.kind, .int .i64 e.line, .int .i64 e.word, .int .u64 e.val, .bool e.sent] 50) = W0
  have hb0 : Below w.heap.size w W0 := by rw [← hW]; exact (Below.refl _ _).alloc (Nat.le_refl _) _
  have hlt : w.heap.size < W0.heap.size := by rw [← hW]; simp
  have hcl : W0.heap[w.heap.size]? = some (.cells #[.int .i64 e.kind, .int .i64 e.line, .int .i64 e.word, .int .u64 e.val, .bool e.sent] 50) := by rw [← hW]; exact heap_alloc_new w _
  have hs0 := hs.below hb0
  have hrw := hs.lt
  subst hW
  have hg := refgood_any e
  rw [h] at hg
  unfold Ent.v at hg ⊢
  clear hs
  go_enter Try.func17, Try.ntmps17
  go_wp2_with fail
  refine (hg _).mono ?_
  rintro x w1 ⟨rfl, hb1⟩
  obtain ⟨v, c0, c1, hz, hown⟩ := hs0.below hb1
  obtain ⟨A, cap, rfl, hsrc⟩ := src_of_own hown
  obtain ⟨⟨b0, b1, b2, b3, b4⟩, _⟩ := cells5 ((hb1.block _ hlt).trans hcl)
  have hbw := hb0.trans (hb1.mono (Nat.le_of_lt hlt))
  have hlt1 := Nat.lt_of_lt_of_le hlt hb1.size
  have hlr : (L.length : Int) < (room : Int) := by omega
  clear hs0 hown hb1 hcl hlt hb0
  go_wp2_with fail
  go_quiet (fail)
  go_wp2_with fail
  have hbw2 := below_drewN hbw nq
  have hsrc2 : Src (w1.drewN nq) A L.length cap 5 (rowE L) := hsrc
  have hlt2 : w.heap.size < (w1.drewN nq).heap.size := hlt1
  have c0' : (w1.drewN nq).cell? ⟨r, 0, none⟩ = some (.int .i64 room) := c0
  have c1' : (w1.drewN nq).cell? ⟨r, 1, none⟩ = some (.slice A L.length cap) := c1
  have hz' : ∀ o, (w1.drewN nq).frozen? ⟨r, o, none⟩ = false := hz
  have b0' : (w1.drewN nq).cell? ⟨w.heap.size, 0, none⟩ = some (.int .i64 e.kind) := b0
  have b1' : (w1.drewN nq).cell? ⟨w.heap.size, 1, none⟩ = some (.int .i64 e.line) := b1
  have b2' : (w1.drewN nq).cell? ⟨w.heap.size, 2, none⟩ = some (.int .i64 e.word) := b2
  have b3' : (w1.drewN nq).cell? ⟨w.heap.size, 3, none⟩ = some (.int .u64 e.val) := b3
  have b4' : (w1.drewN nq).cell? ⟨w.heap.size, 4, none⟩ = some (.bool e.sent) := b4
  clear hbw hsrc hlt1 c0 c1 hz b0 b1 b2 b3 b4 hg
  generalize w1.drewN nq = w2 at *
  have hr2 : r < w2.heap.size := World.block_lt_of_cell? (w := w2) (a := ⟨r, 0, none⟩) c0'
  have hne : some w.heap.size ≠ some r := fun h => by have := Option.some.inj h; omega
  have hk : ∀ W, w2.grownBy W (some r) → W.cell? ⟨w.heap.size, 0, none⟩ = some (.int .i64 e.kind) ∧ W.cell? ⟨w.heap.size, 1, none⟩ = some (.int .i64 e.line) ∧ W.cell? ⟨w.heap.size, 2, none⟩ = some (.int .i64 e.word) ∧ W.cell? ⟨w.heap.size, 3, none⟩ = some (.int .u64 e.val) ∧ W.cell? ⟨w.heap.size, 4, none⟩ = some (.bool e.sent) ∧ w2.grownBy W (some r) := fun W hb =>
    ⟨(hb.cell_far ⟨w.heap.size, _, none⟩ hlt2 hne).trans b0', (hb.cell_far ⟨w.heap.size, _, none⟩ hlt2 hne).trans b1', (hb.cell_far ⟨w.heap.size, _, none⟩ hlt2 hne).trans b2', (hb.cell_far ⟨w.heap.size, _, none⟩ hlt2 hne).trans b3', (hb.cell_far ⟨w.heap.size, _, none⟩ hlt2 hne).trans b4', hb⟩
  have HK := Lib.hid hk
  clear hk
  obtain ⟨i0, hi0, hz0, hz1, hz2⟩ := info_parts info50
  have ha : Below w2.heap.size w2 (w2.alloc (.cells #[] 50)).drew ∧ (w2.alloc (.cells #[] 50)).drew.heap[w2.heap.size]? = some (.cells #[] 50) :=
    ⟨(below_alloc (Below.refl _ _) _).drew, heap_alloc_new w2 _⟩
  have hb : Below w2.heap.size w2 ((w2.alloc (.cells #[] 50)).alloc (.cells #[.int .i64 e.kind, .int .i64 e.line, .int .i64 e.word, .int .u64 e.val, .bool e.sent] 50)).drew ∧ ((w2.alloc (.cells #[] 50)).alloc (.cells #[.int .i64 e.kind, .int .i64 e.line, .int .i64 e.word, .int .u64 e.val, .bool e.sent] 50)).drew.heap[w2.heap.size]? = some (.cells #[] 50) ∧ ((w2.alloc (.cells #[] 50)).alloc (.cells #[.int .i64 e.kind, .int .i64 e.line, .int .i64 e.word, .int .u64 e.val, .bool e.sent] 50)).drew.heap[w2.heap.size + 1]? = some (.cells #[.int .i64 e.kind, .int .i64 e.line, .int .i64 e.word, .int .u64 e.val, .bool e.sent] 50) := by
    refine ⟨(below_alloc (below_alloc (Below.refl _ _) _) _).drew, (Below.heap_alloc _ _ _ (by simp)).trans (heap_alloc_new w2 _), ?_⟩
    have := heap_alloc_new (w2.alloc (.cells #[] 50)) (.cells #[.int .i64 e.kind, .int .i64 e.line, .int .i64 e.word, .int .u64 e.val, .bool e.sent] 50)
    rw [show (w2.alloc (.cells #[] 50)).heap.size = w2.heap.size + 1 by simp] at this
    exact this
  have hc : Below w2.heap.size w2 ((w2.alloc (.cells #[.int .i64 e.kind, .int .i64 e.line, .int .i64 e.word, .int .u64 e.val, .bool e.sent] 50)).alloc (.cells #[] 50)).drew ∧ ((w2.alloc (.cells #[.int .i64 e.kind, .int .i64 e.line, .int .i64 e.word, .int .u64 e.val, .bool e.sent] 50)).alloc (.cells #[] 50)).drew.heap[w2.heap.size]? = some (.cells #[.int .i64 e.kind, .int .i64 e.line, .int .i64 e.word, .int .u64 e.val, .bool e.sent] 50) ∧ ((w2.alloc (.cells #[.int .i64 e.kind, .int .i64 e.line, .int .i64 e.word, .int .u64 e.val, .bool e.sent] 50)).alloc (.cells #[] 50)).drew.heap[w2.heap.size + 1]? = some (.cells #[] 50) := by
    refine ⟨(below_alloc (below_alloc (Below.refl _ _) _) _).drew, (Below.heap_alloc _ _ _ (by simp)).trans (heap_alloc_new w2 _), ?_⟩
    have := heap_alloc_new (w2.alloc (.cells #[.int .i64 e.kind, .int .i64 e.line, .int .i64 e.word, .int .u64 e.val, .bool e.sent] 50)) (.cells #[] 50)
    rw [show (w2.alloc (.cells #[.int .i64 e.kind, .int .i64 e.line, .int .i64 e.word, .int .u64 e.val, .bool e.sent] 50)).heap.size = w2.heap.size + 1 by simp] at this
    exact this
  have h1c := rowE_one_cell L
  have h1e : ∀ u ∈ [Value.int .i64 e.kind, .int .i64 e.line, .int .i64 e.word, .int .u64 e.val, .bool e.sent], u.oneCell' = true := by simp [Value.oneCell']
  have HF := Lib.hid (And.intro ha (And.intro hb (And.intro hc (And.intro h1c h1e))))
  have HS := Lib.hid hsrc2
  clear ha hb hc h1c h1e hsrc2
  go_region_law
    (first
      | (refine step_append_src (by rfl) (.tmp 19) (.tmp 23) 52 (by rfl) w2.heap.size 50 i0 (.agg #[.int .i64 0, .int .i64 0, .int .i64 0, .int .u64 0, .bool false]) 5 40 Try.underlying52 hi0 hz0 hz1 hz2 (by rfl) (by decide) (.slice (some ⟨w2.heap.size, 0, none⟩) 0 0) 0 [] (by rfl) (own_fresh HF.out.1.2 (by omega)) A L.length cap (rowE L) (by rfl) (HS.out.below HF.out.1.1) HF.out.2.2.2.1 (by unfold maxLen; omega) (by omega) HF.out.1.1.size ?_; intro v3 w3 hown3 hgr3; have hb3 : Below w2.heap.size w2 w3 := HF.out.1.1.grown hgr3 HF.out.1.1.size (fun k hk => by simp [Value.ownBlock] at hk; omega); have ho3 := only_of_below hb3 (some r); obtain ⟨y0, y1, y2, y3, y4, _⟩ := HK.out _ ho3)
      | (refine step_append_src (by rfl) (.tmp 19) (.tmp 23) 52 (by rfl) w2.heap.size 50 i0 (.agg #[.int .i64 0, .int .i64 0, .int .i64 0, .int .u64 0, .bool false]) 5 40 Try.underlying52 hi0 hz0 hz1 hz2 (by rfl) (by decide) (.slice (some ⟨w2.heap.size, 0, none⟩) 0 0) 0 [] (by rfl) (own_fresh HF.out.2.1.2.1 (by omega)) A L.length cap (rowE L) (by rfl) (HS.out.below HF.out.2.1.1) HF.out.2.2.2.1 (by unfold maxLen; omega) (by omega) HF.out.2.1.1.size ?_; intro v3 w3 hown3 hgr3; have hb3 : Below w2.heap.size w2 w3 := HF.out.2.1.1.grown hgr3 HF.out.2.1.1.size (fun k hk => by simp [Value.ownBlock] at hk; omega); have ho3 := only_of_below hb3 (some r); obtain ⟨y0, y1, y2, y3, y4, _⟩ := HK.out _ ho3)
      | (refine step_append_src (by rfl) (.tmp 19) (.tmp 23) 52 (by rfl) w2.heap.size 50 i0 (.agg #[.int .i64 0, .int .i64 0, .int .i64 0, .int .u64 0, .bool false]) 5 40 Try.underlying52 hi0 hz0 hz1 hz2 (by rfl) (by decide) (.slice (some ⟨(w2.heap.size + 1), 0, none⟩) 0 0) 0 [] (by rfl) (own_fresh HF.out.2.2.1.2.2 (by omega)) A L.length cap (rowE L) (by rfl) (HS.out.below HF.out.2.2.1.1) HF.out.2.2.2.1 (by unfold maxLen; omega) (by omega) HF.out.2.2.1.1.size ?_; intro v3 w3 hown3 hgr3; have hb3 : Below w2.heap.size w2 w3 := HF.out.2.2.1.1.grown hgr3 HF.out.2.2.1.1.size (fun k hk => by simp [Value.ownBlock] at hk; omega); have ho3 := only_of_below hb3 (some r); obtain ⟨y0, y1, y2, y3, y4, _⟩ := HK.out _ ho3)
      | (refine step_append_src (by rfl) (.tmp 24) (.tmp 26) 52 (by rfl) w2.heap.size 50 i0 (.agg #[.int .i64 0, .int .i64 0, .int .i64 0, .int .u64 0, .bool false]) 5 40 Try.underlying52 hi0 hz0 hz1 hz2 (by rfl) (by decide) v3 (0 + L.length) ([] ++ rowE L) (by rfl) (own_keep hown3 (below_alloc (Below.refl _ _) _)) (some ⟨w3.heap.size, 0, none⟩) 1 1 [.int .i64 e.kind, .int .i64 e.line, .int .i64 e.word, .int .u64 e.val, .bool e.sent] (by rfl) (.inr ⟨_, rfl, rfl, World.news_of_block (heap_alloc_new w3 _)⟩) HF.out.2.2.2.2 (by unfold maxLen; omega) (by omega) (below_alloc hb3 _).size ?_; intro v4 w4 hown4 hgr4; obtain ⟨g4, cap4, rfl, hg4, hg4'⟩ := hown4.form (by omega); have hb4 : Below w2.heap.size w2 w4 := Below.grown (below_alloc hb3 _) hgr4 (below_alloc hb3 _).size (own_ge hown3); have ho4 := only_of_below hb4 (some r); have hc4 := (hb4.cell (p := ⟨r, 1, none⟩) hr2).trans c1'; have hz4 := (hb4.frozen (p := ⟨r, 1, none⟩) hr2).trans (hz' 1))
      | (refine step_append_src (by rfl) (.tmp 24) (.tmp 26) 52 (by rfl) w2.heap.size 50 i0 (.agg #[.int .i64 0, .int .i64 0, .int .i64 0, .int .u64 0, .bool false]) 5 40 Try.underlying52 hi0 hz0 hz1 hz2 (by rfl) (by decide) v3 (0 + L.length) ([] ++ rowE L) (by rfl) hown3 (some ⟨(w2.heap.size + 1), 0, none⟩) 1 1 [.int .i64 e.kind, .int .i64 e.line, .int .i64 e.word, .int .u64 e.val, .bool e.sent] (by rfl) (.inr ⟨_, rfl, rfl, World.news_of_block ((hgr3.block (w2.heap.size + 1) (by simp) (fun h => by have := Option.some.inj h; simp [Value.ownBlock] at this)).trans HF.out.2.1.2.2)⟩) HF.out.2.2.2.2 (by unfold maxLen; omega) (by omega) hb3.size ?_; intro v4 w4 hown4 hgr4; obtain ⟨g4, cap4, rfl, hg4, hg4'⟩ := hown4.form (by omega); have hb4 : Below w2.heap.size w2 w4 := Below.grown hb3 hgr4 hb3.size (own_ge hown3); have ho4 := only_of_below hb4 (some r); have hc4 := (hb4.cell (p := ⟨r, 1, none⟩) hr2).trans c1'; have hz4 := (hb4.frozen (p := ⟨r, 1, none⟩) hr2).trans (hz' 1))
      | (refine step_append_src (by rfl) (.tmp 24) (.tmp 26) 52 (by rfl) w2.heap.size 50 i0 (.agg #[.int .i64 0, .int .i64 0, .int .i64 0, .int .u64 0, .bool false]) 5 40 Try.underlying52 hi0 hz0 hz1 hz2 (by rfl) (by decide) v3 (0 + L.length) ([] ++ rowE L) (by rfl) hown3 (some ⟨w2.heap.size, 0, none⟩) 1 1 [.int .i64 e.kind, .int .i64 e.line, .int .i64 e.word, .int .u64 e.val, .bool e.sent] (by rfl) (.inr ⟨_, rfl, rfl, World.news_of_block ((hgr3.block w2.heap.size (by first | (simp; done) | (simp; omega)) (fun h => by have := Option.some.inj h; simp [Value.ownBlock] at this)).trans HF.out.2.2.1.2.1)⟩) HF.out.2.2.2.2 (by unfold maxLen; omega) (by omega) hb3.size ?_; intro v4 w4 hown4 hgr4; obtain ⟨g4, cap4, rfl, hg4, hg4'⟩ := hown4.form (by omega); have hb4 : Below w2.heap.size w2 w4 := Below.grown hb3 hgr4 hb3.size (own_ge hown3); have ho4 := only_of_below hb4 (some r); have hc4 := (hb4.cell (p := ⟨r, 1, none⟩) hr2).trans c1'; have hz4 := (hb4.frozen (p := ⟨r, 1, none⟩) hr2).trans (hz' 1)))
  all_goals
    have hRQ : RQ (w4.setCell ⟨r, 1, none⟩ (.slice (some ⟨g4, 0, none⟩) (L.length + 1) cap4)) r room (L ++ [e]) := by
      refine ⟨_, ?_, World.cell?_setCell_same w4 _ _ hc4, fun o => ?_, ?_⟩
      · rw [World.cell?_setCell_other _ _ _ _ (by simp)]; exact (hb4.cell (p := ⟨r, 0, none⟩) hr2).trans c0'
      · rw [World.frozen?_setCell]; exact (hb4.frozen (p := ⟨r, o, none⟩) hr2).trans (hz' o)
      · rw [List.length_append, rowE_append]
        have hx := World.ownsRow.mono (base' := r + 1) hown4 (by omega)
        have hy := ownsRow_setCell_below hx (a := ⟨r, 1, none⟩) (by simp) (.slice (some ⟨g4, 0, none⟩) (L.length + 1) cap4)
        simpa [rowE_one] using hy
    have hO : w.grownBy (w4.setCell ⟨r, 1, none⟩ (.slice (some ⟨g4, 0, none⟩) (L.length + 1) cap4)) (some r) := only_setCell (only_trans (only_of_below hbw2 (some r)) ho4) rfl _
    clear hgr3 hgr4 hown3 hown4 hb3 hb4 ho3 ho4 hc4 hz4 hne HK HF HS hz' c0' c1' b0' b1' b2' b3' b4'
    generalize w4.setCell ⟨r, 1, none⟩ (.slice (some ⟨g4, 0, none⟩) (L.length + 1) cap4) = w5 at *
    go_wp2_with fail
    go_ret
    exact ⟨rfl, hRQ, hO⟩
theorem refpush_any (r room : Nat) (L : List Ent) (e : Ent) (hl16 : L.length ≤ 16) (w : World) (hs : RQ w r room L) : Calls Try.prog 17 #[.pointer (some ⟨r, 0, none⟩), e.v] w fun x w' =>
    x = .returned (.int .i64 (if goodE e = false then 11 else if room ≤ L.length then 13 else 0)) ∧ RQ w' r room (if goodE e = true ∧ L.length < room then L ++ [e] else L) ∧ w.grownBy w' (some r) := by
  by_cases h : goodE e = true
  · by_cases hr : room ≤ L.length
    · refine (refpush_full r room L e h hl16 hr w hs).mono ?_
      rintro x w1 ⟨rfl, hb⟩
      rw [if_neg (by simp [h]), if_pos hr, if_neg (by omega)]
      exact ⟨rfl, hs.below hb, only_of_below hb _⟩
    · refine (refpush_ok r room L e h hl16 (by omega) w hs).mono ?_
      rintro x w1 ⟨rfl, h1, h2⟩
      rw [if_neg (by simp [h]), if_neg hr, if_pos ⟨h, by omega⟩]
      exact ⟨rfl, h1, h2⟩
  · have h' : goodE e = false := by simpa using h
    refine (refpush_bad r e h' w).mono ?_
    rintro x w1 ⟨rfl, hb⟩
    rw [if_pos h', if_neg (by simp [h'])]
    exact ⟨rfl, hs.below hb, only_of_below hb _⟩
end Go.Proofs.Ytmiimmpiagmmlac
