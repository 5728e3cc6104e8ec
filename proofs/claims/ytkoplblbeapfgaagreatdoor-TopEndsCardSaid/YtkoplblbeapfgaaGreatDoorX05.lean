/-
Parts of the walk of TopEnds. Conditions stand in each statement.
-/
import Derived.Lib.SliceRun
import Derived.Test.YtkoplblbeapfgaaGreatDoorX03
namespace Go.Proofs.YtkoplblbeapfgaaGreatDoor
open Go.RowKit
open Tryz
set_option linter.all false
set_option maxRecDepth 100000
set_option maxHeartbeats 8000000
def Dx (w : World) (d mb : Nat) (r s : Int) (x0 x1 x2 x3 x4 : Ln) : Prop :=
 w.heap[d]? = some (.cells #[.slice (some mb) 5 5, I 1, I r, I s] 292) ∧ w.heap[mb]? = some (.cells #[U x0.a, U x0.b, U x0.c, U x0.d, U x0.e, U x0.f, U x0.g, U x0.h, U x1.a, U x1.b, U x1.c, U x1.d, U x1.e, U x1.f, U x1.g, U x1.h, U x2.a, U x2.b, U x2.c, U x2.d, U x2.e, U x2.f, U x2.g, U x2.h, U x3.a, U x3.b, U x3.c, U x3.d, U x3.e, U x3.f, U x3.g, U x3.h, U x4.a, U x4.b, U x4.c, U x4.d, U x4.e, U x4.f, U x4.g, U x4.h] 109)
theorem Dx.to {w : World} {d mb : Nat} {r s : Int} {x0 x1 x2 x3 x4 : Ln} (h : Dx w d mb r s x0 x1 x2 x3 x4) : Bh w d mb r s [x0, x1, x2, x3, x4] := ⟨h.1, h.2, rfl⟩
theorem Bh.five {w : World} {d mb : Nat} {r s : Int} {L : List Ln} (h : Bh w d mb r s L) : ∃ x0 x1 x2 x3 x4, L = [x0, x1, x2, x3, x4] ∧ Dx w d mb r s x0 x1 x2 x3 x4 := by
 obtain ⟨h1, h2, h3⟩ := h
 match L, h3 with
 | [x0, x1, x2, x3, x4], _ => exact ⟨x0, x1, x2, x3, x4, rfl, h1, h2⟩
theorem nreadX :
  (∀ (d mb : Nat) (r s : Int) (x0 x1 x2 x3 x4 : Ln) (w : World) (h : Dx w d mb r s x0 x1 x2 x3 x4), Y 376 #[d, I 0] w fun e w' => e = Z (.tuple #[.agg x0, I 0]) ∧ (∃ r', Bh w' d mb r' s [x0, x1, x2, x3, x4]) ∧ Pres (fun k => k ≠ d) w w') ∧
  (∀ (d mb : Nat) (r s : Int) (x0 x1 x2 x3 x4 : Ln) (w : World) (h : Dx w d mb r s x0 x1 x2 x3 x4), Y 376 #[d, I 1] w fun e w' => e = Z (.tuple #[.agg x1, I 0]) ∧ (∃ r', Bh w' d mb r' s [x0, x1, x2, x3, x4]) ∧ Pres (fun k => k ≠ d) w w') ∧
  (∀ (d mb : Nat) (r s : Int) (x0 x1 x2 x3 x4 : Ln) (w : World) (h : Dx w d mb r s x0 x1 x2 x3 x4), Y 376 #[d, I 2] w fun e w' => e = Z (.tuple #[.agg x2, I 0]) ∧ (∃ r', Bh w' d mb r' s [x0, x1, x2, x3, x4]) ∧ Pres (fun k => k ≠ d) w w') ∧
  (∀ (d mb : Nat) (r s : Int) (x0 x1 x2 x3 x4 : Ln) (w : World) (h : Dx w d mb r s x0 x1 x2 x3 x4), Y 376 #[d, I 3] w fun e w' => e = Z (.tuple #[.agg x3, I 0]) ∧ (∃ r', Bh w' d mb r' s [x0, x1, x2, x3, x4]) ∧ Pres (fun k => k ≠ d) w w') ∧
  (∀ (d mb : Nat) (r s : Int) (x0 x1 x2 x3 x4 : Ln) (w : World) (h : Dx w d mb r s x0 x1 x2 x3 x4), Y 376 #[d, I 4] w fun e w' => e = Z (.tuple #[.agg x4, I 0]) ∧ (∃ r', Bh w' d mb r' s [x0, x1, x2, x3, x4]) ∧ Pres (fun k => k ≠ d) w w') := by
 refine ⟨?m0, ?m1, ?m2, ?m3, ?m4⟩
 case' m0 =>
  intro d mb r s x0 x1 x2 x3 x4 w h
  have mk_0 := trivial
 case' m1 =>
  intro d mb r s x0 x1 x2 x3 x4 w h
  have mk_1 := trivial
 case' m2 =>
  intro d mb r s x0 x1 x2 x3 x4 w h
  have mk_2 := trivial
 case' m3 =>
  intro d mb r s x0 x1 x2 x3 x4 w h
  have mk_3 := trivial
 case' m4 =>
  intro d mb r s x0 x1 x2 x3 x4 w h
  have mk_4 := trivial
 all_goals
  obtain ⟨W1, hE, hb1, hI1⟩ := alloc_new w (.cells KD 109)
  have hd1 := AB hb1 h.1
  have hm1 := AB hb1 h.2
  have hlt := AF h.1
  have hltm := AF h.2
  have hne : d ≠ mb := AG h.1 h.2 (by decide)
  first
   | guard_hyp mk_1
     have hmay := CJ d mb r s 1 [x0, x1, x2, x3, x4] (by decide) (by decide) W1 ⟨hd1, hm1, rfl⟩
   | guard_hyp mk_2
     have hmay := CJ d mb r s 2 [x0, x1, x2, x3, x4] (by decide) (by decide) W1 ⟨hd1, hm1, rfl⟩
   | guard_hyp mk_3
     have hmay := CJ d mb r s 3 [x0, x1, x2, x3, x4] (by decide) (by decide) W1 ⟨hd1, hm1, rfl⟩
   | guard_hyp mk_4
     have hmay := CJ d mb r s 4 [x0, x1, x2, x3, x4] (by decide) (by decide) W1 ⟨hd1, hm1, rfl⟩
   | have hmay := CJ d mb r s 0 [x0, x1, x2, x3, x4] (by decide) (by decide) W1 ⟨hd1, hm1, rfl⟩
  obtain ⟨r', hr'⟩ : ∃ r', IntKind.i64.wrap (r + 1) = r' := ⟨_, rfl⟩
  have hcnt := Dh ⟨d, 2, none⟩ r 1 r' hr' W1 (AD hd1 2 rfl) (Aq hd1 2)
  have hd2 := AI hd1 2 (I r')
  have hm2 := (Vz W1 ⟨d, 2, none⟩ (I r') mb (Ne.symm hne)).trans hm1
  have hI2 := (Vz W1 ⟨d, 2, none⟩ (I r') w.heap.size (Nat.ne_of_gt hlt)).trans hI1
  have HP := Vw ((Pres.of_below (Av := fun k => k ≠ d) hb1).setCell (p := ⟨d, 2, none⟩) (by simp) (I r'))
  clear h hb1 hr'
  go_enter func376, ntmps376
  go_wp2_with fail
  refine hmay.mono ?_
  rintro e w1 ⟨rfl, rfl⟩
  have c := AA hd1
  go_wp2_with fail
  refine hcnt.mono ?_
  rintro e w1 ⟨rfl, rfl⟩
  clear c hE hmay hcnt hd1 hm1 hI1
  generalize W1.setCell ⟨d, 2, none⟩ (I r') = W2 at *
  have c := AA hd2
  have cm := AA hm2
  have c1 := AA hI2
  have f1 := AJ hI2
  have HD := Vw (WA hd2 (WA hm2 hI2))
  have hlt2 := AF hI2
  clear hd2 hm2 hI2
  go_wp2_with fail
  generalize hW : World.setCell _ ⟨w, 7, none⟩ _ = W5
  first
   | guard_hyp mk_1
     have hx : W5.heap[w.heap.size]? = some (.cells x1 109) := by rw [← hW]; exact AT [U x1.a, U x1.b, U x1.c, U x1.d, U x1.e, U x1.f, U x1.g, U x1.h] HD.out.2.2 0 _ (by kernel_rfl)
     have ho : ∀ k, k ≠ w.heap.size → W5.heap[k]? = W2.heap[k]? := fun k hk => by rw [← hW]; exact AR hk [U x1.a, U x1.b, U x1.c, U x1.d, U x1.e, U x1.f, U x1.g, U x1.h] _ 0
   | guard_hyp mk_2
     have hx : W5.heap[w.heap.size]? = some (.cells x2 109) := by rw [← hW]; exact AT [U x2.a, U x2.b, U x2.c, U x2.d, U x2.e, U x2.f, U x2.g, U x2.h] HD.out.2.2 0 _ (by kernel_rfl)
     have ho : ∀ k, k ≠ w.heap.size → W5.heap[k]? = W2.heap[k]? := fun k hk => by rw [← hW]; exact AR hk [U x2.a, U x2.b, U x2.c, U x2.d, U x2.e, U x2.f, U x2.g, U x2.h] _ 0
   | guard_hyp mk_3
     have hx : W5.heap[w.heap.size]? = some (.cells x3 109) := by rw [← hW]; exact AT [U x3.a, U x3.b, U x3.c, U x3.d, U x3.e, U x3.f, U x3.g, U x3.h] HD.out.2.2 0 _ (by kernel_rfl)
     have ho : ∀ k, k ≠ w.heap.size → W5.heap[k]? = W2.heap[k]? := fun k hk => by rw [← hW]; exact AR hk [U x3.a, U x3.b, U x3.c, U x3.d, U x3.e, U x3.f, U x3.g, U x3.h] _ 0
   | guard_hyp mk_4
     have hx : W5.heap[w.heap.size]? = some (.cells x4 109) := by rw [← hW]; exact AT [U x4.a, U x4.b, U x4.c, U x4.d, U x4.e, U x4.f, U x4.g, U x4.h] HD.out.2.2 0 _ (by kernel_rfl)
     have ho : ∀ k, k ≠ w.heap.size → W5.heap[k]? = W2.heap[k]? := fun k hk => by rw [← hW]; exact AR hk [U x4.a, U x4.b, U x4.c, U x4.d, U x4.e, U x4.f, U x4.g, U x4.h] _ 0
   | have hx : W5.heap[w.heap.size]? = some (.cells x0 109) := by rw [← hW]; exact AT [U x0.a, U x0.b, U x0.c, U x0.d, U x0.e, U x0.f, U x0.g, U x0.h] HD.out.2.2 0 _ (by kernel_rfl)
     have ho : ∀ k, k ≠ w.heap.size → W5.heap[k]? = W2.heap[k]? := fun k hk => by rw [← hW]; exact AR hk [U x0.a, U x0.b, U x0.c, U x0.d, U x0.e, U x0.f, U x0.g, U x0.h] _ 0
  have hp : Pres (fun k => k ≠ d) w W5 := by
   first
    | guard_hyp mk_1
      have := Pres.setCells (Av := fun k => k ≠ d ∧ k ≠ w.heap.size) (g := w.heap.size) (by simp) [U x1.a, U x1.b, U x1.c, U x1.d, U x1.e, U x1.f, U x1.g, U x1.h] (HP.out.mono (fun k _ hk => hk.1)) 0
    | guard_hyp mk_2
      have := Pres.setCells (Av := fun k => k ≠ d ∧ k ≠ w.heap.size) (g := w.heap.size) (by simp) [U x2.a, U x2.b, U x2.c, U x2.d, U x2.e, U x2.f, U x2.g, U x2.h] (HP.out.mono (fun k _ hk => hk.1)) 0
    | guard_hyp mk_3
      have := Pres.setCells (Av := fun k => k ≠ d ∧ k ≠ w.heap.size) (g := w.heap.size) (by simp) [U x3.a, U x3.b, U x3.c, U x3.d, U x3.e, U x3.f, U x3.g, U x3.h] (HP.out.mono (fun k _ hk => hk.1)) 0
    | guard_hyp mk_4
      have := Pres.setCells (Av := fun k => k ≠ d ∧ k ≠ w.heap.size) (g := w.heap.size) (by simp) [U x4.a, U x4.b, U x4.c, U x4.d, U x4.e, U x4.f, U x4.g, U x4.h] (HP.out.mono (fun k _ hk => hk.1)) 0
    | have := Pres.setCells (Av := fun k => k ≠ d ∧ k ≠ w.heap.size) (g := w.heap.size) (by simp) [U x0.a, U x0.b, U x0.c, U x0.d, U x0.e, U x0.f, U x0.g, U x0.h] (HP.out.mono (fun k _ hk => hk.1)) 0
   rw [← hW]
   exact ⟨this.os, this.tape, this.output, this.size, fun k hk ha => this.block k hk ⟨ha, Nat.ne_of_lt hk⟩⟩
  clear hW c c1 cm f1
  have c5 := AA hx
  first
   | guard_hyp mk_1
     refine bodyPost_ret (v := .tuple #[.agg x1, I 0]) (by simp [results, results376, go_sem, c5]) rfl ⟨rfl, ⟨r', (ho d (by omega)).trans HD.out.1, (ho mb (by omega)).trans HD.out.2.1, rfl⟩, hp⟩
   | guard_hyp mk_2
     refine bodyPost_ret (v := .tuple #[.agg x2, I 0]) (by simp [results, results376, go_sem, c5]) rfl ⟨rfl, ⟨r', (ho d (by omega)).trans HD.out.1, (ho mb (by omega)).trans HD.out.2.1, rfl⟩, hp⟩
   | guard_hyp mk_3
     refine bodyPost_ret (v := .tuple #[.agg x3, I 0]) (by simp [results, results376, go_sem, c5]) rfl ⟨rfl, ⟨r', (ho d (by omega)).trans HD.out.1, (ho mb (by omega)).trans HD.out.2.1, rfl⟩, hp⟩
   | guard_hyp mk_4
     refine bodyPost_ret (v := .tuple #[.agg x4, I 0]) (by simp [results, results376, go_sem, c5]) rfl ⟨rfl, ⟨r', (ho d (by omega)).trans HD.out.1, (ho mb (by omega)).trans HD.out.2.1, rfl⟩, hp⟩
   | refine bodyPost_ret (v := .tuple #[.agg x0, I 0]) (by simp [results, results376, go_sem, c5]) rfl ⟨rfl, ⟨r', (ho d (by omega)).trans HD.out.1, (ho mb (by omega)).trans HD.out.2.1, rfl⟩, hp⟩
theorem If (d mb : Nat) (r s k : Int) (h0 : 0 ≤ k) (h1 : k < 5) (L : List Ln) (w : World) (h : Bh w d mb r s L) : Y 376 #[d, I k] w fun e w' => e = Z (.tuple #[.agg (BO Ln.zero L k.toNat).cells.toArray, I 0]) ∧ (∃ r', Bh w' d mb r' s L) ∧ Pres (fun k => k ≠ d) w w' := by
 obtain ⟨x0, x1, x2, x3, x4, rfl, h5⟩ := h.five
 have hk : k = 0 ∨ k = 1 ∨ k = 2 ∨ k = 3 ∨ k = 4 := by omega
 rcases hk with rfl | rfl | rfl | rfl | rfl
 · exact nreadX.1 d mb r s x0 x1 x2 x3 x4 w h5
 · exact nreadX.2.1 d mb r s x0 x1 x2 x3 x4 w h5
 · exact nreadX.2.2.1 d mb r s x0 x1 x2 x3 x4 w h5
 · exact nreadX.2.2.2.1 d mb r s x0 x1 x2 x3 x4 w h5
 · exact nreadX.2.2.2.2 d mb r s x0 x1 x2 x3 x4 w h5
theorem nwriteX :
  (∀ (d mb : Nat) (r s : Int) (x0 x1 x2 x3 x4 l : Ln) (w : World) (h : Dx w d mb r s x0 x1 x2 x3 x4), Y 342 #[d, I 0, .agg l] w fun e w' => e = Z (I 0) ∧ (∃ s', Bh w' d mb r s' [l, x1, x2, x3, x4]) ∧ Pres (fun k => k ≠ d ∧ k ≠ mb) w w') ∧
  (∀ (d mb : Nat) (r s : Int) (x0 x1 x2 x3 x4 l : Ln) (w : World) (h : Dx w d mb r s x0 x1 x2 x3 x4), Y 342 #[d, I 1, .agg l] w fun e w' => e = Z (I 0) ∧ (∃ s', Bh w' d mb r s' [x0, l, x2, x3, x4]) ∧ Pres (fun k => k ≠ d ∧ k ≠ mb) w w') ∧
  (∀ (d mb : Nat) (r s : Int) (x0 x1 x2 x3 x4 l : Ln) (w : World) (h : Dx w d mb r s x0 x1 x2 x3 x4), Y 342 #[d, I 2, .agg l] w fun e w' => e = Z (I 0) ∧ (∃ s', Bh w' d mb r s' [x0, x1, l, x3, x4]) ∧ Pres (fun k => k ≠ d ∧ k ≠ mb) w w') ∧
  (∀ (d mb : Nat) (r s : Int) (x0 x1 x2 x3 x4 l : Ln) (w : World) (h : Dx w d mb r s x0 x1 x2 x3 x4), Y 342 #[d, I 3, .agg l] w fun e w' => e = Z (I 0) ∧ (∃ s', Bh w' d mb r s' [x0, x1, x2, l, x4]) ∧ Pres (fun k => k ≠ d ∧ k ≠ mb) w w') ∧
  (∀ (d mb : Nat) (r s : Int) (x0 x1 x2 x3 x4 l : Ln) (w : World) (h : Dx w d mb r s x0 x1 x2 x3 x4), Y 342 #[d, I 4, .agg l] w fun e w' => e = Z (I 0) ∧ (∃ s', Bh w' d mb r s' [x0, x1, x2, x3, l]) ∧ Pres (fun k => k ≠ d ∧ k ≠ mb) w w') := by
 refine ⟨?m0, ?m1, ?m2, ?m3, ?m4⟩
 case' m0 =>
  intro d mb r s x0 x1 x2 x3 x4 l w h
  have mk_0 := trivial
 case' m1 =>
  intro d mb r s x0 x1 x2 x3 x4 l w h
  have mk_1 := trivial
 case' m2 =>
  intro d mb r s x0 x1 x2 x3 x4 l w h
  have mk_2 := trivial
 case' m3 =>
  intro d mb r s x0 x1 x2 x3 x4 l w h
  have mk_3 := trivial
 case' m4 =>
  intro d mb r s x0 x1 x2 x3 x4 l w h
  have mk_4 := trivial
 all_goals
  obtain ⟨W1, hE, hb1, hI1⟩ := alloc_new w (.cells l 109)
  have hd1 := AB hb1 h.1
  have hm1 := AB hb1 h.2
  have hlt := AF h.1
  have hltm := AF h.2
  have hne : d ≠ mb := AG h.1 h.2 (by decide)
  first
   | guard_hyp mk_1
     have hmay := CJ d mb r s 1 [x0, x1, x2, x3, x4] (by decide) (by decide) W1 ⟨hd1, hm1, rfl⟩
   | guard_hyp mk_2
     have hmay := CJ d mb r s 2 [x0, x1, x2, x3, x4] (by decide) (by decide) W1 ⟨hd1, hm1, rfl⟩
   | guard_hyp mk_3
     have hmay := CJ d mb r s 3 [x0, x1, x2, x3, x4] (by decide) (by decide) W1 ⟨hd1, hm1, rfl⟩
   | guard_hyp mk_4
     have hmay := CJ d mb r s 4 [x0, x1, x2, x3, x4] (by decide) (by decide) W1 ⟨hd1, hm1, rfl⟩
   | have hmay := CJ d mb r s 0 [x0, x1, x2, x3, x4] (by decide) (by decide) W1 ⟨hd1, hm1, rfl⟩
  obtain ⟨s', hs'⟩ : ∃ s', IntKind.i64.wrap (s + 1) = s' := ⟨_, rfl⟩
  have hcnt := Dh ⟨d, 3, none⟩ s 1 s' hs' W1 (AD hd1 3 rfl) (Aq hd1 3)
  have hd2 := AI hd1 3 (I s')
  have hm2 := (Vz W1 ⟨d, 3, none⟩ (I s') mb (Ne.symm hne)).trans hm1
  have hI2 := (Vz W1 ⟨d, 3, none⟩ (I s') w.heap.size (Nat.ne_of_gt hlt)).trans hI1
  have HP := Vw ((Pres.of_below (Av := fun k => k ≠ d ∧ k ≠ mb) hb1).setCell (p := ⟨d, 3, none⟩) (by simp) (I s'))
  clear h hb1 hs'
  go_enter func342, ntmps342
  go_wp2_with fail
  refine hmay.mono ?_
  rintro e w1 ⟨rfl, rfl⟩
  have c := AA hd1
  go_wp2_with fail
  refine hcnt.mono ?_
  rintro e w1 ⟨rfl, rfl⟩
  clear c hE hmay hcnt hd1 hm1 hI1
  generalize W1.setCell ⟨d, 3, none⟩ (I s') = W2 at *
  have c := AA hd2
  have cm := AA hm2
  have fm := AJ hm2
  have c1 := AA hI2
  have HD := Vw (WA hd2 (WA hm2 hI2))
  clear hd2 hm2 hI2
  go_wp2_with fail
  go_region
  all_goals
   go_wp2_with fail
   go_ret
   first
    | guard_hyp mk_1
      generalize hW : World.setCell _ ⟨mb, 15, none⟩ _ = W9
      have hx : W9.heap[mb]? = some (.cells ([x0, l, x2, x3, x4].flatMap Ln.cells).toArray 109) := by rw [← hW]; exact AT [U l.a, U l.b, U l.c, U l.d, U l.e, U l.f, U l.g, U l.h] HD.out.2.1 8 _ (by kernel_rfl)
      have hy : W9.heap[d]? = some (.cells #[.slice (some mb) 5 5, I 1, I r, I s'] 292) := by rw [← hW]; exact (AR hne [U l.a, U l.b, U l.c, U l.d, U l.e, U l.f, U l.g, U l.h] W2 8).trans HD.out.1
      have hz : Pres (fun k => k ≠ d ∧ k ≠ mb) w W9 := by rw [← hW]; exact Pres.setCells (g := mb) (by simp) [U l.a, U l.b, U l.c, U l.d, U l.e, U l.f, U l.g, U l.h] HP.out 8
    | guard_hyp mk_2
      generalize hW : World.setCell _ ⟨mb, 23, none⟩ _ = W9
      have hx : W9.heap[mb]? = some (.cells ([x0, x1, l, x3, x4].flatMap Ln.cells).toArray 109) := by rw [← hW]; exact AT [U l.a, U l.b, U l.c, U l.d, U l.e, U l.f, U l.g, U l.h] HD.out.2.1 16 _ (by kernel_rfl)
      have hy : W9.heap[d]? = some (.cells #[.slice (some mb) 5 5, I 1, I r, I s'] 292) := by rw [← hW]; exact (AR hne [U l.a, U l.b, U l.c, U l.d, U l.e, U l.f, U l.g, U l.h] W2 16).trans HD.out.1
      have hz : Pres (fun k => k ≠ d ∧ k ≠ mb) w W9 := by rw [← hW]; exact Pres.setCells (g := mb) (by simp) [U l.a, U l.b, U l.c, U l.d, U l.e, U l.f, U l.g, U l.h] HP.out 16
    | guard_hyp mk_3
      generalize hW : World.setCell _ ⟨mb, 31, none⟩ _ = W9
      have hx : W9.heap[mb]? = some (.cells ([x0, x1, x2, l, x4].flatMap Ln.cells).toArray 109) := by rw [← hW]; exact AT [U l.a, U l.b, U l.c, U l.d, U l.e, U l.f, U l.g, U l.h] HD.out.2.1 24 _ (by kernel_rfl)
      have hy : W9.heap[d]? = some (.cells #[.slice (some mb) 5 5, I 1, I r, I s'] 292) := by rw [← hW]; exact (AR hne [U l.a, U l.b, U l.c, U l.d, U l.e, U l.f, U l.g, U l.h] W2 24).trans HD.out.1
      have hz : Pres (fun k => k ≠ d ∧ k ≠ mb) w W9 := by rw [← hW]; exact Pres.setCells (g := mb) (by simp) [U l.a, U l.b, U l.c, U l.d, U l.e, U l.f, U l.g, U l.h] HP.out 24
    | guard_hyp mk_4
      generalize hW : World.setCell _ ⟨mb, 39, none⟩ _ = W9
      have hx : W9.heap[mb]? = some (.cells ([x0, x1, x2, x3, l].flatMap Ln.cells).toArray 109) := by rw [← hW]; exact AT [U l.a, U l.b, U l.c, U l.d, U l.e, U l.f, U l.g, U l.h] HD.out.2.1 32 _ (by kernel_rfl)
      have hy : W9.heap[d]? = some (.cells #[.slice (some mb) 5 5, I 1, I r, I s'] 292) := by rw [← hW]; exact (AR hne [U l.a, U l.b, U l.c, U l.d, U l.e, U l.f, U l.g, U l.h] W2 32).trans HD.out.1
      have hz : Pres (fun k => k ≠ d ∧ k ≠ mb) w W9 := by rw [← hW]; exact Pres.setCells (g := mb) (by simp) [U l.a, U l.b, U l.c, U l.d, U l.e, U l.f, U l.g, U l.h] HP.out 32
    | generalize hW : World.setCell _ ⟨mb, 7, none⟩ _ = W9
      have hx : W9.heap[mb]? = some (.cells ([l, x1, x2, x3, x4].flatMap Ln.cells).toArray 109) := by rw [← hW]; exact AT [U l.a, U l.b, U l.c, U l.d, U l.e, U l.f, U l.g, U l.h] HD.out.2.1 0 _ (by kernel_rfl)
      have hy : W9.heap[d]? = some (.cells #[.slice (some mb) 5 5, I 1, I r, I s'] 292) := by rw [← hW]; exact (AR hne [U l.a, U l.b, U l.c, U l.d, U l.e, U l.f, U l.g, U l.h] W2 0).trans HD.out.1
      have hz : Pres (fun k => k ≠ d ∧ k ≠ mb) w W9 := by rw [← hW]; exact Pres.setCells (g := mb) (by simp) [U l.a, U l.b, U l.c, U l.d, U l.e, U l.f, U l.g, U l.h] HP.out 0
   exact ⟨rfl, ⟨s', hy, hx, rfl⟩, hz.drew⟩
theorem Lo (d mb : Nat) (r s k : Int) (h0 : 0 ≤ k) (h1 : k < 5) (L : List Ln) (l : Ln) (w : World) (h : Bh w d mb r s L) : Y 342 #[d, I k, .agg l.cells.toArray] w fun e w' => e = Z (I 0) ∧ (∃ s', Bh w' d mb r s' (L.set k.toNat l)) ∧ Pres (fun k => k ≠ d ∧ k ≠ mb) w w' := by
 obtain ⟨x0, x1, x2, x3, x4, rfl, h5⟩ := h.five
 have hk : k = 0 ∨ k = 1 ∨ k = 2 ∨ k = 3 ∨ k = 4 := by omega
 rcases hk with rfl | rfl | rfl | rfl | rfl
 · exact nwriteX.1 d mb r s x0 x1 x2 x3 x4 l w h5
 · exact nwriteX.2.1 d mb r s x0 x1 x2 x3 x4 l w h5
 · exact nwriteX.2.2.1 d mb r s x0 x1 x2 x3 x4 l w h5
 · exact nwriteX.2.2.2.1 d mb r s x0 x1 x2 x3 x4 l w h5
 · exact nwriteX.2.2.2.2 d mb r s x0 x1 x2 x3 x4 l w h5
theorem Ho {P : Program} (t ty e : TypeId) (i : TypeInfo) (a : Addr) (n c c2 : Nat) (A : Option Addr) (ht : P.underlying t = some (.slice e)) (hi : P.info? e = some i) (w : World) :
 (Builtin.copy_ #[t, t] ty #[.slice (some a) n c, .slice A 0 c2]).run P w = .ok (I 0) w := by
 have hmin : Nat.min 0 n = 0 := Nat.zero_min n
 cases A with
 | none => simp [Builtin.copy_, run_underlying ht, sizeOf, typeInfo, hi, Builtin.lenOf, hmin, run_firstCells_none, storeCells, goInt]
 | some b =>
   have := run_firstCells_some (P := P) w i.size 0 b 0 c2 [] (by simp) (fun j u hu => by simp at hu)
   simp [Builtin.copy_, run_underlying ht, sizeOf, typeInfo, hi, Builtin.lenOf, hmin, this, storeCells, goInt]
theorem Nz : ∃ i, prog.info? 304 = some i := Option.isSome_iff_exists.1 (by kernel_rfl)
theorem My (qb dv mb : Nat) (r s line : Int) (h0 : 0 ≤ line) (h1 : line < 5) (L : List Ln) (l : Ln) (A : Option Addr) (AV : Nat) (w : World) (h : Bh w dv mb r s L) (hq : w.heap[qb]? = some (.cells #[dv, I 2, .slice A 0 AV] 295)) :
 Y 336 #[qb, I line, .agg l] w fun e w' => e = Z (I 0) ∧ ∃ r' g, Bh w' dv mb r' s L ∧ w'.heap[qb]? = some (.cells #[dv, I 2, .slice (some ⟨g, 0, none⟩) 1 1] 295) ∧ w'.heap[g]? = some (.cells #[I line, l.a, l.b, l.c, l.d, l.e, l.f, l.g, l.h] 304) ∧ w.heap.size ≤ g ∧ Pres (fun k => k ≠ dv ∧ k ≠ qb) w w' := by
 obtain ⟨W1, hE, hb1, hI1⟩ := alloc_new w (.cells l 109)
 have hq1 := AB hb1 hq
 have hd1 : Bh W1 dv mb r s L := ⟨AB hb1 h.1, AB hb1 h.2.1, h.2.2⟩
 have hrd := If dv mb r s line h0 h1 L W1 hd1
 generalize BO Ln.zero L line.toNat = x at hrd
 have hne : qb ≠ dv := AG hq h.1 (by decide)
 have hne2 : w.heap.size ≠ dv := Nat.ne_of_gt (AF h.1)
 have c := AA hq1
 have HX := Vw (WA hb1 (WA hq1 hI1))
 have hltm := AF h.2.1
 have HN := Vw (show mb ≠ dv ∧ mb ≠ qb ∧ qb < w.heap.size ∧ dv < w.heap.size from ⟨(AG h.1 h.2.1 (by decide)).symm, (AG hq h.2.1 (by decide)).symm, AF hq, AF h.1⟩)
 clear h hq hd1 hb1 hq1 hI1
 go_enter func336, ntmps336
 go_wp2_with fail
 refine hrd.mono ?_
 rintro e w2 ⟨rfl, ⟨r', hd2⟩, hp2⟩
 have hq2 := (hp2.block qb (AF HX.out.2.1) hne).trans HX.out.2.1
 have hI2 := (hp2.block w.heap.size (AF HX.out.2.2) hne2).trans HX.out.2.2
 have hb3 := AC w2 (.cells x.cells.toArray 109)
 replace c := AA hq2
 have hlt2 := AF hq2
 clear hE hrd
 simp only [Ln.cells] at hb3 ⊢
 go_wp2_with fail
 have hq3 := AB hb3 hq2
 have hI3 := AB hb3 hI2
 have hd3 : Bh _ dv mb r' s L := ⟨AB hb3 hd2.1, AB hb3 hd2.2.1, hd2.2.2⟩
 have hp3 := ((Pres.of_below (Av := fun k => k ≠ dv ∧ k ≠ qb) HX.out.1).trans (hp2.mono (fun k _ hk => hk.1))).trans (Pres.of_below hb3)
 generalize w2.alloc (.cells x 109) = W3 at *
 replace c := AA hq3
 have c1 := AA hI3
 have f := AJ hq3
 have hltq := AF hq3
 have hlti := AF hI3
 have HY := Vw (WA hq3 (WA hI3 (WA hd3 hp3)))
 obtain ⟨i304, hi304⟩ := Nz
 have HI304 := Vw hi304
 clear hq3 hI3 hd3 hp3 hp2 hq2 hI2 hb3 hd2 hi304 hlt2
 have hmk : ∀ w : World, (Instr.makeSlice 293 (I 1) (I 1)).run prog w = .ok (.slice (some ⟨w.heap.size, 0, none⟩) 1 1) (w.alloc (.cells #[I 0, U 0, U 0, U 0, U 0, U 0, U 0, U 0, U 0] 304)) := fun w => by kernel_rfl
 have hcp := fun (w : World) (a : Addr) => Ho (P := prog) 293 3 304 i304 a 1 1 AV A underlying293 HI304.out w
 go_region
 all_goals
  go_wp2_with fail
  go_region
  all_goals
   go_wp2_with fail
   go_ret
   have e1 := AI HY.out.1 2 (.slice (some W3) 1 1)
   have e2 := (Vz W3 ⟨qb, 2, none⟩ (.slice (some W3) 1 1) dv (Ne.symm hne)).trans HY.out.2.2.1.1
   have e3 := (Vz W3 ⟨qb, 2, none⟩ (.slice (some W3) 1 1) mb HN.out.2.1).trans HY.out.2.2.1.2.1
   have e4 := HY.out.2.2.2.setCell (p := ⟨qb, 2, none⟩) (by simp) (.slice (some W3) 1 1)
   have e5 : (W3.setCell ⟨qb, 2, none⟩ (.slice (some W3) 1 1)).heap.size = W3.heap.size := by simp [World.setCell]
   generalize W3.setCell ⟨qb, 2, none⟩ (.slice (some W3) 1 1) = W8 at *
   have hb8 := AC W8 (.cells #[I line, l.a, l.b, l.c, l.d, l.e, l.f, l.g, l.h] 304)
   have e6 := AE W8 (.cells #[I line, l.a, l.b, l.c, l.d, l.e, l.f, l.g, l.h] 304)
   rw [e5] at e6
   exact ⟨rfl, r', W3.heap.size, ⟨AB hb8 e2, AB hb8 e3, HY.out.2.2.1.2.2⟩, AB hb8 e1, e6, HY.out.2.2.2.size, (e4.trans (Pres.of_below hb8)).drew.drew⟩
theorem KW (k line : Int) (x : Ln) (p : Addr) (w : World) (h : w.cell? p = I line) (hp : p.block < w.heap.size) : Y 341 #[.agg #[I k, x.a, x.b, x.c, x.d, x.e, x.f, x.g, x.h], .pointer (some p)] w fun e w' => e = Z (.bool (k == line)) ∧ Below w w w' := by
 have fin : ∀ o : Obj, Below w w (w.alloc o) := fun o => AC w o
 have h' : (w.alloc (.cells #[I k, x.a, x.b, x.c, x.d, x.e, x.f, x.g, x.h] 304)).cell? p = I line := ((AC w (.cells #[I k, x.a, x.b, x.c, x.d, x.e, x.f, x.g, x.h] 304)).cell hp).trans h
 go_enter func341, ntmps341
 go_wp2_with fail
 go_ret
 exact ⟨rfl, fin _⟩
theorem RJ (A : Option Addr) (AV : Nat) (p : Addr) (w : World) : Y 340 #[.slice A 0 AV, .func (.func 341) #[] #[.pointer (some p)]] w fun e w' => e = Z (I (-1)) ∧ w = w' := by
 go_enter func340, ntmps340
 go_wp2_with fail
 refine wp_loop_rounds 1 ?_
 rw [rounds_succ]
 go_wp2_with fail
 go_ret
 exact ⟨rfl, rfl⟩
theorem Le (g off AV : Nat) (k line : Int) (x : Ln) (p : Addr) (w : World) (hp : p.block < w.heap.size) (hl : w.cell? p = I line) (hk : (k == line) = true) (hc : ∀ i u, [I k, U x.a, U x.b, U x.c, U x.d, U x.e, U x.f, U x.g, U x.h][i]? = some u → w.cell? ⟨g, off + i, none⟩ = some u) : Y 340 #[.slice (some ⟨g, off, none⟩) 1 AV, .func (.func 341) #[] #[.pointer (some p)]] w fun e w' => e = Z (I 0) ∧ Below w w w' := by
 have hq := KW k line x p w hl hp
 have e0 : w.cell? ⟨g, off, none⟩ = I k := hc 0 _ rfl
 have e1 : w.cell? ⟨g, off + 1, none⟩ = U x.a := hc 1 _ rfl
 have e2 : w.cell? ⟨g, off + 2, none⟩ = U x.b := hc 2 _ rfl
 have e3 : w.cell? ⟨g, off + 3, none⟩ = U x.c := hc 3 _ rfl
 have e4 : w.cell? ⟨g, off + 4, none⟩ = U x.d := hc 4 _ rfl
 have e5 : w.cell? ⟨g, off + 5, none⟩ = U x.e := hc 5 _ rfl
 have e6 : w.cell? ⟨g, off + 6, none⟩ = U x.f := hc 6 _ rfl
 have e7 : w.cell? ⟨g, off + 7, none⟩ = U x.g := hc 7 _ rfl
 have e8 : w.cell? ⟨g, off + 8, none⟩ = U x.h := hc 8 _ rfl
 clear hc
 go_enter func340, ntmps340
 go_wp2_with fail
 refine wp_loop_rounds 2 ?_
 rw [rounds_succ]
 go_wp2_with fail
 refine hq.mono ?_
 rintro e w1 ⟨rfl, hb⟩
 rw [hk]
 go_wp2_with fail
 go_ret
 exact ⟨rfl, hb⟩
theorem Pv (g off AV : Nat) (k line : Int) (x : Ln) (p : Addr) (w : World) (hp : p.block < w.heap.size) (hl : w.cell? p = I line) (hk : (k == line) = false) (hc : ∀ i u, [I k, U x.a, U x.b, U x.c, U x.d, U x.e, U x.f, U x.g, U x.h][i]? = some u → w.cell? ⟨g, off + i, none⟩ = some u) : Y 340 #[.slice (some ⟨g, off, none⟩) 1 AV, .func (.func 341) #[] #[.pointer (some p)]] w fun e w' => e = Z (I (-1)) ∧ Below w w w' := by
 have hq := KW k line x p w hl hp
 have e0 : w.cell? ⟨g, off, none⟩ = I k := hc 0 _ rfl
 have e1 : w.cell? ⟨g, off + 1, none⟩ = U x.a := hc 1 _ rfl
 have e2 : w.cell? ⟨g, off + 2, none⟩ = U x.b := hc 2 _ rfl
 have e3 : w.cell? ⟨g, off + 3, none⟩ = U x.c := hc 3 _ rfl
 have e4 : w.cell? ⟨g, off + 4, none⟩ = U x.d := hc 4 _ rfl
 have e5 : w.cell? ⟨g, off + 5, none⟩ = U x.e := hc 5 _ rfl
 have e6 : w.cell? ⟨g, off + 6, none⟩ = U x.f := hc 6 _ rfl
 have e7 : w.cell? ⟨g, off + 7, none⟩ = U x.g := hc 7 _ rfl
 have e8 : w.cell? ⟨g, off + 8, none⟩ = U x.h := hc 8 _ rfl
 clear hc
 go_enter func340, ntmps340
 go_wp2_with fail
 refine wp_loop_rounds 2 ?_
 rw [rounds_succ]
 go_wp2_with fail
 refine hq.mono ?_
 rintro e w1 ⟨rfl, hb⟩
 rw [hk]
 go_wp2_with fail
 rw [rounds_succ]
 go_wp2_with fail
 go_ret
 exact ⟨rfl, hb⟩
theorem NB (qb dv : Nat) (line : Int) (A : Option Addr) (AV : Nat) (w : World) (hq : w.heap[qb]? = some (.cells #[dv, I 2, .slice A 0 AV] 295)) : Y 280 #[qb, I line] w fun e w' => e = Z (I 14) ∧ Below w w w' := by
 obtain ⟨W1, hE, hb1, hI1⟩ := alloc_new w (.cells #[I line] 3)
 have hq1 := AB hb1 hq
 have c := AA hq1
 have c1 := AA hI1
 have hix := RJ A AV w W1
 clear hq hI1 hq1
 go_enter func280, ntmps280
 go_wp2_with fail
 refine hix.mono ?_
 rintro e w2 ⟨rfl, rfl⟩
 go_wp2_with fail
 go_ret
 exact ⟨rfl, hb1⟩
theorem LP (qb dv g off AV : Nat) (k line : Int) (x : Ln) (hk : (k == line) = false) (w : World) (hq : w.heap[qb]? = some (.cells #[dv, I 2, .slice (some ⟨g, off, none⟩) 1 AV] 295)) (hc : ∀ i u, [I k, U x.a, U x.b, U x.c, U x.d, U x.e, U x.f, U x.g, U x.h][i]? = some u → w.cell? ⟨g, off + i, none⟩ = some u) (hg : g < w.heap.size) : Y 280 #[qb, I line] w fun e w' => e = Z (I 14) ∧ Below w w w' := by
 obtain ⟨W1, hE, hb1, hI1⟩ := alloc_new w (.cells #[I line] 3)
 have hq1 := AB hb1 hq
 have c := AA hq1
 have c1 := AA hI1
 have hix := Pv g off AV k line x w W1 (AF hI1) (AD hI1 0 rfl) hk (fun i u hu => (hb1.cell (p := ⟨g, off + i, none⟩) hg).trans (hc i u hu))
 clear hq hI1 hq1 hc hk
 go_enter func280, ntmps280
 go_wp2_with fail
 refine hix.mono ?_
 rintro e w2 ⟨rfl, hb2⟩
 go_wp2_with fail
 go_ret
 exact ⟨rfl, hb1.trans (hb2.mono hb1.size)⟩
def Ej : List Value := [I 0, U 0, U 0, U 0, U 0, U 0, U 0, U 0, U 0]
theorem SP (w : World) : (zeroValue 304).run prog w = .ok (.agg Ej.toArray) w := by kernel_rfl
theorem wdrainX :
  (∀ (qb dv mb g off AV : Nat) (hcap : AV = 1) (r s line : Int) (h0 : 0 ≤ line) (h1 : line < 5) (L : List Ln) (x : Ln) (w : World) (h : Bh w dv mb r s L) (hq : w.heap[qb]? = some (.cells #[dv, I 2, .slice (some ⟨g, off, none⟩) 1 AV] 295)) (hr : AH w 304 9 (.slice (some ⟨g, off, none⟩) 1 AV) 1 [I line, U x.a, U x.b, U x.c, U x.d, U x.e, U x.f, U x.g, U x.h]), Y 280 #[qb, I line] w fun e w' => e = Z (I 0) ∧ ∃ s', Bh w' dv mb r s' (L.set line.toNat x) ∧ w'.heap[qb]? = some (.cells #[dv, I 2, .slice (some ⟨g, off, none⟩) 0 AV] 295) ∧ AH w' 304 9 (.slice (some ⟨g, off, none⟩) 0 AV) 0 [] ∧ Pres (fun k => k ≠ dv ∧ k ≠ mb ∧ k ≠ qb ∧ k ≠ g) w w') ∧
  (∀ (qb dv mb g off AV : Nat) (hcap : 1 < AV) (r s line : Int) (h0 : 0 ≤ line) (h1 : line < 5) (L : List Ln) (x : Ln) (w : World) (h : Bh w dv mb r s L) (hq : w.heap[qb]? = some (.cells #[dv, I 2, .slice (some ⟨g, off, none⟩) 1 AV] 295)) (hr : AH w 304 9 (.slice (some ⟨g, off, none⟩) 1 AV) 1 [I line, U x.a, U x.b, U x.c, U x.d, U x.e, U x.f, U x.g, U x.h]), Y 280 #[qb, I line] w fun e w' => e = Z (I 0) ∧ ∃ s', Bh w' dv mb r s' (L.set line.toNat x) ∧ w'.heap[qb]? = some (.cells #[dv, I 2, .slice (some ⟨g, off, none⟩) 0 AV] 295) ∧ AH w' 304 9 (.slice (some ⟨g, off, none⟩) 0 AV) 0 [] ∧ Pres (fun k => k ≠ dv ∧ k ≠ mb ∧ k ≠ qb ∧ k ≠ g) w w') := by
 refine ⟨?m0, ?m1⟩
 case' m0 =>
  intro qb dv mb g off AV hcap r s line h0 h1 L x w h hq hr
  have mk_0 := trivial
 case' m1 =>
  intro qb dv mb g off AV hcap r s line h0 h1 L x w h hq hr
  have mk_1 := trivial
 all_goals
  first
   | guard_hyp mk_1
   | subst hcap
  obtain ⟨W1, hE, hb1, hI1⟩ := alloc_new w (.cells #[I line] 3)
  have hq1 := AB hb1 hq
  have c := AA hq1
  have c1 := AA hI1
  obtain ⟨hcc, gs, hgs, hsz, hxs⟩ := hr.at
  have hcell : ∀ i u, [I line, U x.a, U x.b, U x.c, U x.d, U x.e, U x.f, U x.g, U x.h][i]? = some u → w.cell? ⟨g, off + i, none⟩ = some u := fun i u hu => AD hgs _ (hxs i u hu)
  first
   | guard_hyp mk_1
     have hix := Le g off AV line line x w W1 (AF hI1) (AD hI1 0 rfl) (by simp) (fun i u hu => (hb1.cell (p := ⟨g, off + i, none⟩) (AF hgs)).trans (hcell i u hu))
   | have hix := Le g off 1 line line x w W1 (AF hI1) (AD hI1 0 rfl) (by simp) (fun i u hu => (hb1.cell (p := ⟨g, off + i, none⟩) (AF hgs)).trans (hcell i u hu))
  have n1 : qb ≠ dv := AG hq h.1 (by decide)
  have n2 : qb ≠ mb := AG hq h.2.1 (by decide)
  have n3 : qb ≠ g := AG hq hgs (by decide)
  have n4 : g ≠ dv := AG hgs h.1 (by decide)
  have n5 : g ≠ mb := AG hgs h.2.1 (by decide)
  have n6 : dv ≠ mb := AG h.1 h.2.1 (by decide)
  have b0 : dv < w.heap.size := AF h.1
  have b1 : mb < w.heap.size := AF h.2.1
  have b2 : qb < w.heap.size := AF hq
  have b3 : g < w.heap.size := AF hgs
  have HX := Vw (WA hb1 (WA hq1 (WA hI1 (WA (show Bh W1 dv mb r s L from ⟨AB hb1 h.1, AB hb1 h.2.1, h.2.2⟩) (WA (hr.below hb1) (AB hb1 hgs))))))
  have HN := Vw (WA n1 (WA n2 (WA n3 (WA n4 (WA n5 n6)))))
  have HS := Vw (WA b0 (WA b1 (WA b2 b3)))
  clear h hq hr hb1 hq1 hI1 hgs hsz hxs hcell n1 n2 n3 n4 n5 n6 b0 b1 b2 b3
  go_enter func280, ntmps280
  go_wp2_with fail
  refine hix.mono ?_
  rintro e w2 ⟨rfl, hb2⟩
  have hq2 := AB hb2 HX.out.2.1
  have hI2 := AB hb2 HX.out.2.2.1
  have hd2 : Bh w2 dv mb r s L := ⟨AB hb2 HX.out.2.2.2.1.1, AB hb2 HX.out.2.2.2.1.2.1, HX.out.2.2.2.1.2.2⟩
  have hr2 := HX.out.2.2.2.2.1.below hb2
  have HP := Vw (Pres.of_below (Av := fun k => k ≠ dv ∧ k ≠ mb ∧ k ≠ qb ∧ k ≠ g) (HX.out.1.trans (hb2.mono HX.out.1.size)))
  clear hE hix hb2 c c1
  have c := AA hq2
  have c1 := AA hI2
  obtain ⟨_, gs, hgs, hsz, hxs⟩ := hr2.at
  have hcell : ∀ i u, [I line, U x.a, U x.b, U x.c, U x.d, U x.e, U x.f, U x.g, U x.h][i]? = some u → w2.cell? ⟨g, off + i, none⟩ = some u := fun i u hu => AD hgs _ (hxs i u hu)
  have e0 : w2.cell? ⟨g, off, none⟩ = I line := hcell 0 _ rfl
  have e1 : w2.cell? ⟨g, off + 1, none⟩ = U x.a := hcell 1 _ rfl
  have e2 : w2.cell? ⟨g, off + 2, none⟩ = U x.b := hcell 2 _ rfl
  have e3 : w2.cell? ⟨g, off + 3, none⟩ = U x.c := hcell 3 _ rfl
  have e4 : w2.cell? ⟨g, off + 4, none⟩ = U x.d := hcell 4 _ rfl
  have e5 : w2.cell? ⟨g, off + 5, none⟩ = U x.e := hcell 5 _ rfl
  have e6 : w2.cell? ⟨g, off + 6, none⟩ = U x.f := hcell 6 _ rfl
  have e7 : w2.cell? ⟨g, off + 7, none⟩ = U x.g := hcell 7 _ rfl
  have e8 : w2.cell? ⟨g, off + 8, none⟩ = U x.h := hcell 8 _ rfl
  have HY := Vw (WA hq2 (WA hI2 (WA hd2 hr2)))
  clear hcell hq2 hI2 hd2 hr2 hgs hsz hxs
  go_wp2_with fail
  go_still_tail 13, (by kernel_rfl)
  change wpList _ _ _ _ _ w2.drew
  clear c c1 e0 e1 e2 e3 e4 e5 e6 e7 e8
  have hw := Lo dv mb r s line h0 h1 L x w2.drew ⟨HY.out.2.2.1.1, HY.out.2.2.1.2.1, HY.out.2.2.1.2.2⟩
  simp only [Ln.cells] at hw
  have hqd : w2.drew.heap[qb]? = _ := HY.out.1
  have hid : w2.drew.heap[w.heap.size]? = _ := HY.out.2.1
  have hrd : AH w2.drew 304 9 _ 1 _ := HY.out.2.2.2.kept fun _ _ => rfl
  replace HP := Vw HP.out.drew
  generalize w2.drew = W3 at *
  go_wp2_with fail
  refine hw.mono ?_
  rintro e w4 ⟨rfl, ⟨s', hd4⟩, hp4⟩
  have hq4 := (hp4.block qb (AF hqd) ⟨HN.out.1, HN.out.2.1⟩).trans hqd
  have hr4 := hrd.kept (w' := w4) fun k hk => by
   cases hk
   exact hp4.block g (by obtain ⟨_, _, hh, _, _⟩ := hrd.at; exact AF hh) ⟨HN.out.2.2.2.1, HN.out.2.2.2.2.1⟩
  have HQ := Vw (HP.out.trans (hp4.mono (fun k _ hk => ⟨hk.1, hk.2.1⟩)))
  have c := AA hq4
  have f := AJ hq4
  have hlt := AF hq4
  obtain ⟨_, gs, hgs, hsz, hxs⟩ := hr4.at
  have HZ := Vw (WA hq4 (WA hr4 (WA hd4 (WA hgs hsz))))
  obtain ⟨i304, hi304⟩ := Nz
  have HI304 := Vw hi304
  first
   | guard_hyp mk_1
     have hcp := fun (w : World) (a : Addr) (A : Option Addr) (c2 : Nat) => Ho (P := prog) 293 3 304 i304 a 1 AV c2 A underlying293 HI304.out w
   | have hcp := fun (w : World) (a : Addr) (A : Option Addr) (c2 : Nat) => Ho (P := prog) 293 3 304 i304 a 1 1 c2 A underlying293 HI304.out w
  clear hq4 hr4 hd4 hgs hsz hxs hqd hid hrd hp4 hw hi304
  go_wp2_with fail
  go_region
  all_goals
   go_wp2_with fail
   first
    | guard_hyp mk_1
      rw [CR (P := prog) w4.drew 293 304 0 (.agg Ej.toArray) Ej 1 underlying293 (SP _) (by kernel_rfl) g off AV (by omega) (show w4.drew.heap[g]? = _ from HZ.out.2.2.2.1) (by have := HZ.out.2.2.2.2; have : Ej.length = 9 := rfl; omega) (by simp [Ej, Value.oneCell'])]
    | rw [CR (P := prog) w4.drew 293 304 0 (.agg Ej.toArray) Ej 1 underlying293 (SP _) (by kernel_rfl) g off 1 (by omega) (show w4.drew.heap[g]? = _ from HZ.out.2.2.2.1) (by have := HZ.out.2.2.2.2; have : Ej.length = 9 := rfl; omega) (by simp [Ej, Value.oneCell'])]
   simp only [Result.andThen_ok, Oper.upon]
   have hq5 : (w4.drew.setCells g off Ej).heap[qb]? = _ := (AR HN.out.2.2.1 Ej w4.drew off).trans HZ.out.1
   have hd5 : Bh (w4.drew.setCells g off Ej) dv mb r s' (L.set line.toNat x) := ⟨(AR (Ne.symm HN.out.2.2.2.1) Ej w4.drew off).trans HZ.out.2.2.1.1, (AR (Ne.symm HN.out.2.2.2.2.1) Ej w4.drew off).trans HZ.out.2.2.1.2.1, HZ.out.2.2.1.2.2⟩
   have hr5 := (show AH w4.drew 304 9 _ 1 _ from HZ.out.2.1.kept fun _ _ => rfl).cut 0 (by omega) off Ej (by omega) (by have : Ej.length = 9 := rfl; omega)
   have hp5 := Pres.setCells (Av := fun k => k ≠ dv ∧ k ≠ mb ∧ k ≠ qb ∧ k ≠ g) (g := g) (by simp) Ej HQ.out.drew off
   generalize w4.drew.setCells g off Ej = W5 at *
   clear c f
   have c := AA hq5
   have f := AJ hq5
   have HV := Vw (WA hq5 (WA hd5 (WA hr5 hp5)))
   clear hq5 hd5 hr5 hp5 hcp
   go_wp2_with fail
   go_ret
   refine ⟨rfl, s', ⟨(Vz _ _ _ _ (Ne.symm HN.out.1)).trans HV.out.2.1.1, (Vz _ _ _ _ (Ne.symm HN.out.2.1)).trans HV.out.2.1.2.1, HV.out.2.1.2.2⟩, AI HV.out.1 2 _, ?_, HV.out.2.2.2.setCell (p := ⟨qb, 2, none⟩) (by simp) _⟩
   first
    | guard_hyp mk_1
      exact (by simpa using HV.out.2.2.1 : AH W5 304 9 (.slice (some ⟨g, off, none⟩) 0 AV) 0 []).kept fun k hk => by
       cases hk
       exact Vz _ _ _ _ (Ne.symm HN.out.2.2.1)
    | exact (by simpa using HV.out.2.2.1 : AH W5 304 9 (.slice (some ⟨g, off, none⟩) 0 1) 0 []).kept fun k hk => by
       cases hk
       exact Vz _ _ _ _ (Ne.symm HN.out.2.2.1)
end Go.Proofs.YtkoplblbeapfgaaGreatDoor
