/-
Parts of the walk of TopEnds. Conditions stand in each statement.
-/
import Derived.Test.YtkoplblbeapfgaaGreatDoorX17
import Derived.Test.YtkoplblbeapfgaaGreatDoorX18
import Derived.Test.YtkoplblbeapfgaaGreatDoorX22
namespace Go.Proofs.YtkoplblbeapfgaaGreatDoor
open Go.RowKit
open Tryz
set_option linter.all false
set_option maxRecDepth 100000
set_option maxHeartbeats 8000000
theorem Sy.fresh2 {T0 : Nat → Nat} {w0 w w2 : World} {L : SL} {s : Sys} (h : Sy T0 w0 L s w) (hb2 : Below w w w2) : ∃ T, Sy T w2 L s w2 ∧ (∀ k, w.heap.size ≤ k → T k = 0) ∧ (∀ s' w' w'', Sy T w2 L s' w' → Pres (fun k => k < w.heap.size ∨ w2.heap.size ≤ k) w' w'' → Sy T0 w0 L s' w'') := by
 obtain ⟨T, V, h, hb, hc⟩ := h
 have hlow : ∀ k, w.heap.size ≤ k → T k = 0 := fun k hk => by
  by_cases h0 : T k = 0
  · exact h0
  · exact absurd (h.low k h0) (by omega)
 refine ⟨T, Sy.start (h.below hb2), hlow, fun s' w' w'' h' hp => ?_⟩
 have hA := hc.trans (Pres.of_below hb2)
 obtain ⟨T', V', h', h2, h3⟩ := h'
 have hs := hc.size
 have hs2 := hb2.size
 obtain ⟨_, _, _, _, hp0⟩ := Sy.trans hb hA ⟨T', V', h', h2, h3⟩
 refine ⟨T', V', h'.keep (hp.mono fun k hk ha => ?_), fun k hk => (h2 k (by omega)).trans (hb k hk), ⟨hp.os.trans hp0.os, hp.tape.trans hp0.tape, hp.output.trans hp0.output, Vx hp0.size hp.size, fun k hk ha => (hp.block k (Vy hk hp0.size) (Or.inl (by omega))).trans (hp0.block k hk ha)⟩⟩
 by_cases h1 : k < w.heap.size
 · exact .inl h1
 by_cases h4 : w2.heap.size ≤ k
 · exact .inr h4
 · have := h2 k (by omega)
   rw [hlow k (by omega)] at this
   simp [this] at ha
theorem Pr (T0 : Nat → Nat) (w0 : World) (L : SL) (s : Sys) (i : Int) (hi : AK i = true) (m : Msg) (a' : Arr) (l : List Msg) (hr : Fy (s.node i).arr m = some (a', l)) (w : World) (h : Sy T0 w0 L s w) :
 Y 273 #[.pointer (some ⟨L.g i, 0, none⟩), .agg m.cells] w fun e w' => ∃ S, e = Z (.tuple #[S, I 0]) ∧ AH w' 253 12 S l.length (Ao l) ∧ Sy T0 w0 L (s.setArr i a') w' := by
 obtain ⟨T, V, h, hb, hc⟩ := h
 rcases Aa hi with rfl | rfl
 · refine (Il L.g0 L.a0 L.l0 s.n0.arr m (a', l) hr w ⟨h.ag0, h.arr0⟩).mono ?_
   rintro e w' ⟨S, rfl, hr1, hr2, hr3, hp⟩
   have hp' : Ad (fun n => n == 9 || n == 11) T w w' := hp.mono fun k hk ha => by
    simp only [Bool.or_eq_false_iff, beq_eq_false_iff_ne] at ha
    exact ⟨fun e => ha.1 (by rw [e]; exact h.ta0), fun e => ha.2 (by rw [e]; exact h.tl0)⟩
   exact ⟨S, rfl, hr1, Sy.step (s := s) (s' := s.setArr 0 a') hb hc (h.setArr0 hp' hr3.2) (fun _ _ => rfl) hp' (fun n hn => by simp only [Bool.or_eq_true, beq_iff_eq] at hn; rcases hn with rfl | rfl <;> rfl)⟩
 · refine (Il L.g1 L.a1 L.l1 s.n1.arr m (a', l) hr w ⟨h.ag1, h.arr1⟩).mono ?_
   rintro e w' ⟨S, rfl, hr1, hr2, hr3, hp⟩
   have hp' : Ad (fun n => n == 10 || n == 12) T w w' := hp.mono fun k hk ha => by
    simp only [Bool.or_eq_false_iff, beq_eq_false_iff_ne] at ha
    exact ⟨fun e => ha.1 (by rw [e]; exact h.ta1), fun e => ha.2 (by rw [e]; exact h.tl1)⟩
   exact ⟨S, rfl, hr1, Sy.step (s := s) (s' := s.setArr 1 a') hb hc (h.setArr1 hp' hr3.2) (fun _ _ => rfl) hp' (fun n hn => by simp only [Bool.or_eq_true, beq_iff_eq] at hn; rcases hn with rfl | rfl <;> rfl)⟩
theorem Oi (T0 : Nat → Nat) (w0 : World) (L : SL) (s : Sys) (i : Int) (hi : AK i = true) (hq : (s.node i).down = []) (w : World) (h : Sy T0 w0 L s w) : Y 227 #[L.sb, I i] w fun e w' => e = Z (.tuple #[.agg (Msg.mk 0 0 false false Ln.zero).cells, I 14]) ∧ Sy T0 w0 L s w' := by
 have hat := Vw (fun T0 w0 w h => Bi T0 w0 L s i hi w h)
 have hpop := Vw (fun T0 w0 w h => JT T0 w0 L s i 3 hi (by decide) hq w h)
 simp only [show qo i 3 = qo i 0 + 3 from rfl, Msg.cells, Ln.zero] at hpop
 simp only [Msg.cells, Ln.zero]
 obtain ⟨W0, hE0, hb0, hI0⟩ := alloc_new w (.cells KB 253)
 have hsz : W0.heap.size = w.heap.size + 1 := by rw [← hE0]; simp
 obtain ⟨T, hS, hfr, hback⟩ := h.fresh2 hb0
 have HK := Vw hback
 have HT := Vw (hfr w.heap.size (Nat.le_refl _))
 have H0 := Vw hS
 have HI0 := Vw hI0
 have HZ := Vw hsz
 clear h hb0 hI0 hsz hS hfr hback
 generalize ho : qo i 0 = o at *
 go_enter func227, ntmps227
 go_wp2_with fail
 refine (hat.out T W0 _ H0.out).mono ?_
 rintro e w1 ⟨rfl, h1⟩
 have H1 := Vw h1
 clear h1
 go_wp2_with fail
 refine (hpop.out T W0 _ H1.out).mono ?_
 rintro e w2 ⟨rfl, h2⟩
 have H2 := Vw (h2.below (AC w2 (.cells KB 253)))
 have c0 := AA (H2.out.stays HT.out HI0.out)
 have f0 := AJ (H2.out.stays HT.out HI0.out)
 clear h2
 go_wp2_with fail
 generalize hW : World.setCell _ ⟨w, 11, none⟩ _ = W9
 have hx : W9.heap[w.heap.size]? = some (.cells KB 253) := by rw [← hW]; exact AT [I 0, I 0, .bool false, .bool false, U 0, U 0, U 0, U 0, U 0, U 0, U 0, U 0] (H2.out.stays HT.out HI0.out) 0 _ (by kernel_rfl)
 have hp9 : Pres (fun k => k < w.heap.size ∨ W0.heap.size ≤ k) (w2.alloc (.cells KB 253)) W9 := by rw [← hW]; exact Pres.setCells (by have := HZ.out; omega) [I 0, I 0, .bool false, .bool false, U 0, U 0, U 0, U 0, U 0, U 0, U 0, U 0] (Pres.refl _ _) 0
 have H9 := Vw (HK.out _ _ _ (H2.out) hp9)
 clear hW c0 f0 hp9
 have c9 := AA hx
 refine bodyPost_ret (v := .tuple #[.agg KB, I 14]) (by simp [results, results227, go_sem, c9]) rfl ⟨rfl, H9.out⟩
theorem mhearX :
  (∀ (T0 : Nat → Nat) (w0 : World) (L : SL) (s : Sys) (i : Int) (hi : AK i = true) (m : Msg) (l : List Msg) (hq : (s.node i).down = m :: l) (s1 : Sys) (hs1 : s.setq i 3 l = s1) (a' : Arr) (hh : Fy (s1.node i).arr m = some (a', [])) (w : World) (h : Sy T0 w0 L s w), Y 227 #[L.sb, I i] w fun e w' => e = Z (.tuple #[.agg m.cells, I 0]) ∧ Sy T0 w0 L (s1.setArr i a') w') ∧
  (∀ (T0 : Nat → Nat) (w0 : World) (L : SL) (s : Sys) (i : Int) (hi : AK i = true) (m : Msg) (l : List Msg) (hq : (s.node i).down = m :: l) (s1 : Sys) (hs1 : s.setq i 3 l = s1) (a' : Arr) (x : Msg) (hh : Fy (s1.node i).arr m = some (a', [x])) (hx : BJ x = true) (hl : ((s1.setArr i a').q i 2).length < 1000) (w : World) (h : Sy T0 w0 L s w), Y 227 #[L.sb, I i] w fun e w' => e = Z (.tuple #[.agg m.cells, I 0]) ∧ Sy T0 w0 L ((s1.setArr i a').setq i 2 ((s1.setArr i a').q i 2 ++ [x])) w') := by
 refine ⟨?m0, ?m1⟩
 case' m0 =>
  intro T0 w0 L s i hi m l hq s1 hs1 a' hh w h
  have mk_0 := trivial
 case' m1 =>
  intro T0 w0 L s i hi m l hq s1 hs1 a' x hh hx hl w h
  have mk_1 := trivial
 all_goals
  have hat := Vw (fun T0 w0 w h => Bi T0 w0 L s i hi w h)
  have hpop := Vw (fun T0 w0 w h => OR T0 w0 L s i 3 m l hi (by decide) hq w h)
  rw [hs1] at hpop
  first
   | guard_hyp mk_1
     have hag := Vw (fun T0 w0 w h => Pr T0 w0 L s1 i hi m a' [x] hh w h)
     have hpu := Vw (fun T0 w0 w h => JS T0 w0 L (s1.setArr i a') i 2 x hi (by decide) hx hl w h)
     simp only [show qo i 3 = qo i 0 + 3 from rfl, show qo i 2 = qo i 0 + 2 from rfl, Msg.cells] at hpop hag hpu
   | have hag := Vw (fun T0 w0 w h => Pr T0 w0 L s1 i hi m a' [] hh w h)
     simp only [show qo i 3 = qo i 0 + 3 from rfl, show qo i 2 = qo i 0 + 2 from rfl, Msg.cells] at hpop hag
  simp only [Msg.cells]
  clear hh hq hs1
  obtain ⟨W0, hE0, hb0, hI0⟩ := alloc_new w (.cells KB 253)
  have hsz : W0.heap.size = w.heap.size + 1 := by rw [← hE0]; simp
  obtain ⟨T, hS, hfr, hback⟩ := h.fresh2 hb0
  have HK := Vw hback
  have HT := Vw (hfr w.heap.size (Nat.le_refl _))
  have H0 := Vw hS
  have HI0 := Vw hI0
  have HZ := Vw hsz
  clear h hb0 hI0 hsz hS hfr hback
  generalize ho : qo i 0 = o at *
  go_enter func227, ntmps227
  go_wp2_with fail
  refine (hat.out T W0 _ H0.out).mono ?_
  rintro e w1 ⟨rfl, h1⟩
  have H1 := Vw h1
  clear h1
  go_wp2_with fail
  refine (hpop.out T W0 _ H1.out).mono ?_
  rintro e w2 ⟨rfl, h2⟩
  obtain ⟨W3, hE, hb3, hI3⟩ := alloc_new w2 (.cells m 253)
  obtain ⟨T3, hS3, hfr3, hold3, hback3⟩ := h2.fresh hb3
  have HK3 := Vw hback3
  have HT3 := Vw (show T3 w.heap.size = 0 ∧ T3 w2.heap.size = 0 from ⟨(hold3 _ (AF HI0.out)).trans HT.out, hfr3 _ (Nat.le_refl _)⟩)
  have HI3 := Vw (WA (AB hb3 (h2.stays HT.out HI0.out)) hI3)
  have H3 := Vw hS3
  have HS := Vw (show ∀ w' : World, Sy T3 W3 L s1 w' → w'.cell? ⟨L.nb, o, none⟩ = some (.pointer (some ⟨L.g i, 0, none⟩)) ∧ w'.cell? w2 = some (I m.kind) ∧ w'.cell? ⟨w2, 1, none⟩ = some (I m.line) ∧ w'.cell? ⟨w2, 2, none⟩ = some (.bool m.dirty) ∧ w'.cell? ⟨w2, 3, none⟩ = some (.bool m.kept) ∧ w'.cell? ⟨w2, 4, none⟩ = some (U m.data.a) ∧ w'.cell? ⟨w2, 5, none⟩ = some (U m.data.b) ∧ w'.cell? ⟨w2, 6, none⟩ = some (U m.data.c) ∧ w'.cell? ⟨w2, 7, none⟩ = some (U m.data.d) ∧ w'.cell? ⟨w2, 8, none⟩ = some (U m.data.e) ∧ w'.cell? ⟨w2, 9, none⟩ = some (U m.data.f) ∧ w'.cell? ⟨w2, 10, none⟩ = some (U m.data.g) ∧ w'.cell? ⟨w2, 11, none⟩ = some (U m.data.h) from fun w' h => ⟨ho ▸ h.agent hi, AD (h.stays HT3.out.2 HI3.out.2) 0 rfl, AD (h.stays HT3.out.2 HI3.out.2) 1 rfl, AD (h.stays HT3.out.2 HI3.out.2) 2 rfl, AD (h.stays HT3.out.2 HI3.out.2) 3 rfl, AD (h.stays HT3.out.2 HI3.out.2) 4 rfl, AD (h.stays HT3.out.2 HI3.out.2) 5 rfl, AD (h.stays HT3.out.2 HI3.out.2) 6 rfl, AD (h.stays HT3.out.2 HI3.out.2) 7 rfl, AD (h.stays HT3.out.2 HI3.out.2) 8 rfl, AD (h.stays HT3.out.2 HI3.out.2) 9 rfl, AD (h.stays HT3.out.2 HI3.out.2) 10 rfl, AD (h.stays HT3.out.2 HI3.out.2) 11 rfl⟩)
  have HS2 := Vw (show ∀ w' : World, Sy T3 W3 L (s1.setArr i a') w' → w'.cell? ⟨L.nb, o, none⟩ = some (.pointer (some ⟨L.g i, 0, none⟩)) ∧ w'.cell? w2 = some (I m.kind) ∧ w'.cell? ⟨w2, 1, none⟩ = some (I m.line) ∧ w'.cell? ⟨w2, 2, none⟩ = some (.bool m.dirty) ∧ w'.cell? ⟨w2, 3, none⟩ = some (.bool m.kept) ∧ w'.cell? ⟨w2, 4, none⟩ = some (U m.data.a) ∧ w'.cell? ⟨w2, 5, none⟩ = some (U m.data.b) ∧ w'.cell? ⟨w2, 6, none⟩ = some (U m.data.c) ∧ w'.cell? ⟨w2, 7, none⟩ = some (U m.data.d) ∧ w'.cell? ⟨w2, 8, none⟩ = some (U m.data.e) ∧ w'.cell? ⟨w2, 9, none⟩ = some (U m.data.f) ∧ w'.cell? ⟨w2, 10, none⟩ = some (U m.data.g) ∧ w'.cell? ⟨w2, 11, none⟩ = some (U m.data.h) from fun w' h => ⟨ho ▸ h.agent hi, AD (h.stays HT3.out.2 HI3.out.2) 0 rfl, AD (h.stays HT3.out.2 HI3.out.2) 1 rfl, AD (h.stays HT3.out.2 HI3.out.2) 2 rfl, AD (h.stays HT3.out.2 HI3.out.2) 3 rfl, AD (h.stays HT3.out.2 HI3.out.2) 4 rfl, AD (h.stays HT3.out.2 HI3.out.2) 5 rfl, AD (h.stays HT3.out.2 HI3.out.2) 6 rfl, AD (h.stays HT3.out.2 HI3.out.2) 7 rfl, AD (h.stays HT3.out.2 HI3.out.2) 8 rfl, AD (h.stays HT3.out.2 HI3.out.2) 9 rfl, AD (h.stays HT3.out.2 HI3.out.2) 10 rfl, AD (h.stays HT3.out.2 HI3.out.2) 11 rfl⟩)
  have hd0 := hS3.drew
  have ca := hd0.agent hi
  rw [ho] at ca
  have c3 := AA hI3
  clear h2 hb3 hI3 hS3 hfr3 hold3 hback3 ca
  go_wp2_with fail
  clear c3
  go_region_held3 (fun w' => w'.cell? ⟨L.nb, o, none⟩ = some (.pointer (some ⟨L.g i, 0, none⟩)) ∧ w'.cell? w2 = some (I m.kind) ∧ w'.cell? ⟨w2, 1, none⟩ = some (I m.line) ∧ w'.cell? ⟨w2, 2, none⟩ = some (.bool m.dirty) ∧ w'.cell? ⟨w2, 3, none⟩ = some (.bool m.kept) ∧ w'.cell? ⟨w2, 4, none⟩ = some (U m.data.a) ∧ w'.cell? ⟨w2, 5, none⟩ = some (U m.data.b) ∧ w'.cell? ⟨w2, 6, none⟩ = some (U m.data.c) ∧ w'.cell? ⟨w2, 7, none⟩ = some (U m.data.d) ∧ w'.cell? ⟨w2, 8, none⟩ = some (U m.data.e) ∧ w'.cell? ⟨w2, 9, none⟩ = some (U m.data.f) ∧ w'.cell? ⟨w2, 10, none⟩ = some (U m.data.g) ∧ w'.cell? ⟨w2, 11, none⟩ = some (U m.data.h)) (first | with_reducible exact HS.out _ hd0 | with_reducible exact HS2.out _ h6) (first | (go_at_call 273; refine (hag.out T3 W3 _ hd0).mono ?_; rintro e w6 ⟨S, rfl, hr6, h6⟩))
  have H6 := Vw h6
  have c3 := AA (h6.stays HT3.out.2 HI3.out.2)
  first
   | guard_hyp mk_1
     obtain ⟨g, off, AV, rfl, hcap, r0, r1, r2, r3, r4, r5, r6, r7, r8, r9, r10, r11⟩ := Gr (l := []) hr6
     obtain ⟨W7, hE7, hb7, hI7⟩ := alloc_new w6 (.cells x 253)
     have H7 := Vw (H6.out.below hb7).drew
     have c7 := AA hI7
     clear hr6 h6 hd0 hb7 hI7
   | obtain ⟨A, AV, rfl⟩ := hr6.form
     have c0 := AA (h6.stays HT3.out.1 HI3.out.1)
     have f0 := AJ (h6.stays HT3.out.1 HI3.out.1)
     clear hr6 h6 hd0
  go_wp2_with fail
  first
   | guard_hyp mk_1
     refine wp_loop_rounds 2 ?_
     rw [rounds_succ]
     go_wp2_with fail
     clear c3
     go_still_tail 4, (by kernel_rfl)
     change wpList _ _ _ _ _ W7.drew
     generalize W7.drew = W8 at *
     go_wp2_with fail
     refine (hpu.out T3 W3 _ H7.out).mono ?_
     rintro e w8 ⟨rfl, h8⟩
     have H8 := Vw h8
     have c3 := AA (h8.stays HT3.out.2 HI3.out.2)
     have c0 := AA (h8.stays HT3.out.1 HI3.out.1)
     have f0 := AJ (h8.stays HT3.out.1 HI3.out.1)
     clear h8 c7 r0 r1 r2 r3 r4 r5 r6 r7 r8 r9 r10 r11
     go_wp2_with fail
   | refine wp_loop_rounds 1 ?_
  rw [rounds_succ]
  go_wp2_with fail
  generalize hW : World.setCell _ ⟨w, 11, none⟩ _ = W9
  first
   | guard_hyp mk_1
     have hx : W9.heap[w.heap.size]? = some (.cells m 253) := by rw [← hW]; exact AT [I m.kind, I m.line, .bool m.dirty, .bool m.kept, U m.data.a, U m.data.b, U m.data.c, U m.data.d, U m.data.e, U m.data.f, U m.data.g, U m.data.h] (H8.out.stays HT3.out.1 HI3.out.1) 0 _ (by kernel_rfl)
     have hp9 : Pres (fun k => k < w.heap.size ∨ W0.heap.size ≤ k) w8 W9 := by rw [← hW]; exact Pres.setCells (by have := HZ.out; omega) [I m.kind, I m.line, .bool m.dirty, .bool m.kept, U m.data.a, U m.data.b, U m.data.c, U m.data.d, U m.data.e, U m.data.f, U m.data.g, U m.data.h] (Pres.refl _ _) 0
     have H9 := Vw (HK.out _ _ _ (HK3.out _ _ H8.out) hp9)
   | have hx : W9.heap[w.heap.size]? = some (.cells m 253) := by rw [← hW]; exact AT [I m.kind, I m.line, .bool m.dirty, .bool m.kept, U m.data.a, U m.data.b, U m.data.c, U m.data.d, U m.data.e, U m.data.f, U m.data.g, U m.data.h] (H6.out.stays HT3.out.1 HI3.out.1) 0 _ (by kernel_rfl)
     have hp9 : Pres (fun k => k < w.heap.size ∨ W0.heap.size ≤ k) w6 W9 := by rw [← hW]; exact Pres.setCells (by have := HZ.out; omega) [I m.kind, I m.line, .bool m.dirty, .bool m.kept, U m.data.a, U m.data.b, U m.data.c, U m.data.d, U m.data.e, U m.data.f, U m.data.g, U m.data.h] (Pres.refl _ _) 0
     have H9 := Vw (HK.out _ _ _ (HK3.out _ _ H6.out) hp9)
  clear hW c0 f0 hp9
  have c9 := AA hx
  refine bodyPost_ret (v := .tuple #[.agg m, I 0]) (by simp [results, results227, go_sem, c9]) rfl ⟨rfl, H9.out⟩
theorem RI (s : Sys) (i : Int) (hi : AK i = true) (l : List Msg) : ((s.setq i 3 l).node i).arr = (s.node i).arr := by
 rcases Aa hi with rfl | rfl <;> rfl
theorem Rl (s : Sys) (i : Int) (hi : AK i = true) (l q : List Msg) (a' : Arr) : ((s.setq i 3 l).setArr i a').setq i 2 q = s.setNode i { s.node i with arr := a', ans := q, down := l } := by
 rcases Aa hi with rfl | rfl <;> rfl
theorem UD (s : Sys) (i : Int) (hi : AK i = true) (l : List Msg) (a' : Arr) : ((s.setq i 3 l).setArr i a').q i 2 = (s.node i).ans := by
 rcases Aa hi with rfl | rfl <;> rfl
def LI (o : Option Msg) : Value := match o with | none => .tuple #[.agg (Msg.mk 0 0 false false Ln.zero).cells, I 14] | some m => .tuple #[.agg m.cells, I 0]
theorem NS (T0 : Nat → Nat) (w0 : World) (L : SL) (s : Sys) (i : Int) (hi : AK i = true) (s' : Sys) (o : Option Msg) (hr : s.hear i = some (s', o)) (w : World) (h : Sy T0 w0 L s w) : Y 227 #[L.sb, I i] w fun e w' => e = Z (LI o) ∧ Sy T0 w0 L s' w' := by
 obtain ⟨_, hr⟩ := As hr
 cases hq : (s.node i).down with
 | nil =>
   simp only [hq, Option.some.injEq, Prod.mk.injEq] at hr
   obtain ⟨rfl, rfl⟩ := hr
   exact Oi T0 w0 L s i hi hq w h
 | cons m l =>
   simp only [hq] at hr
   obtain ⟨⟨a', out⟩, h1, hr⟩ := Option.bind_eq_some_iff.1 hr
   obtain ⟨q, h2, hr⟩ := Option.bind_eq_some_iff.1 hr
   simp only [Option.some.injEq, Prod.mk.injEq] at hr
   obtain ⟨rfl, rfl⟩ := hr
   have hlen := QV h1
   rw [← UD s i hi l a'] at h2
   rw [← RI s i hi l] at h1
   rw [← Rl s i hi]
   obtain ⟨g1, g2, rfl⟩ := FE h2
   match out, hlen with
   | [], _ =>
     rw [List.append_nil, KU _ i 2 hi (by decide)]
     exact mhearX.1 T0 w0 L s i hi m l hq _ rfl a' h1 w h
   | [x], _ => exact mhearX.2 T0 w0 L s i hi m l hq _ rfl a' x h1 (by simpa [Et] using g1) (by omega) w h
   | _ :: _ :: _, hlen => simp at hlen
def Fk (o : Int) : ByteArray := if o = 1 then ⟨#[65, 73]⟩ else if o = 17 then ⟨#[73]⟩ else if o = 21 then ⟨#[65]⟩ else if o = 2 ∨ o = 3 ∨ o = 4 ∨ o = 5 ∨ o = 6 ∨ o = 7 ∨ o = 10 ∨ o = 11 then ⟨#[65, 66, 67]⟩ else if o = 8 ∨ o = 9 ∨ o = 18 ∨ o = 19 ∨ o = 20 then ⟨#[65, 66, 73]⟩ else if o = 12 ∨ o = 13 ∨ o = 14 then ⟨#[66, 73]⟩ else ⟨#[]⟩
theorem Fb {o : Int} (h0 : 0 ≤ o) (h1 : o ≤ 22) : o = 0 ∨ o = 1 ∨ o = 2 ∨ o = 3 ∨ o = 4 ∨ o = 5 ∨ o = 6 ∨ o = 7 ∨ o = 8 ∨ o = 9 ∨ o = 10 ∨ o = 11 ∨ o = 12 ∨ o = 13 ∨ o = 14 ∨ o = 15 ∨ o = 16 ∨ o = 17 ∨ o = 18 ∨ o = 19 ∨ o = 20 ∨ o = 21 ∨ o = 22 := by omega
theorem Sc (a b c : Value) {o : Int} (h0 : 0 ≤ o) (h1 : o ≤ 22) : (OO a b c)[3 + o.toNat]? = some (.string (Fk o)) := by
 rcases Fb h0 h1 with rfl | rfl | rfl | rfl | rfl | rfl | rfl | rfl | rfl | rfl | rfl | rfl | rfl | rfl | rfl | rfl | rfl | rfl | rfl | rfl | rfl | rfl | rfl <;> rfl
theorem Uv {o : Int} (h0 : 0 ≤ o) (h1 : o ≤ 22) : decide (0 ≤ Go.Lib.indexByte (Fk o).data.toList 65) = MM o := by
 rcases Fb h0 h1 with rfl | rfl | rfl | rfl | rfl | rfl | rfl | rfl | rfl | rfl | rfl | rfl | rfl | rfl | rfl | rfl | rfl | rfl | rfl | rfl | rfl | rfl | rfl <;> decide
theorem Uu {o : Int} (h0 : 0 ≤ o) (h1 : o ≤ 22) : decide (0 ≤ Go.Lib.indexByte (Fk o).data.toList 66) = ML o := by
 rcases Fb h0 h1 with rfl | rfl | rfl | rfl | rfl | rfl | rfl | rfl | rfl | rfl | rfl | rfl | rfl | rfl | rfl | rfl | rfl | rfl | rfl | rfl | rfl | rfl | rfl <;> decide
theorem Ut {o : Int} (h0 : 0 ≤ o) (h1 : o ≤ 22) : decide (0 ≤ Go.Lib.indexByte (Fk o).data.toList 67) = MK o := by
 rcases Fb h0 h1 with rfl | rfl | rfl | rfl | rfl | rfl | rfl | rfl | rfl | rfl | rfl | rfl | rfl | rfl | rfl | rfl | rfl | rfl | rfl | rfl | rfl | rfl | rfl <;> decide
theorem Us {o : Int} (h0 : 0 ≤ o) (h1 : o ≤ 22) : decide (0 ≤ Go.Lib.indexByte (Fk o).data.toList 73) = Jr o := by
 rcases Fb h0 h1 with rfl | rfl | rfl | rfl | rfl | rfl | rfl | rfl | rfl | rfl | rfl | rfl | rfl | rfl | rfl | rfl | rfl | rfl | rfl | rfl | rfl | rfl | rfl <;> decide
theorem Pq (t : Nat) (w : World) (h : w.heap[t]? = some (.cells (GC (.int .u32 0) (.int .i32 0) (.int .u32 0) false false false) 357)) : Y 151 #[t, .func (.func 252) #[t] #[]] w fun e w' => e = Z (.tuple #[]) ∧ w'.heap[t]? = some (.cells (OO (.int .u32 1) (.int .i32 0) (.int .u32 0)) 357) ∧ Pres (fun k => k ≠ t) w w' := by
 have hA : (w.setCell ⟨t, 1, none⟩ (.int .i32 1)).heap[t]? = some (.cells (GC (.int .u32 0) (.int .i32 1) (.int .u32 0) false false false) 357) := AI h 1 (.int .i32 1)
 have hl := Dp t 0 _ (AD hA 0 rfl)
 have hf := PJ t (.int .u32 0) (.int .i32 1) (.int .u32 0) _ hA
 have hk := Hy ⟨t, 1, none⟩ w (AD h 1 rfl) (Aq h 1)
 have HP := Vw ((Pres.refl (fun k => k ≠ t) w).setCell (p := ⟨t, 1, none⟩) (by simp) (.int .i32 1))
 have hnot : ∀ (x : Bool) (w : World), (Op.unary .not (.bool x)).run prog w = .ok (.bool (!x)) w := fun _ _ => rfl
 clear h hA
 go_enter_defers func151, ntmps151
 go_wp2_with (first | (go_at_call 198; refine hk.mono ?_; rintro e w' ⟨rfl, rfl⟩) | (go_at_call 150; refine hl.mono ?_; rintro e w' ⟨rfl, rfl⟩) | (go_at_call 252; refine hf.mono ?_; rintro e w2 ⟨rfl, g1, g2⟩))
 refine leaves_cons (f := 200) (args := #[t, true]) (by simp) (by simp [go_sem]) ?_
 refine (Ek t (.int .u32 0) .returning _ (AD g1 0 rfl) (Aq g1 0)).mono ?_
 rintro e u' w'' ⟨rfl, rfl, rfl⟩
 have g3 := AI (w := w2.drew) g1 0 (.int .u32 1)
 refine leaves_cons (f := 199) (args := #[.pointer (some ⟨t, 1, none⟩)]) (by simp [settle]) (by simp [go_sem]) ?_
 refine (EX ⟨t, 1, none⟩ _ _ (AD g3 1 rfl) (Aq g3 1)).mono ?_
 rintro e u' w'' ⟨rfl, rfl, rfl⟩
 have g4 := AI g3 1 (.int .i32 0)
 have hp4 := (((HP.out.trans g2).drew).setCell (p := t) (by simp) (.int .u32 1)).setCell (p := ⟨t, 1, none⟩) (by simp) (.int .i32 0)
 simp only [Leaves, settle, results, results151]
 exact ⟨.tuple #[], by simp, rfl, g4, hp4⟩
theorem TM (t : Nat) (w : World) (h : w.heap[t]? = some (.cells (GC (.int .u32 0) (.int .i32 0) (.int .u32 0) false false false) 357)) : Y 95 #[t, .func (.func 252) #[t] #[]] w fun e w' => e = Z (.tuple #[]) ∧ w'.heap[t]? = some (.cells (OO (.int .u32 1) (.int .i32 0) (.int .u32 0)) 357) ∧ Pres (fun k => k ≠ t) w w' := by
 have hl := Dp t 0 w (AD h 0 rfl)
 have hs := Pq t w h
 have hnot : ∀ (x : Bool) (w : World), (Op.unary .not (.bool x)).run prog w = .ok (.bool (!x)) w := fun _ _ => rfl
 clear h
 go_enter func95, ntmps95
 go_wp2_with (first | (go_at_call 150; refine hl.mono ?_; rintro e w' ⟨rfl, rfl⟩) | (go_at_call 151; refine hs.mono ?_; rintro e w2 ⟨rfl, g1, g2⟩))
 go_end0
 exact ⟨rfl, g1, g2⟩
theorem Ov (o : Int) (h0 : 0 ≤ o) (h1 : o ≤ 22) (w : World) : Y 207 #[I o] w fun e w' => e = Z (.string (Fk o)) ∧ Below w w w' := by
 obtain ⟨W1, hE, hb1, -⟩ := alloc_new w (.cells #[.int .u32 0, .int .i32 0, .int .u32 0, .string ⟨#[]⟩, .string ⟨#[]⟩, .string ⟨#[]⟩, .string ⟨#[]⟩, .string ⟨#[]⟩, .string ⟨#[]⟩, .string ⟨#[]⟩, .string ⟨#[]⟩, .string ⟨#[]⟩, .string ⟨#[]⟩, .string ⟨#[]⟩, .string ⟨#[]⟩, .string ⟨#[]⟩, .string ⟨#[]⟩, .string ⟨#[]⟩, .string ⟨#[]⟩, .string ⟨#[]⟩, .string ⟨#[]⟩, .string ⟨#[]⟩, .string ⟨#[]⟩, .string ⟨#[]⟩, .string ⟨#[]⟩, .string ⟨#[]⟩] 357)
 have hI1 : W1.heap[w.heap.size]? = some (.cells (GC (.int .u32 0) (.int .i32 0) (.int .u32 0) false false false) 357) := hE ▸ AE w _
 have hd := Vw (TM w.heap.size W1 hI1)
 have his := Jl o h0 h1 w
 have HT := Vw (Sc (.int .u32 1) (.int .i32 0) (.int .u32 0) h0 h1)
 have HB := Vw hb1
 clear hb1 hI1
 go_enter func207, ntmps207
 go_wp2_with (go_at_call 208; refine his.mono ?_; rintro e w1 ⟨rfl, rfl⟩)
 refine hd.out.mono ?_
 rintro e w2 ⟨rfl, g1, g2⟩
 have e0 := AD g1 _ HT.out
 have hb2 := Vw (show Below w w w2 from ⟨g2.os.trans HB.out.os, g2.tape.trans HB.out.tape, g2.output.trans HB.out.output, Vx HB.out.size g2.size, fun k hk => (g2.block k (Vy hk HB.out.size) (by omega)).trans (HB.out.block k hk)⟩)
 clear g1 g2
 go_wp2_with fail
 go_ret
 exact ⟨rfl, hb2.out⟩
theorem Ii (i : Ins) (hg : PC i = true) (w : World) : Y 160 #[.agg i] w fun e w' => e = Z (.bool true) ∧ Below w w w' := by
 unfold PC at hg
 simp only [Bool.and_eq_true, decide_eq_true_eq] at hg
 obtain ⟨⟨⟨⟨⟨h0, h1⟩, ha⟩, hb⟩, hc⟩, hm⟩ := hg
 have rg : ∀ {n : Int} {b : Bool}, JX n b = true → n = 0 ∨ b = true ∧ 0 < n ∧ n < 8 := fun {n b} h => by
  simp only [JX, Bool.or_eq_true, beq_iff_eq, Bool.and_eq_true, decide_eq_true_eq] at h
  rcases h with h | ⟨⟨h1, h2⟩, h3⟩
  · exact .inl h
  · exact .inr ⟨h1, h2, h3⟩
 obtain ⟨W1, hE, hb1, hI1⟩ := alloc_new w (.cells i 165)
 have hhas := Vw (Ov i.op h0 h1 W1)
 have his := Vw (fun w => Jl i.op h0 h1 w)
 have cA := Vw (show ∀ w, Y 210 #[.string (Fk i.op), .string ⟨#[65]⟩] w fun e w' => e = Z (.bool (MM i.op)) ∧ w' = w from fun w => (CY _ 65 w).mono fun e w' k => ⟨by rw [k.1, Uv h0 h1], k.2⟩)
 have cB := Vw (show ∀ w, Y 210 #[.string (Fk i.op), .string ⟨#[66]⟩] w fun e w' => e = Z (.bool (ML i.op)) ∧ w' = w from fun w => (CY _ 66 w).mono fun e w' k => ⟨by rw [k.1, Uu h0 h1], k.2⟩)
 have cC := Vw (show ∀ w, Y 210 #[.string (Fk i.op), .string ⟨#[67]⟩] w fun e w' => e = Z (.bool (MK i.op)) ∧ w' = w from fun w => (CY _ 67 w).mono fun e w' k => ⟨by rw [k.1, Ut h0 h1], k.2⟩)
 have cI := Vw (show ∀ w, Y 210 #[.string (Fk i.op), .string ⟨#[73]⟩] w fun e w' => e = Z (.bool (Jr i.op)) ∧ w' = w from fun w => (CY _ 73 w).mono fun e w' k => ⟨by rw [k.1, Us h0 h1], k.2⟩)
 have rA := Vw (fun w => Ep i.a (MM i.op) (rg ha) w)
 have rB := Vw (fun w => Ep i.b (ML i.op) (rg hb) w)
 have rC := Vw (fun w => Ep i.c (MK i.op) (rg hc) w)
 have c1 := AA hI1
 have HB := Vw hb1
 have HI := Vw hI1
 have HM := Vw hm
 clear ha hb hc hb1 hI1 h0 h1 rg hm
 generalize Fk i.op = hs at *
 generalize MM i.op = bA at *
 generalize ML i.op = bB at *
 generalize MK i.op = bC at *
 generalize Jr i.op = bI at *
 go_enter func160, ntmps160
 go_wp2_with fail
 refine hhas.out.mono ?_
 rintro e w2 ⟨rfl, hb2⟩
 have HB2 := Vw (HB.out.trans (hb2.mono HB.out.size))
 have HI2 := Vw (AB hb2 HI.out)
 have c2 := AA HI2.out
 clear hb2 c1 hE
 go_wp2_with (go_at_call 208; refine (his.out _).mono ?_; rintro e w1 ⟨rfl, rfl⟩)
 go_quiet (first | (go_at_call 210; refine (cA.out _).mono ?_; rintro r w1 ⟨rfl, rfl⟩; exact ⟨rfl, _, rfl⟩) | (go_at_call 209; refine (rA.out _).mono ?_; rintro r w1 ⟨rfl, rfl⟩; exact ⟨rfl, _, rfl⟩))
 have HB3 := Vw (show Below w w (w2.drewN nq) from HB2.out.trans ⟨rfl, rfl, rfl, by have := HB2.out.size; exact Nat.le_refl _, fun _ _ => rfl⟩)
 have HI3 := Vw (show (w2.drewN nq).heap[w.heap.size]? = _ from HI2.out)
 generalize w2.drewN nq = X0 at *
 have c3 := AA HI3.out
 clear c2
 go_wp2_with fail
 go_quiet (first | (go_at_call 210; refine (cB.out _).mono ?_; rintro r w1 ⟨rfl, rfl⟩; exact ⟨rfl, _, rfl⟩) | (go_at_call 209; refine (rB.out _).mono ?_; rintro r w1 ⟨rfl, rfl⟩; exact ⟨rfl, _, rfl⟩))
 have HB4 := Vw (show Below w w (X0.drewN nq) from HB3.out.trans ⟨rfl, rfl, rfl, by have := HB3.out.size; exact Nat.le_refl _, fun _ _ => rfl⟩)
 have HI4 := Vw (show (X0.drewN nq).heap[w.heap.size]? = _ from HI3.out)
 generalize X0.drewN nq = X1 at *
 have c4 := AA HI4.out
 clear c3
 go_wp2_with fail
 go_quiet (first | (go_at_call 210; refine (cC.out _).mono ?_; rintro r w1 ⟨rfl, rfl⟩; exact ⟨rfl, _, rfl⟩) | (go_at_call 209; refine (rC.out _).mono ?_; rintro r w1 ⟨rfl, rfl⟩; exact ⟨rfl, _, rfl⟩))
 have HB5 := Vw (show Below w w (X1.drewN nq) from HB4.out.trans ⟨rfl, rfl, rfl, by have := HB4.out.size; exact Nat.le_refl _, fun _ _ => rfl⟩)
 have HI5 := Vw (show (X1.drewN nq).heap[w.heap.size]? = _ from HI4.out)
 generalize X1.drewN nq = X2 at *
 have c5 := AA HI5.out
 clear c4
 go_wp2_with fail
 refine (cI.out _).mono ?_
 rintro r w3 ⟨rfl, rfl⟩
 cases bI
 · have hm : i.imm = 0 := by simpa using HM.out
   have e4 : w3.cell? ⟨w, 4, none⟩ = I 0 := by have := AD HI5.out 4 rfl; rw [hm] at this; exact this
   clear c5
   go_wp2_with fail
   go_ret
   exact ⟨rfl, HB5.out⟩
 · have hm := HM.out
   simp only [if_true, Bool.and_eq_true, decide_eq_true_eq] at hm
   obtain ⟨m0, m1⟩ := hm
   go_wp2_with fail
   go_ret
   exact ⟨rfl, HB5.out⟩
theorem Hh : EO := by
 intro i hd w
 unfold CF at hd
 simp only [Bool.and_eq_true, beq_iff_eq] at hd
 obtain ⟨⟨hg, he⟩, hz⟩ := hd
 have hq := Rj he
 unfold UQ at hq
 have hG := Vw (fun w => Ii i hg w)
 obtain ⟨op, a, b, c, imm⟩ := i
 simp only [Ins.mk.injEq] at hq
 obtain ⟨q1, q2, q3, q4, q5⟩ := hq
 generalize BG ⟨op, a, b, c, imm⟩ = u at *
 clear hg he
 obtain ⟨W1, hE, hb1, hI1⟩ := alloc_new w (.cells #[I 0, I 0, I 0, I 0, I 0] 165)
 have HB1 := Vw (WA hb1 hI1)
 clear hb1 hI1
 go_enter func307, ntmps307
 go_wp2_with fail
 refine (hG.out _).mono ?_
 rintro r w3 ⟨rfl, hb3⟩
 have hA2 := AC W1 (.cells #[I op, I a, I b, I c, I imm] 165)
 have i1 := AB hb3 (AB hA2 HB1.out.2)
 have i2 := AB hb3 (AE W1 (.cells #[I op, I a, I b, I c, I imm] 165))
 have HB3 := Vw (show Below w w w3 from HB1.out.1.trans ((hA2.trans (hb3.mono hA2.size)).mono HB1.out.1.size))
 have c1 := AA i1
 have f1 := AJ i1
 have c2 := AA i2
 have HI := Vw i1
 have hne : W1.heap.size ≠ w.heap.size := by have := AF HB1.out.2; omega
 clear hb3 hA2 i1 i2
 go_wp2_with fail
 generalize hW : World.setCell _ ⟨w, 4, none⟩ _ = W9
 have hW' : World.setCells w3 w.heap.size 0 [I op, I a, I b, I c, I imm] = W9 := hW
 have hr9 : W9.heap[w.heap.size]? = some (.cells #[I op, I a, I b, I c, I imm] 165) := by rw [← hW']; exact AT _ HI.out 0 _ (by kernel_rfl)
 have hb9 : Below w w W9 := by rw [← hW']; exact Ac (Nat.le_refl _) _ HB3.out 0
 have c9 := AA hr9
 refine bodyPost_ret (v := .tuple #[.agg #[I op, I a, I b, I c, I imm], I 0]) (by simp [results, results307, go_sem, c9]) rfl ⟨rfl, hb9⟩
theorem Kw (i : Ins) (hd : CF i = true) (w : World) : Y 110 #[.agg i] w fun e w' => e = Z (.tuple #[U (BG i), I 0]) ∧ Below w w w' := by
 unfold CF at hd
 simp only [Bool.and_eq_true] at hd
 have hG := Vw (fun w => Ii i hd.1.1 w)
 clear hd
 obtain ⟨W1, hE, hb1, hI1⟩ := alloc_new w (.cells i 165)
 have c1 := AA hI1
 have HB1 := Vw (WA hb1 hI1)
 clear hb1 hI1
 go_enter func110, ntmps110
 go_wp2_with fail
 refine (hG.out _).mono ?_
 rintro r w3 ⟨rfl, hb3⟩
 have c3 := AA (AB hb3 HB1.out.2)
 have HB3 := Vw (HB1.out.1.trans (hb3.mono HB1.out.1.size))
 clear hb3 c1
 go_wp2_with fail
 go_ret2
 exact ⟨rfl, HB3.out⟩
def AX (l : List Int) : List Value := l.flatMap fun x => [U x]
theorem DK {w : World} {v : Value} {l : List Int} (hr : AH w 27 1 v l.length (AX l)) {j : Nat} {x : Int} (hx : l[j]? = some x) : ∃ g off AV, v = .slice (some ⟨g, off, none⟩) l.length AV ∧ l.length ≤ AV ∧ w.cell? ⟨g, off + j, none⟩ = U x := by
 obtain ⟨g, off, AV, hv, hc, _, h⟩ := AH.elem (f := fun x => [U x]) (size := 1) (fun _ => rfl) hr hx
 exact ⟨g, off, AV, hv, hc, by simpa using h 0 _ rfl⟩
theorem Mz (a b : List Int) (ha : a.length < 1000) (hb : b.length < 1000) (S1 S2 : Value) (w : World) (h1 : AH w 27 1 S1 a.length (AX a)) (h2 : AH w 27 1 S2 b.length (AX b)) : Y 13 #[S1, S2] w fun e w' => e = Z (.bool (decide (a = b))) ∧ Below w w w' := by
 have H1 := Vw h1
 have H2 := Vw h2
 obtain ⟨A1, cap1, rfl⟩ := h1.form
 obtain ⟨A2, cap2, rfl⟩ := h2.form
 clear h1 h2
 by_cases hlen : a.length = b.length
 · have HL := Vw hlen
   have hle : ((a.length : Int) == (b.length : Int)) = true := by simp [hlen]
   have HA := Vw ha
   clear hlen hb
   go_enter func13, ntmps13
   go_wp2_with fail
   go_loopw [5] (fun i W => ∃ j : Nat, j ≤ a.length ∧ i = I j ∧ (∀ m, m < j → a[m]? = b[m]?) ∧ Below w w W) (fun i W => a.length - (intOf i).toNat)
   case atStart => exact ⟨0, by omega, rfl, fun m hm => by omega, Below.refl _ _⟩
   case round =>
    obtain ⟨j, hj, rfl, hsame, hb⟩ := hrel
    have HB := Vw hb
    have HM := Vw hsame
    clear hb hsame
    by_cases hlt : j < a.length
    · obtain ⟨x, hx⟩ : ∃ x, a[j]? = some x := ⟨a[j], List.getElem?_eq_getElem hlt⟩
      have hlb : j < b.length := HL.out ▸ hlt
      obtain ⟨y, hy⟩ : ∃ y, b[j]? = some y := ⟨b[j], List.getElem?_eq_getElem hlb⟩
      obtain ⟨g1, o1, c1, hv1, hc1, e1⟩ := DK (H1.out.below HB.out) hx
      obtain ⟨g2, o2, c2, hv2, hc2, e2⟩ := DK (H2.out.below HB.out) hy
      cases hv1
      cases hv2
      have hlt' : (j : Int) < (a.length : Int) := by omega
      have hlb' : (j : Int) < (b.length : Int) := by omega
      have hj0 : (0 : Int) ≤ (j : Int) := by omega
      have HX := Vw (WA hx hy)
      clear hx hy hlb
      go_wp2_with fail
      go_quiet (fail)
      cases hq : (x == y)
      · go_wp2_with fail
        go_ret
        refine ⟨?_, EN HB.out _⟩
        have hne : a ≠ b := fun e => by
         have h3 := HX.out.1
         rw [e, HX.out.2] at h3
         cases h3
         simp at hq
        simp [hne]
      · go_wp2_with fail
        refine ⟨⟨j + 1, by omega, by simp, fun m hm => ?_, EN HB.out _⟩, by simp [intOf]; omega⟩
        by_cases hmj : m = j
        · subst hmj
          rw [HX.out.1, HX.out.2, eq_of_beq hq]
        · exact HM.out m (by omega)
    · obtain rfl : j = a.length := by omega
      go_wp2_with fail
      go_ret
      refine ⟨?_, HB.out⟩
      have he : a = b := List.ext_getElem? fun m => by
       by_cases hm : m < a.length
       · exact HM.out m hm
       · have := HL.out
         rw [List.getElem?_eq_none (by omega), List.getElem?_eq_none (by omega)]
      simp [he]
 · have hle : ((a.length : Int) == (b.length : Int)) = false := by simp; omega
   go_enter func13, ntmps13
   go_wp2_with fail
   go_ret
   refine ⟨?_, Below.refl _ _⟩
   have hne : a ≠ b := fun e => hlen (by rw [e])
   simp [hne]
theorem TA : (prog.info? 249).map (fun i => (i.zero, i.size, i.bytes)) = some (some (.agg (Ct 0).toArray), 10, 72) := by kernel_rfl
theorem Ko (n : Nat) (hn : n ≤ 4096) (w : World) : (Instr.makeSlice 135 (I n) (I n)).run prog w = .ok (.slice (some w) n n) (w.alloc (.cells (madeCells (Ct 0).toArray (n * 10)) 249)) := by
 obtain ⟨i, hi, hz, hs, hb⟩ := info_parts TA
 have hr := run_make (P := prog) w 135 249 i _ underlying135 hi hz .i64 .i64 n n (by omega) (Int.le_refl _) (by rw [hb]; omega) (by omega)
 simp only [Int.toNat_natCast, hs] at hr
 exact hr
theorem QM (n k q : Nat) (hk : k < n) {u : Value} (hu : (Ct 0)[q]? = some u) : (madeCells (Ct 0).toArray (n * 10))[k * 10 + q]? = some u := by
 have hq : q < 10 := (List.getElem?_eq_some_iff.1 hu).1
 have h1 : k * 10 + q < n * 10 := by omega
 have h2 : (k * 10 + q) % 10 = q := by omega
 simp only [madeCells, Array.getElem?_map, Array.getElem?_range, h1, if_true, Option.map_some]
 rw [show (Ct 0).toArray.size = 10 from rfl, h2]
 have : (Ct 0).toArray[q]? = some u := by simpa using hu
 simp [getElem!_def, this]
structure NewAt (w W : World) (cb pb gb : Nat) (id : Int) (l : List Ins) (j : Nat) : Prop where
 head : W.heap[cb]? = some (.cells (BY ⟨cb, pb, gb⟩ id (DY l)) 138)
 prog : ∃ cs, W.heap[pb]? = some (.cells cs 249) ∧ cs.size = l.length * 10 ∧ ∀ (k : Nat) (x : Ins), l[k]? = some x → ∀ q u, (Ct (if k < j then BG x else 0))[q]? = some u → cs[k * 10 + q]? = some u
 buf : Sb.SQ W gb 2 []
 bc : w.heap.size ≤ cb
 bp : w.heap.size ≤ pb
 bg : w.heap.size ≤ gb
 ngp : gb ≠ pb
 below : Below w w W
theorem NewAt.below' {w W W' : World} {cb pb gb : Nat} {id : Int} {l : List Ins} {j : Nat} (h : NewAt w W cb pb gb id l j) (hb : Below W W W') : NewAt w W' cb pb gb id l j := by
 obtain ⟨cs, h1, h2⟩ := h.prog
 exact ⟨AB hb h.head, ⟨cs, AB hb h1, h2⟩, h.buf.below hb, h.bc, h.bp, h.bg, h.ngp, h.below.trans (hb.mono h.below.size)⟩
theorem UT (u v : Int) : (Ct u).set 3 (U v) = Ct v := rfl
theorem NewAt.next {w W : World} {cb pb gb : Nat} {id : Int} {l : List Ins} {j : Nat} (h : NewAt w W cb pb gb id l j) {x : Ins} (hx : l[j]? = some x) : NewAt w (W.setCell ⟨pb, j * 10 + 3, none⟩ (U (BG x))) cb pb gb id l (j + 1) := by
 obtain ⟨cs, h1, h2, h3⟩ := h.prog
 have hcp : cb ≠ pb := AG h.head h1 (by decide)
 refine ⟨(Vz _ _ _ _ hcp).trans h.head, ⟨_, AI h1 _ _, by simpa using h2, fun k y hy q u hu => ?_⟩, h.buf.block (Vz _ _ _ _ h.ngp), h.bc, h.bp, h.bg, h.ngp, h.below.setCell (p := ⟨pb, j * 10 + 3, none⟩) h.bp _⟩
 have hq : q < 10 := (List.getElem?_eq_some_iff.1 hu).1
 have hkl : k < l.length := (List.getElem?_eq_some_iff.1 hy).1
 by_cases e : k = j
 · subst e
   rw [hx] at hy
   cases hy
   rw [if_pos (by omega)] at hu
   have h4 := h3 k x hx
   rw [if_neg (by omega)] at h4
   by_cases e3 : q = 3
   · subst e3
     rw [Array.getElem?_setIfInBounds_self_of_lt (by omega)]
     exact hu
   · rw [Array.getElem?_setIfInBounds_ne (by omega)]
     refine h4 q u ?_
     rw [← UT 0 (BG x), List.getElem?_set_ne (fun e => e3 e.symm)] at hu
     exact hu
 · rw [Array.getElem?_setIfInBounds_ne (by omega)]
   refine h3 k y hy q u ?_
   by_cases hlt : k < j
   · rw [if_pos (by omega)] at hu
     rw [if_pos hlt]
     exact hu
   · rw [if_neg (by omega)] at hu
     rw [if_neg hlt]
     exact hu
theorem NewAt.done {w W : World} {cb pb gb : Nat} {id : Int} {l : List Ins} (h : NewAt w W cb pb gb id l l.length) (hd : ∀ i ∈ l, CF i = true) : CoreAt W ⟨cb, pb, gb⟩ id (DY l) := by
 obtain ⟨cs, h1, h2, h3⟩ := h.prog
 refine ⟨h.head, rfl, ⟨cs, h1, h2, fun k i hi => ⟨hd i (List.mem_of_getElem? hi), .inl ?_⟩⟩, h.buf⟩
 have := h3 k i hi
 rw [if_pos (show k < l.length from (List.getElem?_eq_some_iff.1 hi).1)] at this
 exact this
theorem FQ (id : Int) (hid : AK id = true) (l : List Ins) (hl : l.length ≤ 4096) (hd : ∀ i ∈ l, CF i = true) (S : Value) (w : World) (hr : AH w 27 1 S l.length (AX (l.map BG))) : Y 70 #[I id, I 2, S] w fun e w' => ∃ cb pb gb, e = Z (.tuple #[.pointer (some ⟨cb, 0, none⟩), I 0]) ∧ CoreAt w' ⟨cb, pb, gb⟩ id (DY l) ∧ w.heap.size ≤ cb ∧ w.heap.size ≤ pb ∧ w.heap.size ≤ gb ∧ gb ≠ pb ∧ Below w w w' := by
 have hmk := Ko l.length hl
 have hnew := Vw (Sb.new_in 2 (by decide) (by decide) w)
 have hid2 : 0 ≤ id ∧ id < 8 := by rcases Aa hid with rfl | rfl <;> decide
 obtain ⟨d0, d1⟩ := hid2
 have hl' : (l.length : Int) ≤ 4096 := by omega
 have H := Vw hr
 have HD := Vw hd
 have hlm : (l.map BG).length = l.length := List.length_map ..
 have HM := Vw hlm
 obtain ⟨A, AV, rfl⟩ := hr.form
 clear hr hd hid hlm
 obtain ⟨W1, hE, hb1, -⟩ := alloc_new w (.cells (Sb.zb.setIfInBounds 80 (I 2)) 258)
 have hq1 : Sb.SQ W1 w.heap.size 2 [] := hE ▸ ⟨_, 0, Sb.new_buf w 2, by decide, by decide, by simp, fun i e h => by simp at h⟩
 obtain ⟨W2, hE2, hb2, hI2⟩ := alloc_new W1 (.cells (madeCells (Ct 0).toArray (l.length * 10)) 249)
 obtain ⟨W3, hE3, hb3, hI3⟩ := alloc_new W2 (.cells #[I id, U 0, U 0, U 0, U 0, U 0, U 0, U 0, U 0, I 0, .slice (some W1) l.length l.length, w.heap.size, I 0, true] 138)
 have HN := Vw (show NewAt w W3 W2.heap.size W1.heap.size w.heap.size id l 0 from ⟨hI3, ⟨_, AB hb3 hI2, size_madeCells _ _, fun k x hx q u hu => by rw [if_neg (by omega)] at hu; exact QM _ _ _ (List.getElem?_eq_some_iff.1 hx).1 hu⟩, (hq1.below hb2).below hb3, Vx hb1.size hb2.size, hb1.size, Nat.le_refl _, Nat.ne_of_lt hq1.lt, (hb1.trans (hb2.mono hb1.size)).trans (hb3.mono (Vx hb1.size hb2.size))⟩)
 clear hb1 hq1 hb2 hI2 hb3 hI3
 go_enter func70, ntmps70
 go_wp2_with fail
 refine hnew.out.mono ?_
 rintro e w1 ⟨rfl, rfl⟩
 go_wp2_with fail
 generalize W2.heap.size = cb at *
 generalize W1.heap.size = pb at *
 go_loopw [39] (fun i W => ∃ j : Nat, j ≤ l.length ∧ i = I j ∧ NewAt w W cb pb w.heap.size id l j) (fun i W => l.length - (intOf i).toNat)
 case atStart => exact ⟨0, by omega, rfl, HN.out⟩
 case round =>
  obtain ⟨j, hj, rfl, hn⟩ := hrel
  have HR := Vw hn
  have hh := hn.head
  unfold BY DY at hh
  have c1 := AA hh
  clear hn hh
  by_cases hlt : j < l.length
  · obtain ⟨x, hx⟩ : ∃ x, l[j]? = some x := ⟨l[j], List.getElem?_eq_getElem hlt⟩
    have hx' : (l.map BG)[j]? = some (BG x) := by simp [hx]
    obtain ⟨g, off, cap', hv, hc1, e0⟩ := DK (by rw [HM.out]; exact H.out.below HR.out.below) hx'
    rw [HM.out] at hv
    cases hv
    have hlt' : (j : Int) < (l.length : Int) := by omega
    have hj0 : (0 : Int) ≤ (j : Int) := by omega
    obtain ⟨cs, p1, p2, p3⟩ := HR.out.prog
    have hlc : j * 10 + 3 < cs.size := by omega
    obtain ⟨u, hu⟩ : ∃ u, cs[j * 10 + 3]? = some u := ⟨cs[j * 10 + 3], Array.getElem?_eq_getElem hlc⟩
    have d3 : wr.cell? ⟨pb, j * 10 + 3, none⟩ = some u := AD p1 _ hu
    have f3 := AJ p1
    have HN2 := Vw (HR.out.next hx)
    clear p1 p2 p3 hu hx hx'
    go_wp2_with fail
    exact ⟨⟨j + 1, by omega, by simp, HN2.out⟩, by simp [intOf]; omega⟩
  · obtain rfl : j = l.length := by omega
    go_wp2_with fail
    go_ret2
    first
     | exact ⟨cb, pb, w.heap.size, rfl, HR.out.done HD.out, HR.out.bc, HR.out.bp, HR.out.bg, HR.out.ngp, HR.out.below⟩
     | exact ⟨cb, rfl, pb, w.heap.size, HR.out.done HD.out, HR.out.bc, HR.out.bp, HR.out.bg, HR.out.ngp, HR.out.below⟩
end Go.Proofs.YtkoplblbeapfgaaGreatDoor
