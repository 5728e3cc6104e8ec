/-
Parts of the walk of TopEnds. Conditions stand in each statement.
-/
import Derived.Test.YtkoplblbeapfgaaGreatDoorX13
namespace Go.Proofs.YtkoplblbeapfgaaGreatDoor
open Go.RowKit
open Tryz
set_option linter.all false
set_option maxRecDepth 100000
set_option maxHeartbeats 8000000
theorem QL (T0 : Nat → Nat) (w0 : World) (L : SL) (s : Sys) (i : Int) (hi : AK i = true) (hq : (s.node i).ans = []) (w : World) (h : Sy T0 w0 L s w) : Y 226 #[L.sb, I i] w fun e w' => (∃ r, e = Z (I r)) ∧ Sy T0 w0 L s w' := by
 have hat := Vw (Bi T0 w0 L s i hi)
 have hhd := Vw (fun w h => JT T0 w0 L s i 2 hi (by decide) hq w h)
 simp only [show qo i 2 = qo i 0 + 2 from rfl, Msg.cells, Ln.zero] at hhd
 have H := Vw h
 clear h
 generalize ho : qo i 0 = o at *
 go_enter func226, ntmps226
 go_wp2_with fail
 refine (hat.out _ H.out).mono ?_
 rintro e w1 ⟨rfl, h1⟩
 have H1 := Vw h1
 clear h1
 go_wp2_with fail
 refine (hhd.out _ H1.out).mono ?_
 rintro e w2 ⟨rfl, h2⟩
 have H2 := Vw (h2.below (AC w2 (.cells KB 253)))
 clear h2
 go_wp2_with fail
 go_ret
 exact ⟨⟨_, rfl⟩, H2.out⟩
theorem QK (T0 : Nat → Nat) (w0 : World) (L : SL) (s : Sys) (i : Int) (hi : AK i = true) (m : Msg) (l : List Msg) (hq : (s.node i).ans = m :: l) (hk : BQ m.line = true) (s1 : Sys) (hs1 : s.setq i 2 l = s1) (e2 : Ent) (out : List Send) (ha : IU (s1.ent m.line) i m = some (e2, out)) (hok : LM (s1.ent m.line) i m = true) (s' : Sys) (hr : ((s1.setEnt m.line e2).sends m.line out) = some s') (w : World) (h : Sy T0 w0 L s w) : Y 226 #[L.sb, I i] w fun e w' => (∃ r, e = Z (I r)) ∧ Sy T0 w0 L s' w' := by
 have hat := Vw (Bi T0 w0 L s i hi)
 have hhd := Vw (fun w h => OR T0 w0 L s i 2 m l hi (by decide) hq w h)
 rw [hs1] at hhd
 have hsd := Vw (fun T0 w0 S w hrow h => Ff T0 w0 L (s1.setEnt m.line e2) m.line out s' hr S w hrow h)
 have hak := Vw (fun w => Kz (s1.ent m.line) i m e2 out ha hok w)
 have HM := Vw (show ∀ (T0 : Nat → Nat) (w0 w : World), Sy T0 w0 L s1 w → Sy T0 w0 L (s1.setEnt m.line e2) (w.setCells L.db (m.line.toNat * 15) e2.cells) from fun T0 w0 w h => h.put_all hk e2)
 simp only [show qo i 2 = qo i 0 + 2 from rfl, Msg.cells, Ent.cells] at hhd hak
 have H := Vw h
 obtain ⟨k0, k1⟩ := BD hk
 clear h ha hr hq hs1
 generalize ho : qo i 0 = o at *
 go_enter func226, ntmps226
 go_wp2_with fail
 refine (hat.out _ H.out).mono ?_
 rintro e w1 ⟨rfl, h1⟩
 have H1 := Vw h1
 clear h1
 go_wp2_with fail
 refine (hhd.out _ H1.out).mono ?_
 rintro e w2 ⟨rfl, h2⟩
 obtain ⟨W3, hE, hb3, hI3⟩ := alloc_new w2 (.cells m 253)
 obtain ⟨T, hS, hfr, _, hback⟩ := h2.fresh hb3
 have HK := Vw hback
 have hT := hfr w2.heap.size (Nat.le_refl _)
 have H3 := Vw hS
 have HI := Vw hI3
 have h5 := hS
 have HI5 := HI
 have H5 := Vw h5
 have HN := Vw (show w2.heap.size ≠ L.db from fun e => by
  obtain ⟨T', V', h', _, _⟩ := h5
  exact AG HI.out h'.dir (by decide) e)
 have c8 := h5.dirp.1
 have x0 : W3.cell? ⟨L.db, m.line.toNat * 15, none⟩ = some (.bool (s1.ent m.line).here) := h5.ent_cell hk 0 _ rfl
 have x1 : W3.cell? ⟨L.db, m.line.toNat * 15 + 1, none⟩ = some (.bool (s1.ent m.line).dirty) := h5.ent_cell hk 1 _ rfl
 have x2 : W3.cell? ⟨L.db, m.line.toNat * 15 + 2, none⟩ = some (U (s1.ent m.line).data.a) := h5.ent_cell hk 2 _ rfl
 have x3 : W3.cell? ⟨L.db, m.line.toNat * 15 + 3, none⟩ = some (U (s1.ent m.line).data.b) := h5.ent_cell hk 3 _ rfl
 have x4 : W3.cell? ⟨L.db, m.line.toNat * 15 + 4, none⟩ = some (U (s1.ent m.line).data.c) := h5.ent_cell hk 4 _ rfl
 have x5 : W3.cell? ⟨L.db, m.line.toNat * 15 + 5, none⟩ = some (U (s1.ent m.line).data.d) := h5.ent_cell hk 5 _ rfl
 have x6 : W3.cell? ⟨L.db, m.line.toNat * 15 + 6, none⟩ = some (U (s1.ent m.line).data.e) := h5.ent_cell hk 6 _ rfl
 have x7 : W3.cell? ⟨L.db, m.line.toNat * 15 + 7, none⟩ = some (U (s1.ent m.line).data.f) := h5.ent_cell hk 7 _ rfl
 have x8 : W3.cell? ⟨L.db, m.line.toNat * 15 + 8, none⟩ = some (U (s1.ent m.line).data.g) := h5.ent_cell hk 8 _ rfl
 have x9 : W3.cell? ⟨L.db, m.line.toNat * 15 + 9, none⟩ = some (U (s1.ent m.line).data.h) := h5.ent_cell hk 9 _ rfl
 have x10 : W3.cell? ⟨L.db, m.line.toNat * 15 + 10, none⟩ = some (I (s1.ent m.line).owner) := h5.ent_cell hk 10 _ rfl
 have x11 : W3.cell? ⟨L.db, m.line.toNat * 15 + 11, none⟩ = some (.int .u8 (s1.ent m.line).share) := h5.ent_cell hk 11 _ rfl
 have x12 : W3.cell? ⟨L.db, m.line.toNat * 15 + 12, none⟩ = some (I (s1.ent m.line).busy) := h5.ent_cell hk 12 _ rfl
 have x13 : W3.cell? ⟨L.db, m.line.toNat * 15 + 13, none⟩ = some (I (s1.ent m.line).who) := h5.ent_cell hk 13 _ rfl
 have x14 : W3.cell? ⟨L.db, m.line.toNat * 15 + 14, none⟩ = some (.int .u8 (s1.ent m.line).wait) := h5.ent_cell hk 14 _ rfl
 have c5 := AA HI5.out
 have hlt5 := AF HI5.out
 have hltb := World.block_lt_of_cell? (w := W3) (a := ⟨L.sb, 8, none⟩) c8
 have hltd := World.block_lt_of_cell? (w := W3) (a := ⟨L.db, m.line.toNat * 15, none⟩) x0
 simp only at hltb hltd
 clear h2 hback hfr hI3 hb3 H1 H3
 have HS := Vw (show ∀ w' : World, Below W3 W3 w' → w'.cell? ⟨L.sb, 8, none⟩ = some (.slice (some L.db) 5 5) ∧ w'.cell? ⟨L.db, m.line.toNat * 15, none⟩ = some (.bool (s1.ent m.line).here) ∧ w'.cell? ⟨L.db, m.line.toNat * 15 + 1, none⟩ = some (.bool (s1.ent m.line).dirty) ∧ w'.cell? ⟨L.db, m.line.toNat * 15 + 2, none⟩ = some (U (s1.ent m.line).data.a) ∧ w'.cell? ⟨L.db, m.line.toNat * 15 + 3, none⟩ = some (U (s1.ent m.line).data.b) ∧ w'.cell? ⟨L.db, m.line.toNat * 15 + 4, none⟩ = some (U (s1.ent m.line).data.c) ∧ w'.cell? ⟨L.db, m.line.toNat * 15 + 5, none⟩ = some (U (s1.ent m.line).data.d) ∧ w'.cell? ⟨L.db, m.line.toNat * 15 + 6, none⟩ = some (U (s1.ent m.line).data.e) ∧ w'.cell? ⟨L.db, m.line.toNat * 15 + 7, none⟩ = some (U (s1.ent m.line).data.f) ∧ w'.cell? ⟨L.db, m.line.toNat * 15 + 8, none⟩ = some (U (s1.ent m.line).data.g) ∧ w'.cell? ⟨L.db, m.line.toNat * 15 + 9, none⟩ = some (U (s1.ent m.line).data.h) ∧ w'.cell? ⟨L.db, m.line.toNat * 15 + 10, none⟩ = some (I (s1.ent m.line).owner) ∧ w'.cell? ⟨L.db, m.line.toNat * 15 + 11, none⟩ = some (.int .u8 (s1.ent m.line).share) ∧ w'.cell? ⟨L.db, m.line.toNat * 15 + 12, none⟩ = some (I (s1.ent m.line).busy) ∧ w'.cell? ⟨L.db, m.line.toNat * 15 + 13, none⟩ = some (I (s1.ent m.line).who) ∧ w'.cell? ⟨L.db, m.line.toNat * 15 + 14, none⟩ = some (.int .u8 (s1.ent m.line).wait) ∧ w'.cell? w2 = I m.kind ∧ w'.cell? ⟨w2, 1, none⟩ = I m.line ∧ w'.cell? ⟨w2, 2, none⟩ = m.dirty ∧ w'.cell? ⟨w2, 3, none⟩ = m.kept ∧ w'.cell? ⟨w2, 4, none⟩ = U m.data.a ∧ w'.cell? ⟨w2, 5, none⟩ = U m.data.b ∧ w'.cell? ⟨w2, 6, none⟩ = U m.data.c ∧ w'.cell? ⟨w2, 7, none⟩ = U m.data.d ∧ w'.cell? ⟨w2, 8, none⟩ = U m.data.e ∧ w'.cell? ⟨w2, 9, none⟩ = U m.data.f ∧ w'.cell? ⟨w2, 10, none⟩ = U m.data.g ∧ w'.cell? ⟨w2, 11, none⟩ = U m.data.h from fun w' hb => ⟨(h5.below hb).dirp.1, (h5.below hb).ent_cell hk 0 _ rfl, (h5.below hb).ent_cell hk 1 _ rfl, (h5.below hb).ent_cell hk 2 _ rfl, (h5.below hb).ent_cell hk 3 _ rfl, (h5.below hb).ent_cell hk 4 _ rfl, (h5.below hb).ent_cell hk 5 _ rfl, (h5.below hb).ent_cell hk 6 _ rfl, (h5.below hb).ent_cell hk 7 _ rfl, (h5.below hb).ent_cell hk 8 _ rfl, (h5.below hb).ent_cell hk 9 _ rfl, (h5.below hb).ent_cell hk 10 _ rfl, (h5.below hb).ent_cell hk 11 _ rfl, (h5.below hb).ent_cell hk 12 _ rfl, (h5.below hb).ent_cell hk 13 _ rfl, (h5.below hb).ent_cell hk 14 _ rfl, AD (AB hb HI5.out) 0 rfl, AD (AB hb HI5.out) 1 rfl, AD (AB hb HI5.out) 2 rfl, AD (AB hb HI5.out) 3 rfl, AD (AB hb HI5.out) 4 rfl, AD (AB hb HI5.out) 5 rfl, AD (AB hb HI5.out) 6 rfl, AD (AB hb HI5.out) 7 rfl, AD (AB hb HI5.out) 8 rfl, AD (AB hb HI5.out) 9 rfl, AD (AB hb HI5.out) 10 rfl, AD (AB hb HI5.out) 11 rfl⟩)
 clear h5 hS
 go_wp2_with fail
 have hd0 : Below W3 W3 W3.drew := (Below.refl _ _).drew
 have hd1 : Below W3 W3 ((W3.alloc (.cells KC 114)).drew) := (AC W3 _).drew
 go_region_held3 (fun w' => w'.cell? ⟨L.sb, 8, none⟩ = some (.slice (some L.db) 5 5) ∧ w'.cell? ⟨L.db, m.line.toNat * 15, none⟩ = some (.bool (s1.ent m.line).here) ∧ w'.cell? ⟨L.db, m.line.toNat * 15 + 1, none⟩ = some (.bool (s1.ent m.line).dirty) ∧ w'.cell? ⟨L.db, m.line.toNat * 15 + 2, none⟩ = some (U (s1.ent m.line).data.a) ∧ w'.cell? ⟨L.db, m.line.toNat * 15 + 3, none⟩ = some (U (s1.ent m.line).data.b) ∧ w'.cell? ⟨L.db, m.line.toNat * 15 + 4, none⟩ = some (U (s1.ent m.line).data.c) ∧ w'.cell? ⟨L.db, m.line.toNat * 15 + 5, none⟩ = some (U (s1.ent m.line).data.d) ∧ w'.cell? ⟨L.db, m.line.toNat * 15 + 6, none⟩ = some (U (s1.ent m.line).data.e) ∧ w'.cell? ⟨L.db, m.line.toNat * 15 + 7, none⟩ = some (U (s1.ent m.line).data.f) ∧ w'.cell? ⟨L.db, m.line.toNat * 15 + 8, none⟩ = some (U (s1.ent m.line).data.g) ∧ w'.cell? ⟨L.db, m.line.toNat * 15 + 9, none⟩ = some (U (s1.ent m.line).data.h) ∧ w'.cell? ⟨L.db, m.line.toNat * 15 + 10, none⟩ = some (I (s1.ent m.line).owner) ∧ w'.cell? ⟨L.db, m.line.toNat * 15 + 11, none⟩ = some (.int .u8 (s1.ent m.line).share) ∧ w'.cell? ⟨L.db, m.line.toNat * 15 + 12, none⟩ = some (I (s1.ent m.line).busy) ∧ w'.cell? ⟨L.db, m.line.toNat * 15 + 13, none⟩ = some (I (s1.ent m.line).who) ∧ w'.cell? ⟨L.db, m.line.toNat * 15 + 14, none⟩ = some (.int .u8 (s1.ent m.line).wait) ∧ w'.cell? w2 = I m.kind ∧ w'.cell? ⟨w2, 1, none⟩ = I m.line ∧ w'.cell? ⟨w2, 2, none⟩ = m.dirty ∧ w'.cell? ⟨w2, 3, none⟩ = m.kept ∧ w'.cell? ⟨w2, 4, none⟩ = U m.data.a ∧ w'.cell? ⟨w2, 5, none⟩ = U m.data.b ∧ w'.cell? ⟨w2, 6, none⟩ = U m.data.c ∧ w'.cell? ⟨w2, 7, none⟩ = U m.data.d ∧ w'.cell? ⟨w2, 8, none⟩ = U m.data.e ∧ w'.cell? ⟨w2, 9, none⟩ = U m.data.f ∧ w'.cell? ⟨w2, 10, none⟩ = U m.data.g ∧ w'.cell? ⟨w2, 11, none⟩ = U m.data.h) (first | with_reducible exact HS.out _ hd0 | with_reducible exact HS.out _ hd1 | with_reducible exact HS.out _ hk6 | with_reducible exact HS.out _ hk7 | (refine HS.out _ ?_; repeat (refine Below.setCell ?_ (by exact hle8) _; try with_reducible (first | exact hk6 | exact hk7)))) (first
  | (go_at_call 272; refine (hak.out ((W3.alloc (.cells KC 114)).drew)).mono ?_; rintro e w6 ⟨S, rfl, hr6, hS6, hb6⟩; have hA6 := (AC W3 (.cells KC 114)).drew; have hk6 := hA6.trans (hb6.mono hA6.size); have hle8 : W3.heap.size ≤ W3.heap.size := Nat.le_refl _; have hI6 := AB hb6 (show ((W3.alloc (.cells KC 114)).drew).heap[W3.heap.size]? = _ from AE W3 (.cells KC 114)); have c7 := AA hI6; have f7 := AJ hI6; have HB7 := Vw (WA (hA6.trans (hb6.mono hA6.size)) (WA hr6 (WA (fun k hk => Vx hA6.size (hS6 k hk)) hI6))); clear hr6 hS6 hb6 hA6 hI6)
  | (go_at_call 272; refine (hak.out W3.drew).mono ?_; rintro e w6 ⟨S, rfl, hr6, hS6, hb6⟩; have hk6 : Below W3 W3 w6 := (Below.refl _ _).drew.trans hb6; have hle8 : W3.heap.size ≤ w6.heap.size := hb6.size; obtain ⟨W7, hE7⟩ : ∃ W, w6.alloc (.cells KC 114) = W := ⟨_, rfl⟩; have hI7 : W7.heap[w6.heap.size]? = some (.cells KC 114) := hE7 ▸ AE w6 _; have hb7 : Below w6 w6 W7 := hE7 ▸ AC w6 _; have HB7 := Vw (WA (show Below W3 W3 W7 from (Below.refl _ _).drew.trans (hb6.trans (hb7.mono hb6.size))) (WA (hr6.below hb7) (WA (show ∀ k, S.ownBlock = some k → W3.heap.size ≤ k from hS6) hI7))); have hk7 : Below W3 W3 W7 := (Below.refl _ _).drew.trans (hb6.trans (hb7.mono hb6.size)); have c7 := AA hI7; have f7 := AJ hI7; clear hI7 hb7 hr6 hS6))
 all_goals
  generalize hW : World.setCell _ ⟨_, 14, none⟩ _ = W8
  obtain ⟨p8, hp8⟩ := ub hle8
  obtain ⟨q1, q2, q3, q4⟩ := HB7.out
  have hI8 : W8.heap[p8]? = some (.cells e2 114) := by rw [← hp8, ← hW]; exact AT [.bool e2.here, .bool e2.dirty, U e2.data.a, U e2.data.b, U e2.data.c, U e2.data.d, U e2.data.e, U e2.data.f, U e2.data.g, U e2.data.h, I e2.owner, .int .u8 e2.share, I e2.busy, I e2.who, .int .u8 e2.wait] q4 0 _ (by kernel_rfl)
  have hb8 : Below W3 W3 W8 := by rw [← hW]; exact Ac hle8 [.bool e2.here, .bool e2.dirty, U e2.data.a, U e2.data.b, U e2.data.c, U e2.data.d, U e2.data.e, U e2.data.f, U e2.data.g, U e2.data.h, I e2.owner, .int .u8 e2.share, I e2.busy, I e2.who, .int .u8 e2.wait] q1 0
  have hr8 : AH W8 428 13 S out.length (BM out) := by
   rw [← hW]
   refine q2.kept fun k hk => ?_
   obtain ⟨cs', h'⟩ := q2.type k hk
   exact AR (AG h' q4 (by decide)) [.bool e2.here, .bool e2.dirty, U e2.data.a, U e2.data.b, U e2.data.c, U e2.data.d, U e2.data.e, U e2.data.f, U e2.data.g, U e2.data.h, I e2.owner, .int .u8 e2.share, I e2.busy, I e2.who, .int .u8 e2.wait] _ 0
  clear hW
  obtain ⟨T8, hS8, hfr8, hk8, hback8⟩ := H5.out.fresh hb8
  have HT8 := Vw (show T8 p8 = 0 ∧ T8 w2.heap.size = 0 ∧ (∀ k, S.ownBlock = some k → T8 k = 0) from ⟨hp8 ▸ hfr8 _ hle8, (hk8 _ (AF HI.out)).trans hT, fun k hk => hfr8 _ (q3 k hk)⟩)
  subst hp8
  have HI8 := Vw (WA hI8 (WA (AB hb8 HI5.out) hr8))
  have H8 := Vw hS8
  have HK8 := Vw (fun s' w' h' => HK.out s' w' (hback8 s' w' h'))
  obtain ⟨A8, cq8, rfl⟩ := hr8.form
  clear hI8 hb8 hr8 hS8 hfr8 hk8 hback8 q1 q2 q3 q4 c7 f7 hk6 hle8
  go_wp2_with fail
  have h9 := H8.out
  have c8 := h9.dirp.1
  have f9 := h9.free.1
  have y0 : W8.cell? ⟨L.db, m.line.toNat * 15, none⟩ = some (.bool (s1.ent m.line).here) := h9.ent_cell hk 0 _ rfl
  have y1 : W8.cell? ⟨L.db, m.line.toNat * 15 + 1, none⟩ = some (.bool (s1.ent m.line).dirty) := h9.ent_cell hk 1 _ rfl
  have y2 : W8.cell? ⟨L.db, m.line.toNat * 15 + 2, none⟩ = some (U (s1.ent m.line).data.a) := h9.ent_cell hk 2 _ rfl
  have y3 : W8.cell? ⟨L.db, m.line.toNat * 15 + 3, none⟩ = some (U (s1.ent m.line).data.b) := h9.ent_cell hk 3 _ rfl
  have y4 : W8.cell? ⟨L.db, m.line.toNat * 15 + 4, none⟩ = some (U (s1.ent m.line).data.c) := h9.ent_cell hk 4 _ rfl
  have y5 : W8.cell? ⟨L.db, m.line.toNat * 15 + 5, none⟩ = some (U (s1.ent m.line).data.d) := h9.ent_cell hk 5 _ rfl
  have y6 : W8.cell? ⟨L.db, m.line.toNat * 15 + 6, none⟩ = some (U (s1.ent m.line).data.e) := h9.ent_cell hk 6 _ rfl
  have y7 : W8.cell? ⟨L.db, m.line.toNat * 15 + 7, none⟩ = some (U (s1.ent m.line).data.f) := h9.ent_cell hk 7 _ rfl
  have y8 : W8.cell? ⟨L.db, m.line.toNat * 15 + 8, none⟩ = some (U (s1.ent m.line).data.g) := h9.ent_cell hk 8 _ rfl
  have y9 : W8.cell? ⟨L.db, m.line.toNat * 15 + 9, none⟩ = some (U (s1.ent m.line).data.h) := h9.ent_cell hk 9 _ rfl
  have y10 : W8.cell? ⟨L.db, m.line.toNat * 15 + 10, none⟩ = some (I (s1.ent m.line).owner) := h9.ent_cell hk 10 _ rfl
  have y11 : W8.cell? ⟨L.db, m.line.toNat * 15 + 11, none⟩ = some (.int .u8 (s1.ent m.line).share) := h9.ent_cell hk 11 _ rfl
  have y12 : W8.cell? ⟨L.db, m.line.toNat * 15 + 12, none⟩ = some (I (s1.ent m.line).busy) := h9.ent_cell hk 12 _ rfl
  have y13 : W8.cell? ⟨L.db, m.line.toNat * 15 + 13, none⟩ = some (I (s1.ent m.line).who) := h9.ent_cell hk 13 _ rfl
  have y14 : W8.cell? ⟨L.db, m.line.toNat * 15 + 14, none⟩ = some (.int .u8 (s1.ent m.line).wait) := h9.ent_cell hk 14 _ rfl
  have hN := HN.out
  have c9 := AA (h9.stays HT8.out.1 HI8.out.1)
  have d9 := AA (h9.stays HT8.out.2.1 HI8.out.2.1)
  have H9 := Vw h9
  clear h9
  go_still_tail 8, (by kernel_rfl)
  change wpList _ _ _ _ _ W8.drew
  go_wp2_with fail
  generalize hW : World.setCell _ ⟨L.db, m.line.toNat * 15 + 14, none⟩ _ = W11
  have h11 := Vw (show Sy T8 W8 L _ W11.drew from Sy.drew (by rw [← hW]; exact HM.out _ _ _ H9.out))
  clear hW
  refine (hsd.out _ _ _ _ (HI8.out.2.2.kept fun k hk => ?_) h11.out).mono ?_
  · obtain ⟨T', V', h', hb', hc'⟩ := h11.out
    exact hc'.block k (HI8.out.2.2.lt k hk) (by simp [HT8.out.2.2 k hk])
  rintro e w12 ⟨rfl, h12⟩
  have H12 := Vw h12
  clear h12
  go_wp2_with fail
  go_ret
  exact ⟨⟨_, rfl⟩, HK8.out _ _ H12.out⟩
end Go.Proofs.YtkoplblbeapfgaaGreatDoor
