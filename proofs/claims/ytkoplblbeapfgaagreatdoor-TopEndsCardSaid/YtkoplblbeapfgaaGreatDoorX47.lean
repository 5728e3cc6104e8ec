/-
Parts of the walk of TopEnds. Conditions stand in each statement.
-/
import Derived.Test.YtkoplblbeapfgaaGreatDoorX09
namespace Go.Proofs.YtkoplblbeapfgaaGreatDoor
open Go.RowKit
open Tryz
set_option linter.all false
set_option maxRecDepth 100000
set_option maxHeartbeats 8000000
theorem dans_me (dirty : Bool) (data : Ln) (share who wait by_ l : Int) (md : Bool) (dat : Ln) (hg : Ent.good ⟨true, dirty, data, by_, share, 2, who, wait⟩ = true) (hb : AK by_ = true) (hm : BJ ⟨6, l, md, false, dat⟩ = true) (hh : MJ wait by_ = true) (hw : bits .andNot .u8 wait (Ax by_) = 0) (e2 : Ent) (out : List Send)
 (h2 : FO (Jb (Dj ⟨true, dirty, data, by_, share, 2, who, wait⟩ by_ ⟨6, l, md, false, dat⟩)) l who 10 = (e2, out)) (w : World) :
 Y 272 #[.agg (Ent.cells ⟨true, dirty, data, by_, share, 2, who, wait⟩).toArray, I by_, .agg (Msg.cells ⟨6, l, md, false, dat⟩)] w fun r w' => ∃ S, r = Z (.tuple #[.agg e2.cells.toArray, S, I 0]) ∧ AH w' 428 13 S out.length (BM out) ∧ (∀ k, S.ownBlock = some k → w.heap.size ≤ k) ∧ Below w w w' := by
 have hgd := Gx _ hg
 have hmg := CB _ hm
 have hco := GK by_ hb
 have hbit := Cu by_ (by rw [hb]; rfl)
 have hak := Hi 6 (by decide)
 have hhas := Ox wait by_ (by simp only [Ent.good, Bool.and_eq_true] at hg; exact hg.1.1.1.2) hb
 rw [hh] at hhas
 simp only [Ent.cells, Msg.cells] at hgd hmg ⊢
 show Y 272 #[.agg #[true, dirty, data.a, data.b, data.c, data.d, data.e, data.f, data.g, data.h, I by_, .int .u8 share, I 2, I who, .int .u8 wait], _, _] w _
 obtain ⟨W1, hE1, hb1, hI1⟩ := alloc_new w (.cells #[true, dirty, data.a, data.b, data.c, data.d, data.e, data.f, data.g, data.h, I by_, .int .u8 share, I 2, I who, .int .u8 wait] 114)
 obtain ⟨W2, hE2, hb2, hI2⟩ := alloc_new W1 (.cells #[I 6, I l, md, false, dat.a, dat.b, dat.c, dat.d, dat.e, dat.f, dat.g, dat.h] 253)
 obtain ⟨W3, hE3, hb3, hI3⟩ := alloc_new W2 (.cells KC 114)
 have HB := Vw (hb1.trans ((hb2.trans (hb3.mono hb2.size)).mono hb1.size))
 have HI1 := Vw (AB hb3 (AB hb2 hI1))
 have HI2 := Vw (AB hb3 hI2)
 have HI3 := Vw hI3
 have HS := Vw (Vx hb1.size hb2.size)
 have HH := Vw h2
 have c1 := AA HI1.out
 have c2 := AA HI2.out
 clear hb1 hb2 hb3 hI1 hI2 hI3 hg hm hh h2
 go_enter func272, ntmps272
 go_wp2_with fail
 refine (hgd _).mono ?_
 rintro r w4 ⟨rfl, hb4⟩
 replace HI1 := Vw (AB hb4 HI1.out)
 replace HI2 := Vw (AB hb4 HI2.out)
 replace HI3 := Vw (AB hb4 HI3.out)
 replace HB := Vw (HB.out.trans (hb4.mono HB.out.size))
 replace c2 := AA HI2.out
 clear hE1 hE2 hE3 hb4 c1 hgd
 go_wp2_with fail
 refine (hco _).mono ?_
 rintro r w5 ⟨rfl, rfl⟩
 go_wp2_with fail
 refine (hmg _).mono ?_
 rintro r w5 ⟨rfl, hb5⟩
 replace HI1 := Vw (AB hb5 HI1.out)
 replace HI2 := Vw (AB hb5 HI2.out)
 replace HI3 := Vw (AB hb5 HI3.out)
 replace HB := Vw (HB.out.trans (hb5.mono HB.out.size))
 replace c2 := AA HI2.out
 have c1 := AA HI1.out
 clear hb5 hmg hco
 go_wp2_with fail
 refine (hak _).mono ?_
 rintro r w6 ⟨rfl, rfl⟩
 clear hak
 go_wp2_with fail
 refine (hhas _).mono ?_
 rintro r w6 ⟨rfl, rfl⟩
 clear hhas
 go_wp2_with fail
 have hm6 : Mv w5 w5.heap.size ⟨true, dirty, data, by_, share, 2, who, wait⟩ l [] (w5.alloc (.cells (Bq ⟨true, dirty, data, by_, share, 2, who, wait⟩ l (.slice none 0 0)) 423)) := ⟨_, AE w5 _, AH.nil _ _ _, Nat.le_refl _, by simp [Value.ownBlock], AC w5 _⟩
 have hb6 := AC w5 (.cells (Bq ⟨true, dirty, data, by_, share, 2, who, wait⟩ l (.slice none 0 0)) 423)
 unfold Bq at hm6 hb6
 generalize w5.alloc (.cells #[.bool true, .bool dirty, U data.a, U data.b, U data.c, U data.d, U data.e, U data.f, U data.g, U data.h, I by_, .int .u8 share, I 2, I who, .int .u8 wait, I l, .slice none 0 0] 423) = W6 at *
 have G := Vw hm6
 have HN2 := Vw (AB hb6 HI2.out)
 clear c1 c2 hm6 hb6
 obtain ⟨S, hS, hS2⟩ := id G.out
 have c := AA hS
 unfold Bq at c
 have f := AJ hS
 have hlt := AF hS
 clear hS hS2
 go_still_tail 11, (by kernel_rfl)
 refine DC (by rfl) 325 #[I by_] (by go_simp) (.int .u8 (Ax by_)) ((hbit _).mono ?_) ?_
 · rintro r w1 ⟨rfl, rfl⟩
   exact ⟨rfl, rfl⟩
 repeat still_step
 refine wpStill_nil ?_
 change wpList _ _ _ _ _ W6.drew
 replace G := Vw (G.out.below (Below.refl W6.heap.size W6).drew)
 replace HN2 := Vw (show W6.drew.heap[W1.heap.size]? = some (.cells #[I 6, I l, md, false, dat.a, dat.b, dat.c, dat.d, dat.e, dat.f, dat.g, dat.h] 253) from HN2.out)
 generalize W6.drew = W7 at *
 clear c f hlt
 obtain ⟨S, hS, hS2⟩ := id G.out
 have c := AA hS
 unfold Bq at c
 have f := AJ hS
 have hlt := AF hS
 clear hS hS2
 have c2 := AA HN2.out
 have hne : w5.heap.size ≠ W1.heap.size := by
  obtain ⟨S, hS, _⟩ := G.out
  exact AG hS HN2.out (by decide)
 have hne2 := Ne.symm hne
 go_wp2_with fail
 replace G := Vw (G.out.put (e' := ⟨true, dirty, data, by_, share, 2, who, 0⟩) [.int .u8 0] 14 (fun S => by kernel_rfl))
 refine (FG ⟨6, l, md, false, dat⟩ _ G.out).mono ?_
 rintro r w8 ⟨rfl, g⟩
 obtain ⟨d3, x3, hform⟩ : ∃ d3 x3, FC ⟨true, dirty, data, by_, share, 2, who, 0⟩ ⟨6, l, md, false, dat⟩ = ⟨true, d3, x3, by_, share, 2, who, 0⟩ := by cases md <;> exact ⟨_, _, rfl⟩
 rw [hform] at g
 replace G := Vw g
 replace HN2 := Vw (AB g.bel HI2.out)
 have HF := Vw hform
 clear g hform c f hlt c2
 obtain ⟨S, hS, hS2⟩ := id G.out
 have c := AA hS
 unfold Bq at c
 have f := AJ hS
 have hlt := AF hS
 clear hS hS2
 have c2 := AA HN2.out
 go_wp2_with fail
 replace G := Vw (G.out.put (e' := ⟨true, d3, x3, -1, share, 2, who, 0⟩) [I (-1)] 10 (fun S => by kernel_rfl))
 replace HN2 := Vw ((Vz w8 ⟨w5, 10, none⟩ (I (-1)) W1.heap.size hne2).trans HN2.out)
 generalize hW9 : w8.setCell ⟨w5, 10, none⟩ (I (-1)) = w9 at *
 replace G := Vw (show Mv w5 w5.heap.size ⟨true, d3, x3, -1, share, 2, who, 0⟩ l [] w9 from hW9 ▸ G.out)
 clear hW9 c f hlt c2
 obtain ⟨S, hS, hS2⟩ := id G.out
 have c := AA hS
 unfold Bq at c
 have f := AJ hS
 have hlt := AF hS
 clear hS hS2
 have c2 := AA HN2.out
 go_still_tail 11, (by kernel_rfl)
 refine DC (by rfl) 325 #[I by_] (by go_simp) (.int .u8 (Ax by_)) ((hbit _).mono ?_) ?_
 · rintro r w1 ⟨rfl, rfl⟩
   exact ⟨rfl, rfl⟩
 repeat still_step
 refine wpStill_nil ?_
 change wpList _ _ _ _ _ w9.drew
 replace G := Vw (G.out.below (Below.refl w9.heap.size w9).drew)
 replace HN2 := Vw (show w9.drew.heap[W1.heap.size]? = some (.cells #[I 6, I l, md, false, dat.a, dat.b, dat.c, dat.d, dat.e, dat.f, dat.g, dat.h] 253) from HN2.out)
 generalize w9.drew = W10 at *
 clear c f hlt c2
 obtain ⟨S, hS, hS2⟩ := id G.out
 have c := AA hS
 unfold Bq at c
 have f := AJ hS
 have hlt := AF hS
 clear hS hS2
 have c2 := AA HN2.out
 go_wp2_with fail
 replace G := Vw (G.out.put (e' := ⟨true, d3, x3, -1, (bits .andNot .u8 share (Ax by_)), 2, who, 0⟩) [.int .u8 (bits .andNot .u8 share (Ax by_))] 11 (fun S => by kernel_rfl))
 have he : Dj ⟨true, dirty, data, by_, share, 2, who, wait⟩ by_ ⟨6, l, md, false, dat⟩ = ⟨true, d3, x3, -1, (bits .andNot .u8 share (Ax by_)), 2, who, 0⟩ := by
  unfold Dj JJ
  rw [show Ca wait (Ax by_) = 0 from hw]
  rw [HF.out]
  simp [JI, JH, Ca, Lj]
 refine (GI _ G.out).mono ?_
 rintro r w13 ⟨rfl, g⟩
 replace G := Vw g
 clear g c f hlt
 go_wp2_with fail
 refine (Gw who 10 (by simp) _ G.out).mono ?_
 rintro r w8 ⟨rfl, g8⟩
 have h2 := HH.out
 rw [he] at h2
 rw [Prod.ext_iff] at h2
 obtain ⟨ha, hbb⟩ := h2
 have g9 : Mv w5 w5.heap.size e2 l out w8 := by
  have := g8
  rw [ha] at this
  simpa [hbb] using this
 clear ha hbb he HH HF G
 clear hbit hw
 obtain ⟨S8, m1, m2, m3, m4, m5⟩ := g9
 obtain ⟨A8, cap8, rfl⟩ := m2.form
 have c9 := AA m1
 unfold Bq at c9
 have HR := Vw (AB m5 HI3.out)
 have c3 := AA HR.out
 have f3 := AJ HR.out
 have hlt9 := AF m1
 have hlt3 := AF HR.out
 have HM := Vw (WA m2 (WA m4 m5))
 clear m1 m2 m3 m4 m5
 go_wp2_with fail
 have HFIN := Vw (show ∀ W9 : World, w8.setCells W2.heap.size 0 e2.cells = W9 → W9.heap[W2.heap.size]? = some (.cells e2 114) ∧ AH W9 428 13 (.slice A8 out.length cap8) out.length (BM out) ∧ Below w w W9 from fun W9 hW => by
  rw [← hW]
  refine ⟨AT _ HR.out 0 _ (by kernel_rfl), HM.out.1.kept fun k hk => ?_, Ac HS.out _ (HB.out.trans (HM.out.2.2.mono HB.out.size)) 0⟩
  obtain ⟨cs, h'⟩ := HM.out.1.type k hk
  exact AR (AG h' HR.out (by decide)) _ _ _)
 go_region
 all_goals
  go_wp2_with fail
  generalize hW : World.setCell _ ⟨W2, 14, none⟩ _ = W9
  have hx := HFIN.out W9 hW
  clear hW
  have c5 := AA hx.1
  refine bodyPost_ret (v := .tuple #[.agg e2, .slice A8 out.length cap8, I 0]) (by simp [results, results272, go_sem, c5]) rfl ⟨_, rfl, hx.2.1.kept fun _ _ => rfl, fun k hk => Vx HB.out.size (HM.out.2.1 k hk), hx.2.2.drew⟩
end Go.Proofs.YtkoplblbeapfgaaGreatDoor
