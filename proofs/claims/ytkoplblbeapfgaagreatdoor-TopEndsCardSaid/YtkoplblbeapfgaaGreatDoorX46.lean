/-
Parts of the walk of TopEnds. Conditions stand in each statement.
-/
import Derived.Test.YtkoplblbeapfgaaGreatDoorX09
namespace Go.Proofs.YtkoplblbeapfgaaGreatDoor
open Go.RowKit
open Tryz
set_option linter.all false
set_option maxRecDepth 100000
set_option maxHeartbeats 8000000
theorem Qp (dirty : Bool) (data : Ln) (owner share who : Int) (hg : Ent.good ⟨true, dirty, data, owner, share, 4, who, 0⟩ = true) (w : World) :
 Y 277 #[.agg (Ent.cells ⟨true, dirty, data, owner, share, 4, who, 0⟩).toArray] w fun r w' => ∃ S, r = Z (.tuple #[.agg #[true, false, data.a, data.b, data.c, data.d, data.e, data.f, data.g, data.h, I owner, .int .u8 share, I 0, I 0, .int .u8 0], S, I 0]) ∧ AH w' 428 13 S 1 (BM [⟨who, Bu 14 0⟩]) ∧ (∀ k, S.ownBlock = some k → w.heap.size ≤ k) ∧ Below w w w' := by
 have hr := Fm ⟨true, dirty, data, owner, share, 4, who, 0⟩ (by rw [hg]; rfl)
 have hrv : De ⟨true, dirty, data, owner, share, 4, who, 0⟩ = true := rfl
 rw [hrv] at hr
 simp only [Ent.cells] at hr ⊢
 show Y 277 #[.agg #[true, dirty, data.a, data.b, data.c, data.d, data.e, data.f, data.g, data.h, I owner, .int .u8 share, I 4, I who, .int .u8 0]] w _
 obtain ⟨W1, hE1, hb1, hI1⟩ := alloc_new w (.cells #[true, dirty, data.a, data.b, data.c, data.d, data.e, data.f, data.g, data.h, I owner, .int .u8 share, I 4, I who, .int .u8 0] 114)
 obtain ⟨W3, hE3, hb3, hI3⟩ := alloc_new W1 (.cells KC 114)
 have HB := Vw (hb1.trans (hb3.mono hb1.size))
 have HI1 := Vw (AB hb3 hI1)
 have HI3 := Vw hI3
 have HS := Vw hb1.size
 have c1 := AA HI1.out
 clear hb1 hb3 hI1 hI3 hg hrv
 go_enter func277, ntmps277
 go_wp2_with fail
 refine (hr _).mono ?_
 rintro r w5 ⟨rfl, hb5⟩
 replace HI1 := Vw (AB hb5 HI1.out)
 replace HI3 := Vw (AB hb5 HI3.out)
 replace HB := Vw (HB.out.trans (hb5.mono HB.out.size))
 replace c1 := AA HI1.out
 have hlt1 := AF HI1.out
 clear hE1 hE3 hb5 hr
 go_wp2_with fail
 have hm6 : Mv w5 w5.heap.size ⟨true, false, data, owner, share, 4, who, 0⟩ 0 [] (w5.alloc (.cells (Bq ⟨true, false, data, owner, share, 4, who, 0⟩ 0 (.slice none 0 0)) 423)) := ⟨_, AE w5 _, AH.nil _ _ _, Nat.le_refl _, by simp [Value.ownBlock], AC w5 _⟩
 unfold Bq at hm6
 generalize w5.alloc (.cells #[.bool true, .bool false, U data.a, U data.b, U data.c, U data.d, U data.e, U data.f, U data.g, U data.h, I owner, .int .u8 share, I 4, I who, .int .u8 0, I 0, .slice none 0 0] 423) = W6 at *
 have G := Vw hm6
 clear hm6 c1
 refine (GI _ G.out).mono ?_
 rintro r w7 ⟨rfl, g⟩
 replace G := Vw g
 clear g
 go_wp2_with fail
 refine (DX w5 w5.heap.size _ 0 [] who 14 (by simp) _ G.out).mono ?_
 rintro r w8 ⟨rfl, g8⟩
 have g9 : Mv w5 w5.heap.size ⟨true, false, data, owner, share, 0, 0, 0⟩ 0 [⟨who, Bu 14 0⟩] w8 := g8
 clear g8 G
 obtain ⟨S8, m1, m2, m3, m4, m5⟩ := g9
 obtain ⟨A8, cap8, rfl⟩ := m2.form
 have c9 := AA m1
 unfold Bq at c9
 have HR := Vw (AB m5 HI3.out)
 have c3 := AA HR.out
 have f3 := AJ HR.out
 have hlt9 := AF m1
 have hlt3 := AF HR.out
 have HM := Vw (WA m2 (WA m4 m5))
 clear m1 m2 m3 m4 m5
 go_wp2_with fail
 have HFIN := Vw (show ∀ W9 : World, w8.setCells W1.heap.size 0 [.bool true, .bool false, U data.a, U data.b, U data.c, U data.d, U data.e, U data.f, U data.g, U data.h, I owner, .int .u8 share, I 0, I 0, .int .u8 0] = W9 → W9.heap[W1.heap.size]? = some (.cells #[true, false, data.a, data.b, data.c, data.d, data.e, data.f, data.g, data.h, I owner, .int .u8 share, I 0, I 0, .int .u8 0] 114) ∧ AH W9 428 13 (.slice A8 1 cap8) 1 (BM [⟨who, Bu 14 0⟩]) ∧ Below w w W9 from fun W9 hW => by
  rw [← hW]
  refine ⟨AT _ HR.out 0 _ (by kernel_rfl), HM.out.1.kept fun k hk => ?_, Ac HS.out _ (HB.out.trans (HM.out.2.2.mono HB.out.size)) 0⟩
  obtain ⟨cs, h'⟩ := HM.out.1.type k hk
  exact AR (AG h' HR.out (by decide)) _ _ _)
 go_region
 all_goals
  go_wp2_with fail
  generalize hW : World.setCell _ ⟨W1, 14, none⟩ _ = W9
  have hx := HFIN.out W9 hW
  clear hW
  have c5 := AA hx.1
  refine bodyPost_ret (v := .tuple #[.agg #[true, false, data.a, data.b, data.c, data.d, data.e, data.f, data.g, data.h, I owner, .int .u8 share, I 0, I 0, .int .u8 0], .slice A8 1 cap8, I 0]) (by simp [results, results277, go_sem, c5]) rfl ⟨_, rfl, hx.2.1.kept fun _ _ => rfl, fun k hk => Vx HB.out.size (HM.out.2.1 k hk), hx.2.2.drew⟩
theorem Ky (e : Ent) (hg : e.good = true) (hr : De e = true) (w : World) :
 Y 277 #[.agg e.cells.toArray] w fun r w' => ∃ S, r = Z (.tuple #[.agg (FX e).cells.toArray, S, I 0]) ∧ AH w' 428 13 S 1 (BM [⟨e.who, Bu 14 0⟩]) ∧ (∀ k, S.ownBlock = some k → w.heap.size ≤ k) ∧ Below w w w' := by
 have hh := (Ee hg).1
 obtain ⟨here, dirty, data, owner, share, busy, who, wait⟩ := e
 simp only [De, Bool.and_eq_true, beq_iff_eq] at hr hh
 obtain ⟨rfl, rfl⟩ := hr
 subst hh
 exact Qp dirty data owner share who hg w
end Go.Proofs.YtkoplblbeapfgaaGreatDoor
