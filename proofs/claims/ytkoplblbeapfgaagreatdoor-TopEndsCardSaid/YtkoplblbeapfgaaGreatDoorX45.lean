/-
Parts of the walk of TopEnds. Conditions stand in each statement.
-/
import Derived.Test.YtkoplblbeapfgaaGreatDoorX09
namespace Go.Proofs.YtkoplblbeapfgaaGreatDoor
open Go.RowKit
open Tryz
set_option linter.all false
set_option maxRecDepth 100000
set_option maxHeartbeats 8000000
theorem GV (kk : Int) (fn : Nat) (hk1 : 1 ≤ kk) (hk4 : kk ≤ 5) (hix : ∀ w, (Instr.index 425 (.agg #[.nilFunc, .func (.func 378) #[] #[], .func (.func 379) #[] #[], .func (.func 380) #[] #[], .func (.func 381) #[] #[], .func (.func 382) #[] #[]]) (I kk)).run prog w = .ok (.func (.func fn) #[] #[]) w) (hfn : ∀ (args : Array Value) (w : World), (callFunc fn args).run prog w = .ok (.enter fn args) w) (dirty : Bool) (data : Ln) (owner share who wait by_ l : Int) (md mk : Bool) (dat : Ln) (hg : Ent.good ⟨true, dirty, data, owner, share, 0, who, wait⟩ = true) (hb : AK by_ = true) (hm : BJ ⟨kk, l, md, mk, dat⟩ = true) (e2 : Ent) (out : List Send)
 (hc : ∀ (w0 : World) (mb : Nat) (w : World), Mv w0 mb ⟨true, dirty, data, owner, share, 0, who, wait⟩ l [] w → Y fn #[mb, I by_, .agg (Msg.cells ⟨kk, l, md, mk, dat⟩)] w fun r w' => r = Z (.tuple #[]) ∧ Mv w0 mb e2 l out w') (w : World) :
 Y 269 #[.agg (Ent.cells ⟨true, dirty, data, owner, share, 0, who, wait⟩).toArray, I by_, .agg (Msg.cells ⟨kk, l, md, mk, dat⟩)] w fun r w' => ∃ S, r = Z (.tuple #[.agg e2.cells.toArray, S, I 0]) ∧ AH w' 428 13 S out.length (BM out) ∧ (∀ k, S.ownBlock = some k → w.heap.size ≤ k) ∧ Below w w w' := by
 have hgd := Gx _ hg
 have hmg := CB _ hm
 have hco := GK by_ hb
 have has := Nh
 have hak := PZ kk hk1 hk4
 simp only [Ent.cells, Msg.cells] at hgd hmg hc ⊢
 show Y 269 #[.agg #[true, dirty, data.a, data.b, data.c, data.d, data.e, data.f, data.g, data.h, I owner, .int .u8 share, I 0, I who, .int .u8 wait], _, _] w _
 obtain ⟨W1, hE1, hb1, hI1⟩ := alloc_new w (.cells #[true, dirty, data.a, data.b, data.c, data.d, data.e, data.f, data.g, data.h, I owner, .int .u8 share, I 0, I who, .int .u8 wait] 114)
 obtain ⟨W2, hE2, hb2, hI2⟩ := alloc_new W1 (.cells #[I kk, I l, md, mk, dat.a, dat.b, dat.c, dat.d, dat.e, dat.f, dat.g, dat.h] 253)
 obtain ⟨W3, hE3, hb3, hI3⟩ := alloc_new W2 (.cells KC 114)
 have HB := Vw (hb1.trans ((hb2.trans (hb3.mono hb2.size)).mono hb1.size))
 have HI1 := Vw (AB hb3 (AB hb2 hI1))
 have HI2 := Vw (AB hb3 hI2)
 have HI3 := Vw hI3
 have HS := Vw (Vx hb1.size hb2.size)
 have c1 := AA HI1.out
 have c2 := AA HI2.out
 have HC := Vw hc
 clear hb1 hb2 hb3 hI1 hI2 hI3 hc hg hm
 go_enter func269, ntmps269
 go_wp2_with fail
 refine (hgd _).mono ?_
 rintro r w4 ⟨rfl, hb4⟩
 replace HI1 := Vw (AB hb4 HI1.out)
 replace HI2 := Vw (AB hb4 HI2.out)
 replace HI3 := Vw (AB hb4 HI3.out)
 replace HB := Vw (HB.out.trans (hb4.mono HB.out.size))
 replace c2 := AA HI2.out
 clear hE1 hE2 hE3 hb4 c1 hgd
 go_wp2_with fail
 refine (hco _).mono ?_
 rintro r w5 ⟨rfl, rfl⟩
 go_wp2_with fail
 refine (hmg _).mono ?_
 rintro r w5 ⟨rfl, hb5⟩
 replace HI1 := Vw (AB hb5 HI1.out)
 replace HI2 := Vw (AB hb5 HI2.out)
 replace HI3 := Vw (AB hb5 HI3.out)
 replace HB := Vw (HB.out.trans (hb5.mono HB.out.size))
 replace c2 := AA HI2.out
 have c1 := AA HI1.out
 clear hb5 hmg hco
 go_wp2_with fail
 refine (hak _).mono ?_
 rintro r w6 ⟨rfl, rfl⟩
 clear hak
 go_wp2_with fail
 have hm6 : Mv w5 w5.heap.size ⟨true, dirty, data, owner, share, 0, who, wait⟩ l [] (w5.alloc (.cells (Bq ⟨true, dirty, data, owner, share, 0, who, wait⟩ l (.slice none 0 0)) 423)) := ⟨_, AE w5 _, AH.nil _ _ _, Nat.le_refl _, by simp [Value.ownBlock], AC w5 _⟩
 have hb6 := AC w5 (.cells (Bq ⟨true, dirty, data, owner, share, 0, who, wait⟩ l (.slice none 0 0)) 423)
 unfold Bq at hm6 hb6
 generalize w5.alloc (.cells #[.bool true, .bool dirty, U data.a, U data.b, U data.c, U data.d, U data.e, U data.f, U data.g, U data.h, I owner, .int .u8 share, I 0, I who, .int .u8 wait, I l, .slice none 0 0] 423) = W6 at *
 have G := Vw (hm6.below (Below.refl _ _).drew)
 have HX2 := Vw (AB hb6.drew HI2.out)
 clear c1 c2 hm6 hb6
 have c2 := AA HX2.out
 have HS1 := Vw (show ∀ w', Below W6.drew W6.drew w' → w'.cell? W1 = I kk ∧ w'.cell? ⟨W1, 1, none⟩ = I l ∧ w'.cell? ⟨W1, 2, none⟩ = md ∧ w'.cell? ⟨W1, 3, none⟩ = mk ∧ w'.cell? ⟨W1, 4, none⟩ = U dat.a ∧ w'.cell? ⟨W1, 5, none⟩ = U dat.b ∧ w'.cell? ⟨W1, 6, none⟩ = U dat.c ∧ w'.cell? ⟨W1, 7, none⟩ = U dat.d ∧ w'.cell? ⟨W1, 8, none⟩ = U dat.e ∧ w'.cell? ⟨W1, 9, none⟩ = U dat.f ∧ w'.cell? ⟨W1, 10, none⟩ = U dat.g ∧ w'.cell? ⟨W1, 11, none⟩ = U dat.h from fun w' hb => have h := AA (AB hb HX2.out); ⟨h 0, h 1, h 2, h 3, h 4, h 5, h 6, h 7, h 8, h 9, h 10, h 11⟩)
 have HS2 := Vw (show ∀ (e9 : Ent) (o9 : List Send) (w' : World), Mv w5 w5.heap.size e9 l o9 w' → w'.cell? W1 = I kk ∧ w'.cell? ⟨W1, 1, none⟩ = I l ∧ w'.cell? ⟨W1, 2, none⟩ = md ∧ w'.cell? ⟨W1, 3, none⟩ = mk ∧ w'.cell? ⟨W1, 4, none⟩ = U dat.a ∧ w'.cell? ⟨W1, 5, none⟩ = U dat.b ∧ w'.cell? ⟨W1, 6, none⟩ = U dat.c ∧ w'.cell? ⟨W1, 7, none⟩ = U dat.d ∧ w'.cell? ⟨W1, 8, none⟩ = U dat.e ∧ w'.cell? ⟨W1, 9, none⟩ = U dat.f ∧ w'.cell? ⟨W1, 10, none⟩ = U dat.g ∧ w'.cell? ⟨W1, 11, none⟩ = U dat.h from fun e9 o9 w' hm => have h := AA (AB (by obtain ⟨_, _, _, _, _, h⟩ := hm; exact h) HI2.out); ⟨h 0, h 1, h 2, h 3, h 4, h 5, h 6, h 7, h 8, h 9, h 10, h 11⟩)
 go_region_held3 (fun w' => w'.cell? W1 = I kk ∧ w'.cell? ⟨W1, 1, none⟩ = I l ∧ w'.cell? ⟨W1, 2, none⟩ = md ∧ w'.cell? ⟨W1, 3, none⟩ = mk ∧ w'.cell? ⟨W1, 4, none⟩ = U dat.a ∧ w'.cell? ⟨W1, 5, none⟩ = U dat.b ∧ w'.cell? ⟨W1, 6, none⟩ = U dat.c ∧ w'.cell? ⟨W1, 7, none⟩ = U dat.d ∧ w'.cell? ⟨W1, 8, none⟩ = U dat.e ∧ w'.cell? ⟨W1, 9, none⟩ = U dat.f ∧ w'.cell? ⟨W1, 10, none⟩ = U dat.g ∧ w'.cell? ⟨W1, 11, none⟩ = U dat.h) (first | exact HS1.out _ hb7 | exact HS2.out _ _ _ g8 | go_keep)
  (first
  | (go_at_call 322; refine (has _).mono ?_; rintro r w7 ⟨rfl, hb7⟩; replace G := Vw (G.out.below hb7))
  | (refine (HC.out w5 w5.heap.size _ G.out).mono ?_; rintro r w8 ⟨rfl, g8⟩))
 all_goals
  obtain ⟨S8, m1, m2, m3, m4, m5⟩ := g8
  obtain ⟨A8, cap8, rfl⟩ := m2.form
  have c9 := AA m1
  unfold Bq at c9
  have HR := Vw (AB m5 HI3.out)
  have c3 := AA HR.out
  have f3 := AJ HR.out
  have hlt9 := AF m1
  have hlt3 := AF HR.out
  have HM := Vw (WA m2 (WA m4 m5))
  clear m1 m2 m3 m4 m5 c2 has
  go_wp2_with fail
  have HFIN := Vw (show ∀ W9 : World, w8.setCells W2.heap.size 0 e2.cells = W9 → W9.heap[W2.heap.size]? = some (.cells e2 114) ∧ AH W9 428 13 (.slice A8 out.length cap8) out.length (BM out) ∧ Below w w W9 from fun W9 hW => by
   rw [← hW]
   refine ⟨AT _ HR.out 0 _ (by kernel_rfl), HM.out.1.kept fun k hk => ?_, Ac HS.out _ (HB.out.trans (HM.out.2.2.mono HB.out.size)) 0⟩
   obtain ⟨cs, h'⟩ := HM.out.1.type k hk
   exact AR (AG h' HR.out (by decide)) _ _ _)
  go_region
  all_goals
   go_wp2_with fail
   generalize hW : World.setCell _ ⟨W2, 14, none⟩ _ = W9
   have hx := HFIN.out W9 hW
   clear hW
   have c5 := AA hx.1
   refine bodyPost_ret (v := .tuple #[.agg e2, .slice A8 out.length cap8, I 0]) (by simp [results, results269, go_sem, c5]) rfl ⟨_, rfl, hx.2.1.kept fun _ _ => rfl, fun k hk => Vx HB.out.size (HM.out.2.1 k hk), hx.2.2.drew⟩
theorem PQ (e : Ent) (who : Int) (m : Msg) (e2 : Ent) (out : List Send) (h : Pa e who m = some (e2, out)) (w : World) :
 Y 269 #[.agg e.cells.toArray, I who, .agg m.cells] w fun r w' => ∃ S, r = Z (.tuple #[.agg e2.cells.toArray, S, I 0]) ∧ AH w' 428 13 S out.length (BM out) ∧ (∀ k, S.ownBlock = some k → w.heap.size ≤ k) ∧ Below w w w' := by
 unfold Pa at h
 obtain ⟨hg, h⟩ := As h
 simp only [Bool.and_eq_true, beq_iff_eq] at hg
 obtain ⟨⟨⟨hg, hb⟩, hm⟩, h0⟩ := hg
 obtain ⟨hh, ho, hos, _, _⟩ := Ee hg
 obtain ⟨here, dirty, data, owner, share, busy, by_, wait⟩ := e
 obtain ⟨k, l, md, mk, dat⟩ := m
 simp only at hh h0 ho hos
 subst hh h0
 by_cases k1 : k = 1
 · subst k1
   simp only [beq_self_eq_true, if_true] at h
   by_cases hc : (owner == -1 && share == 0) = true
   · rw [if_pos hc] at h
     simp only [Option.some.injEq] at h
     simp only [Bool.and_eq_true, beq_iff_eq] at hc
     rw [Prod.ext_iff] at h
     obtain ⟨ha, hbb⟩ := h
     subst ha hbb
     exact GV 1 378 (by decide) (by decide) (fun w => by kernel_rfl) (fun _ _ => by kernel_rfl) dirty data owner share by_ wait who l md mk dat hg hb hm _ _ (fun w0 mb w hmv => Ng who _ (by simp) hc.1 hc.2 w hmv) w
   · rw [if_neg hc] at h
     cases h
 · have e1 : (k == 1) = false := by simp [k1]
   simp only [e1, Bool.false_eq_true, if_false] at h
   by_cases k2 : k = 2
   · subst k2
     simp only [beq_self_eq_true, if_true] at h
     by_cases hz : (Ca (Df ⟨true, dirty, data, owner, share, 0, by_, wait⟩) (Ax who) == 0) = true
     · rw [if_pos hz] at h
       simp only [Option.some.injEq] at h
       rw [Prod.ext_iff] at h
       obtain ⟨ha, hbb⟩ := h
       subst ha hbb
       exact GV 2 379 (by decide) (by decide) (fun w => by kernel_rfl) (fun _ _ => by kernel_rfl) dirty data owner share by_ wait who l md mk dat hg hb hm _ _ (fun w0 mb w hmv => PP who _ (by simp) ho hb (by simpa [Ca] using hz) w hmv) w
     · rw [if_neg hz] at h
       by_cases hq : KM (Ca (Df ⟨true, dirty, data, owner, share, 0, by_, wait⟩) (Ax who)) = true
       · rw [if_pos hq] at h
         simp only [Option.some.injEq] at h
         rw [Prod.ext_iff] at h
         obtain ⟨ha, hbb⟩ := h
         subst ha hbb
         exact GV 2 379 (by decide) (by decide) (fun w => by kernel_rfl) (fun _ _ => by kernel_rfl) dirty data owner share by_ wait who l md mk dat hg hb hm _ _ (fun w0 mb w hmv => Qq who _ (by simp) ho hb _ rfl hq (by simpa [Ca] using hz) w hmv) w
       · rw [if_neg hq] at h
         cases h
   · have e2' : (k == 2) = false := by simp [k2]
     simp only [e2', Bool.false_eq_true, if_false] at h
     by_cases k3 : k = 3
     · subst k3
       simp only [beq_self_eq_true, if_true, Option.some.injEq] at h
       rw [Prod.ext_iff] at h
       obtain ⟨ha, hbb⟩ := h
       subst ha hbb
       by_cases hw : owner = who
       · have hw' : (owner == who) = true := by simpa using hw
         simp only [hw', if_true]
         exact GV 3 380 (by decide) (by decide) (fun w => by kernel_rfl) (fun _ _ => by kernel_rfl) dirty data owner share by_ wait who l md mk dat hg hb hm _ _ (fun w0 mb w hmv => Nd who _ (by simp) hw w hmv) w
       · have hw' : (owner == who) = false := by simpa using hw
         simp only [hw', Bool.false_eq_true, if_false]
         exact GV 3 380 (by decide) (by decide) (fun w => by kernel_rfl) (fun _ _ => by kernel_rfl) dirty data owner share by_ wait who l md mk dat hg hb hm _ _ (fun w0 mb w hmv => Nc who _ (by simp) hw hb w hmv) w
     · have e3 : (k == 3) = false := by simp [k3]
       simp only [e3, Bool.false_eq_true, if_false] at h
       by_cases k4 : (k == 4 && AK owner) = true
       · rw [if_pos k4] at h
         simp only [Option.some.injEq] at h
         rw [Prod.ext_iff] at h
         obtain ⟨ha, hbb⟩ := h
         subst ha hbb
         simp only [Bool.and_eq_true, beq_iff_eq] at k4
         obtain ⟨rfl, hco⟩ := k4
         exact GV 4 381 (by decide) (by decide) (fun w => by kernel_rfl) (fun _ _ => by kernel_rfl) dirty data owner share by_ wait who l md mk dat hg hb hm _ _ (fun w0 mb w hmv => MT who _ (by simp) hco w hmv) w
       · rw [if_neg k4] at h
         cases h
end Go.Proofs.YtkoplblbeapfgaaGreatDoor
