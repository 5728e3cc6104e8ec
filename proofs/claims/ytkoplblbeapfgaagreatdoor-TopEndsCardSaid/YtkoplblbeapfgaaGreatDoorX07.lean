/-
Parts of the walk of TopEnds. Conditions stand in each statement.
-/
import Derived.Test.YtkoplblbeapfgaaGreatDoorX06
namespace Go.Proofs.YtkoplblbeapfgaaGreatDoor
open Go.RowKit
open Tryz
set_option linter.all false
set_option maxRecDepth 100000
set_option maxHeartbeats 8000000
theorem ArrAt.drew {w : World} {ab sb : Nat} {a : Arr} (h : ArrAt w ab sb a) : ArrAt w.drew ab sb a := ⟨h.head, h.row⟩
theorem Ny (a : Arr) : CV (fun s => s.st == 0) [a.s0, a.s1] = a.free := by
 cases h0 : (a.s0.st == 0) <;> cases h1 : (a.s1.st == 0) <;> simp [CV, Arr.free, h0, h1]
theorem Pb (ab sb : Nat) (a : Arr) (line st : Int) (l : Ln) (h0 : 0 ≤ line) (h1 : 1 ≤ st) (h2 : st ≤ 9) (hk : 0 ≤ a.place line) (hu0 : 0 ≤ a.used) (hu1 : a.used < 1000000) (w : World) (h : ArrAt w ab sb a) :
 Y 335 #[ab, I line, I st, .agg l] w fun e w' => e = Z (I 0) ∧ ArrAt w' ab sb (a.num.putAt (a.place line) ⟨st, line, l, a.used + 1⟩) ∧ Pres (fun k => k ≠ ab ∧ k ≠ sb) w w' := by
 have HB := Vw (AC w (.cells l 109))
 have HI := Vw (AE w (.cells l 109))
 have HA := AF h.head
 have H := Vw (h.below HB.out)
 clear h
 rcases Gl a line with ⟨hi, hf, _⟩ | ⟨hi, hf, _⟩ | ⟨hi, hf, _⟩
 · have hpl : a.place line = 0 := by simp [Arr.place, hi]
   have hat := fun w hw => Bs ab sb a line h0 w hw
   rw [hi] at hat
   go_enter func335, ntmps335
   go_wp2_with fail
   refine (hat _ H.out).mono ?_
   rintro e w1 ⟨rfl, hb1⟩
   replace H := Vw (H.out.below hb1)
   replace HB := Vw (HB.out.trans (hb1.mono HB.out.size))
   replace HI := Vw (AB hb1 HI.out)
   go_wp2_with fail
   refine (Bo ab sb a line h0 _ H.out).mono ?_
   rintro e w2 ⟨rfl, hb2⟩
   replace H := Vw (H.out.below hb2)
   replace HB := Vw (HB.out.trans (hb2.mono HB.out.size))
   replace HI := Vw (AB hb2 HI.out)
   have hlt := AF HI.out
   have c1 := AA HI.out
   have c := AA H.out.row
   have f := AJ H.out.row
   go_wp2_with fail
   have hAi : ab ≠ w.heap.size := fun e => by rw [e] at HA; exact Nat.lt_irrefl _ HA
   have hA1 := H.out.below (Below.refl _ _).drew
   have hc1 := AA (H.out.num).row
   have hf1 := AJ (H.out.num).row
   have hc2 := AA ((Vz _ ⟨ab, 3, none⟩ (I (a.used + 1)) w.heap.size (Ne.symm hAi)).trans HI.out)
   go_region_with (first | (go_at_call 386; refine (DH ab sb a hu0 hu1 _ hA1).mono ?_; rintro e w4 ⟨rfl, rfl⟩))
   all_goals
    go_wp2_with fail
    go_ret
    refine ⟨rfl, ?_, ?_⟩
    · rw [hpl]
      exact ((H.out.num).put0 ⟨st, line, l, a.used + 1⟩).drew
    · exact (Pres.setCells (g := sb) (by simp) (Slot.l ⟨st, line, l, a.used + 1⟩) ((Pres.of_below HB.out).setCell (p := ⟨ab, 3, none⟩) (by simp) _) 0).drew
 · have hpl : a.place line = 1 := by simp [Arr.place, hi]
   have hat := fun w hw => Bs ab sb a line h0 w hw
   rw [hi] at hat
   go_enter func335, ntmps335
   go_wp2_with fail
   refine (hat _ H.out).mono ?_
   rintro e w1 ⟨rfl, hb1⟩
   replace H := Vw (H.out.below hb1)
   replace HB := Vw (HB.out.trans (hb1.mono HB.out.size))
   replace HI := Vw (AB hb1 HI.out)
   go_wp2_with fail
   refine (Bo ab sb a line h0 _ H.out).mono ?_
   rintro e w2 ⟨rfl, hb2⟩
   replace H := Vw (H.out.below hb2)
   replace HB := Vw (HB.out.trans (hb2.mono HB.out.size))
   replace HI := Vw (AB hb2 HI.out)
   have hlt := AF HI.out
   have c1 := AA HI.out
   have c := AA H.out.row
   have f := AJ H.out.row
   go_wp2_with fail
   have hAi : ab ≠ w.heap.size := fun e => by rw [e] at HA; exact Nat.lt_irrefl _ HA
   have hA1 := H.out.below (Below.refl _ _).drew
   have hc1 := AA (H.out.num).row
   have hf1 := AJ (H.out.num).row
   have hc2 := AA ((Vz _ ⟨ab, 3, none⟩ (I (a.used + 1)) w.heap.size (Ne.symm hAi)).trans HI.out)
   go_region_with (first | (go_at_call 386; refine (DH ab sb a hu0 hu1 _ hA1).mono ?_; rintro e w4 ⟨rfl, rfl⟩))
   all_goals
    go_wp2_with fail
    go_ret
    refine ⟨rfl, ?_, ?_⟩
    · rw [hpl]
      exact ((H.out.num).put1 ⟨st, line, l, a.used + 1⟩).drew
    · exact (Pres.setCells (g := sb) (by simp) (Slot.l ⟨st, line, l, a.used + 1⟩) ((Pres.of_below HB.out).setCell (p := ⟨ab, 3, none⟩) (by simp) _) 11).drew
 · rcases PG a with ⟨hfr, _⟩ | ⟨hfr, _⟩ | ⟨hfr, _⟩
   · have hpl : a.place line = 0 := by simp [Arr.place, hi, hfr]
     have hat := fun w hw => Bs ab sb a line h0 w hw
     rw [hi] at hat
     go_enter func335, ntmps335
     go_wp2_with fail
     refine (hat _ H.out).mono ?_
     rintro e w1 ⟨rfl, hb1⟩
     replace H := Vw (H.out.below hb1)
     replace HB := Vw (HB.out.trans (hb1.mono HB.out.size))
     replace HI := Vw (AB hb1 HI.out)
     go_wp2_with fail
     refine (Bo ab sb a line h0 _ H.out).mono ?_
     rintro e w2 ⟨rfl, hb2⟩
     replace H := Vw (H.out.below hb2)
     replace HB := Vw (HB.out.trans (hb2.mono HB.out.size))
     replace HI := Vw (AB hb2 HI.out)
     have hlt := AF HI.out
     have c1 := AA HI.out
     have c := AA H.out.row
     have f := AJ H.out.row
     go_wp2_with fail
     refine (ixX.2.1 _ [a.s0, a.s1] _ H.out.rows (by simp)).mono ?_
     rintro e w3 ⟨rfl, hb3⟩
     replace H := Vw (H.out.below hb3)
     replace HB := Vw (HB.out.trans (hb3.mono HB.out.size))
     replace HI := Vw (AB hb3 HI.out)
     rw [Ny, hfr]
     have hlt := AF HI.out
     have c1 := AA HI.out
     have c := AA H.out.row
     have f := AJ H.out.row
     go_wp2_with fail
     have hAi : ab ≠ w.heap.size := fun e => by rw [e] at HA; exact Nat.lt_irrefl _ HA
     have hA1 := H.out.below (Below.refl _ _).drew
     have hc1 := AA (H.out.num).row
     have hf1 := AJ (H.out.num).row
     have hc2 := AA ((Vz _ ⟨ab, 3, none⟩ (I (a.used + 1)) w.heap.size (Ne.symm hAi)).trans HI.out)
     go_region_with (first | (go_at_call 386; refine (DH ab sb a hu0 hu1 _ hA1).mono ?_; rintro e w4 ⟨rfl, rfl⟩))
     all_goals
      go_wp2_with fail
      go_ret
      refine ⟨rfl, ?_, ?_⟩
      · rw [hpl]
        exact ((H.out.num).put0 ⟨st, line, l, a.used + 1⟩).drew
      · exact (Pres.setCells (g := sb) (by simp) (Slot.l ⟨st, line, l, a.used + 1⟩) ((Pres.of_below HB.out).setCell (p := ⟨ab, 3, none⟩) (by simp) _) 0).drew
   · have hpl : a.place line = 1 := by simp [Arr.place, hi, hfr]
     have hat := fun w hw => Bs ab sb a line h0 w hw
     rw [hi] at hat
     go_enter func335, ntmps335
     go_wp2_with fail
     refine (hat _ H.out).mono ?_
     rintro e w1 ⟨rfl, hb1⟩
     replace H := Vw (H.out.below hb1)
     replace HB := Vw (HB.out.trans (hb1.mono HB.out.size))
     replace HI := Vw (AB hb1 HI.out)
     go_wp2_with fail
     refine (Bo ab sb a line h0 _ H.out).mono ?_
     rintro e w2 ⟨rfl, hb2⟩
     replace H := Vw (H.out.below hb2)
     replace HB := Vw (HB.out.trans (hb2.mono HB.out.size))
     replace HI := Vw (AB hb2 HI.out)
     have hlt := AF HI.out
     have c1 := AA HI.out
     have c := AA H.out.row
     have f := AJ H.out.row
     go_wp2_with fail
     refine (ixX.2.1 _ [a.s0, a.s1] _ H.out.rows (by simp)).mono ?_
     rintro e w3 ⟨rfl, hb3⟩
     replace H := Vw (H.out.below hb3)
     replace HB := Vw (HB.out.trans (hb3.mono HB.out.size))
     replace HI := Vw (AB hb3 HI.out)
     rw [Ny, hfr]
     have hlt := AF HI.out
     have c1 := AA HI.out
     have c := AA H.out.row
     have f := AJ H.out.row
     go_wp2_with fail
     have hAi : ab ≠ w.heap.size := fun e => by rw [e] at HA; exact Nat.lt_irrefl _ HA
     have hA1 := H.out.below (Below.refl _ _).drew
     have hc1 := AA (H.out.num).row
     have hf1 := AJ (H.out.num).row
     have hc2 := AA ((Vz _ ⟨ab, 3, none⟩ (I (a.used + 1)) w.heap.size (Ne.symm hAi)).trans HI.out)
     go_region_with (first | (go_at_call 386; refine (DH ab sb a hu0 hu1 _ hA1).mono ?_; rintro e w4 ⟨rfl, rfl⟩))
     all_goals
      go_wp2_with fail
      go_ret
      refine ⟨rfl, ?_, ?_⟩
      · rw [hpl]
        exact ((H.out.num).put1 ⟨st, line, l, a.used + 1⟩).drew
      · exact (Pres.setCells (g := sb) (by simp) (Slot.l ⟨st, line, l, a.used + 1⟩) ((Pres.of_below HB.out).setCell (p := ⟨ab, 3, none⟩) (by simp) _) 11).drew
   · simp [Arr.place, hi, hfr] at hk
end Go.Proofs.YtkoplblbeapfgaaGreatDoor
