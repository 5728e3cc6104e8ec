/-
Parts of the walk of TopEnds. Conditions stand in each statement.
-/
import Derived.Test.YtkoplblbeapfgaaGreatDoorX00
namespace Go.Proofs.YtkoplblbeapfgaaGreatDoor
open Go.RowKit
open Tryz
set_option linter.all false
set_option maxRecDepth 100000
set_option maxHeartbeats 8000000
structure Ln where
 a : Int
 b : Int
 c : Int
 d : Int
 e : Int
 f : Int
 g : Int
 h : Int
def Ln.zero : Ln := ⟨0, 0, 0, 0, 0, 0, 0, 0⟩
structure Msg where
 kind : Int
 line : Int
 dirty : Bool
 kept : Bool
 data : Ln
def Msg.cells (m : Msg) : Array Value := #[I m.kind, I m.line, m.dirty, m.kept, m.data.a, m.data.b, m.data.c, m.data.d, m.data.e, m.data.f, m.data.g, m.data.h]
def GE : Value := .agg #[I 0, I 0, I 0, I 1, I 0, I 0, I 1, I 3, I 4, I 4, I 4, I 0, I 0, I 0, I 0]
theorem ER (w : World) : Y 377 #[] w fun e w' => e = Z GE ∧ Below w w w' := by
 go_enter func377, ntmps377
 go_wp2_with fail
 refine bodyPost_ret (v := GE) (by simp [results, results377, go_sem, GE]) rfl ⟨rfl, ?_⟩
 exact (Below.refl _ _).alloc (Nat.le_refl _) _
theorem GS (k v : Int) (h : (k = 1 ∨ k = 2 ∨ k = 4 ∨ k = 11 ∨ k = 12 ∨ k = 13 ∨ k = 14) ∧ v = 0 ∨ (k = 3 ∨ k = 6) ∧ v = 1 ∨ k = 7 ∧ v = 3 ∨ (k = 8 ∨ k = 9 ∨ k = 10) ∧ v = 4) (w : World) : (Instr.index 470 GE (I k)).run prog w = .ok (I v) w := by
 rcases h with ⟨h, rfl⟩ | ⟨h, rfl⟩ | ⟨rfl, rfl⟩ | ⟨h, rfl⟩
 · rcases h with rfl | rfl | rfl | rfl | rfl | rfl | rfl <;> kernel_rfl
 · rcases h with rfl | rfl <;> kernel_rfl
 · kernel_rfl
 · rcases h with rfl | rfl | rfl <;> kernel_rfl
def zL : Value := .agg KD
theorem MP (w : World) : (Op.equalIn 10000 109 zL zL).run prog w = .ok true w := by kernel_rfl
theorem IS : bits .and .i64 1 1 = 1 ∧ bits .and .i64 3 1 = 1 ∧ bits .and .i64 3 2 = 2 ∧ bits .and .i64 4 4 = 4 := ⟨by kernel_rfl, by kernel_rfl, by kernel_rfl, by kernel_rfl⟩
theorem Oj (k l : Int) (hk : k = 1 ∨ k = 2 ∨ k = 4 ∨ k = 11 ∨ k = 12 ∨ k = 13 ∨ k = 14) (h0 : 0 ≤ l) (h1 : l < 64) (w : World) : Y 320 #[.agg (Msg.mk k l false false Ln.zero).cells] w fun e w' => e = Z (.bool true) ∧ Below w w w' := by
 have k0 : 1 ≤ k := by omega
 have k1 : k ≤ 14 := by omega
 have hix := GS k 0 (by omega)
 have hm := ER
 have HB := Vw (AC w (.cells (Msg.mk k l false false Ln.zero).cells 253))
 have HI := Vw (AE w (.cells (Msg.mk k l false false Ln.zero).cells 253))
 have hz := MP
 obtain ⟨q1, q2, q3, q4⟩ := IS
 simp only [Msg.cells, Ln.zero, GE, zL] at HB HI hm hix hz ⊢
 have c1 := AA HI.out
 clear hk
 go_enter func320, ntmps320
 go_wp2_with fail
 generalize w.alloc _ = W0 at *
 replace HB := Vw HB.out.drew
 go_region_with (go_at_call 377; refine (hm _).mono ?_; rintro e w1 ⟨rfl, hb1⟩; replace HI := Vw (AB hb1 HI.out); replace HB := Vw (HB.out.trans (hb1.mono HB.out.size)); replace c1 := AA HI.out)
 all_goals
  go_wp2_with fail
  go_ret
  exact ⟨rfl, HB.out⟩
theorem NT (k l : Int) (hk : k = 3 ∨ k = 6) (d : Ln) (h0 : 0 ≤ l) (h1 : l < 64) (w : World) : Y 320 #[.agg (Msg.mk k l true false d).cells] w fun e w' => e = Z (.bool true) ∧ Below w w w' := by
 have k0 : 1 ≤ k := by omega
 have k1 : k ≤ 14 := by omega
 have hix := GS k 1 (by omega)
 have hm := ER
 have HB := Vw (AC w (.cells (Msg.mk k l true false d).cells 253))
 have HI := Vw (AE w (.cells (Msg.mk k l true false d).cells 253))
 have hz := MP
 obtain ⟨q1, q2, q3, q4⟩ := IS
 simp only [Msg.cells, Ln.zero, GE, zL] at HB HI hm hix hz ⊢
 have c1 := AA HI.out
 clear hk
 go_enter func320, ntmps320
 go_wp2_with fail
 generalize w.alloc _ = W0 at *
 replace HB := Vw HB.out.drew
 go_region_with (go_at_call 377; refine (hm _).mono ?_; rintro e w1 ⟨rfl, hb1⟩; replace HI := Vw (AB hb1 HI.out); replace HB := Vw (HB.out.trans (hb1.mono HB.out.size)); replace c1 := AA HI.out)
 all_goals
  go_wp2_with fail
  go_ret
  exact ⟨rfl, HB.out⟩
theorem NU (k l : Int) (hk : k = 3 ∨ k = 6) (h0 : 0 ≤ l) (h1 : l < 64) (w : World) : Y 320 #[.agg (Msg.mk k l false false Ln.zero).cells] w fun e w' => e = Z (.bool true) ∧ Below w w w' := by
 have k0 : 1 ≤ k := by omega
 have k1 : k ≤ 14 := by omega
 have hix := GS k 1 (by omega)
 have hm := ER
 have HB := Vw (AC w (.cells (Msg.mk k l false false Ln.zero).cells 253))
 have HI := Vw (AE w (.cells (Msg.mk k l false false Ln.zero).cells 253))
 have hz := MP
 obtain ⟨q1, q2, q3, q4⟩ := IS
 simp only [Msg.cells, Ln.zero, GE, zL] at HB HI hm hix hz ⊢
 have c1 := AA HI.out
 clear hk
 go_enter func320, ntmps320
 go_wp2_with fail
 generalize w.alloc _ = W0 at *
 replace HB := Vw HB.out.drew
 go_region_with (go_at_call 377; refine (hm _).mono ?_; rintro e w1 ⟨rfl, hb1⟩; replace HI := Vw (AB hb1 HI.out); replace HB := Vw (HB.out.trans (hb1.mono HB.out.size)); replace c1 := AA HI.out)
 all_goals
  go_wp2_with fail
  go_ret
  exact ⟨rfl, HB.out⟩
theorem RX (k l : Int) (kept : Bool) (hk : k = 7) (d : Ln) (h0 : 0 ≤ l) (h1 : l < 64) (w : World) : Y 320 #[.agg (Msg.mk k l true kept d).cells] w fun e w' => e = Z (.bool true) ∧ Below w w w' := by
 have k0 : 1 ≤ k := by omega
 have k1 : k ≤ 14 := by omega
 have hix := GS k 3 (by omega)
 have hm := ER
 have HB := Vw (AC w (.cells (Msg.mk k l true kept d).cells 253))
 have HI := Vw (AE w (.cells (Msg.mk k l true kept d).cells 253))
 have hz := MP
 obtain ⟨q1, q2, q3, q4⟩ := IS
 simp only [Msg.cells, Ln.zero, GE, zL] at HB HI hm hix hz ⊢
 have c1 := AA HI.out
 clear hk
 cases kept
 all_goals
  go_enter func320, ntmps320
  go_wp2_with fail
  generalize w.alloc _ = W0 at *
  replace HB := Vw HB.out.drew
  go_region_with (go_at_call 377; refine (hm _).mono ?_; rintro e w1 ⟨rfl, hb1⟩; replace HI := Vw (AB hb1 HI.out); replace HB := Vw (HB.out.trans (hb1.mono HB.out.size)); replace c1 := AA HI.out)
  all_goals
   go_wp2_with fail
   go_ret
   exact ⟨rfl, HB.out⟩
theorem QI (k l : Int) (kept : Bool) (hk : k = 7) (h0 : 0 ≤ l) (h1 : l < 64) (w : World) : Y 320 #[.agg (Msg.mk k l false kept Ln.zero).cells] w fun e w' => e = Z (.bool true) ∧ Below w w w' := by
 have k0 : 1 ≤ k := by omega
 have k1 : k ≤ 14 := by omega
 have hix := GS k 3 (by omega)
 have hm := ER
 have HB := Vw (AC w (.cells (Msg.mk k l false kept Ln.zero).cells 253))
 have HI := Vw (AE w (.cells (Msg.mk k l false kept Ln.zero).cells 253))
 have hz := MP
 obtain ⟨q1, q2, q3, q4⟩ := IS
 simp only [Msg.cells, Ln.zero, GE, zL] at HB HI hm hix hz ⊢
 have c1 := AA HI.out
 clear hk
 cases kept
 all_goals
  go_enter func320, ntmps320
  go_wp2_with fail
  generalize w.alloc _ = W0 at *
  replace HB := Vw HB.out.drew
  go_region_with (go_at_call 377; refine (hm _).mono ?_; rintro e w1 ⟨rfl, hb1⟩; replace HI := Vw (AB hb1 HI.out); replace HB := Vw (HB.out.trans (hb1.mono HB.out.size)); replace c1 := AA HI.out)
  all_goals
   go_wp2_with fail
   go_ret
   exact ⟨rfl, HB.out⟩
theorem Ok (k l : Int) (hk : k = 8 ∨ k = 9 ∨ k = 10) (d : Ln) (h0 : 0 ≤ l) (h1 : l < 64) (w : World) : Y 320 #[.agg (Msg.mk k l false false d).cells] w fun e w' => e = Z (.bool true) ∧ Below w w w' := by
 have k0 : 1 ≤ k := by omega
 have k1 : k ≤ 14 := by omega
 have hix := GS k 4 (by omega)
 have hm := ER
 have HB := Vw (AC w (.cells (Msg.mk k l false false d).cells 253))
 have HI := Vw (AE w (.cells (Msg.mk k l false false d).cells 253))
 have hz := MP
 obtain ⟨q1, q2, q3, q4⟩ := IS
 simp only [Msg.cells, Ln.zero, GE, zL] at HB HI hm hix hz ⊢
 have c1 := AA HI.out
 clear hk
 go_enter func320, ntmps320
 go_wp2_with fail
 generalize w.alloc _ = W0 at *
 replace HB := Vw HB.out.drew
 go_region_with (go_at_call 377; refine (hm _).mono ?_; rintro e w1 ⟨rfl, hb1⟩; replace HI := Vw (AB hb1 HI.out); replace HB := Vw (HB.out.trans (hb1.mono HB.out.size)); replace c1 := AA HI.out)
 all_goals
  go_wp2_with fail
  go_ret
  exact ⟨rfl, HB.out⟩
instance : Coe Ln (Array Value) := ⟨fun x => #[x.a, x.b, x.c, x.d, x.e, x.f, x.g, x.h]⟩
instance : Coe Msg (Array Value) := ⟨fun x => #[I x.kind, I x.line, x.dirty, x.kept, x.data.a, x.data.b, x.data.c, x.data.d, x.data.e, x.data.f, x.data.g, x.data.h]⟩
end Go.Proofs.YtkoplblbeapfgaaGreatDoor
