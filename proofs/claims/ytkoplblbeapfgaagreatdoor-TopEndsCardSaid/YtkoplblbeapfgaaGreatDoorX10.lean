/-
Parts of the walk of TopEnds. Conditions stand in each statement.
-/
import Derived.Test.YtkoplblbeapfgaaGreatDoorX05
import Derived.Test.YtkoplblbeapfgaaGreatDoorX07
import Derived.Test.YtkoplblbeapfgaaGreatDoorX08
import Derived.Test.YtkoplblbeapfgaaGreatDoorX09
namespace Go.Proofs.YtkoplblbeapfgaaGreatDoor
open Go.RowKit
open Tryz
set_option linter.all false
set_option maxRecDepth 100000
set_option maxHeartbeats 8000000
def Ag (w : World) (gb ab sb : Nat) (a : Arr) : Prop := Uc w gb ab ∧ ArrAt w ab sb a
theorem Ag.below {w w' : World} {gb ab sb : Nat} {a : Arr} (h : Ag w gb ab sb a) (hb : Below w w w') : Ag w' gb ab sb a := ⟨AB hb h.1, h.2.below hb⟩
theorem Ag.pres {w w' : World} {gb ab sb : Nat} {a a' : Arr} (h : Ag w gb ab sb a) (hp : Pres (fun k => k ≠ ab ∧ k ≠ sb) w w') (h' : ArrAt w' ab sb a') : Ag w' gb ab sb a' :=
 ⟨(hp.block gb (AF h.1) ⟨AG h.1 h.2.head (by decide), AG h.1 h.2.row (by decide)⟩).trans h.1, h'⟩
theorem RK {a a' : Arr} {line st : Int} {l : Ln} (h : a.put line st l = some a') : 0 ≤ line ∧ 1 ≤ st ∧ st ≤ 9 ∧ 0 ≤ a.place line ∧ 0 ≤ a.used ∧ a.used < 1000000 ∧ a' = a.num.putAt (a.place line) ⟨st, line, l, a.used + 1⟩ := by
 unfold Arr.put BK at h
 by_cases hc : (decide (0 ≤ line) && decide (1 ≤ st) && decide (st ≤ 9) && decide (0 ≤ a.place line) && decide (0 ≤ a.used) && decide (a.used < 1000000)) = true
 · rw [if_pos hc] at h
   simp at h hc
   obtain ⟨⟨⟨⟨⟨c1, c2⟩, c3⟩, c4⟩, c5⟩, c6⟩ := hc
   exact ⟨c1, c2, c3, c4, c5, c6, h.symm⟩
 · rw [if_neg hc] at h
   simp at h
theorem Gy (ab sb : Nat) (a a' : Arr) (line st : Int) (l : Ln) (hp : a.put line st l = some a') (w : World) (h : ArrAt w ab sb a) :
 Y 335 #[ab, I line, I st, .agg l] w fun e w' => e = Z (I 0) ∧ ArrAt w' ab sb a' ∧ Pres (fun k => k ≠ ab ∧ k ≠ sb) w w' := by
 obtain ⟨h0, h1, h2, h3, h4, h5, rfl⟩ := RK hp
 exact Pb ab sb a line st l h0 h1 h2 h3 h4 h5 w h
theorem Ce (gb ab sb : Nat) (a : Arr) (line : Int) (h0 : 0 ≤ line) (w : World) (h : Ag w gb ab sb a) : Y 331 #[gb, I line] w fun e w' => e = Z (.agg (a.find line).cells) ∧ Below w w w' := by
 have hf := fun w' hw' => Nr ab sb a line h0 w' hw'
 generalize a.find line = s at hf ⊢
 generalize decide (0 ≤ a.ix line) = q at hf
 have HB := Vw (AC w (.cells Slot.zero.cells 111))
 have HI := Vw (AE w (.cells Slot.zero.cells 111))
 simp only [Slot.cells, Slot.zero, Ln.zero] at HB HI hf ⊢
 have c := AA (h.below HB.out).1
 have H := Vw (h.below HB.out)
 clear h
 go_enter func331, ntmps331
 go_wp2_with fail
 refine (hf _ H.out.2).mono ?_
 rintro e w1 ⟨rfl, hb1⟩
 have hI := AB hb1 HI.out
 obtain ⟨W1, hE, hba, -⟩ := alloc_new w1 (.cells s 111)
 have hI2 := AB hba hI
 have c1 := AA hI2
 have f1 := AJ hI2
 have hlt := AF hI2
 have c2 := AA (show W1.heap[w1.heap.size]? = some (.cells s 111) from hE ▸ AE w1 _)
 have HL := Vw (WA hI2 (HB.out.trans ((hb1.trans (hba.mono hb1.size)).mono HB.out.size)))
 clear hI hI2 hba hb1
 go_wp2_with fail
 generalize hW : World.setCell _ ⟨w, 10, none⟩ _ = W5
 have hx : W5.heap[w.heap.size]? = some (.cells s 111) := by rw [← hW]; exact AT [I s.st, I s.line, U s.data.a, U s.data.b, U s.data.c, U s.data.d, U s.data.e, U s.data.f, U s.data.g, U s.data.h, I s.used] HL.out.1 0 _ (by kernel_rfl)
 have hbb : Below w w W5 := by rw [← hW]; exact Ac (Nat.le_refl _) [I s.st, I s.line, U s.data.a, U s.data.b, U s.data.c, U s.data.d, U s.data.e, U s.data.f, U s.data.g, U s.data.h, I s.used] HL.out.2 0
 clear hW
 have c5 := AA hx
 refine bodyPost_ret (v := .agg s) (by simp [results, results331, go_sem, c5]) rfl ⟨rfl, hbb⟩
theorem Dg (line word : Int) (h0 : 0 ≤ line) (h1 : line < 64) (h2 : 0 ≤ word) (h3 : word < 8) (w : World) : Y 372 #[I line, I word] w fun e w' => e = Z (.bool true) ∧ w = w' := by
 go_enter func372, ntmps372
 go_wp2_with fail
 go_ret
 exact ⟨by simp [h0, h1, h2, h3], rfl⟩
theorem Cw (gb ab sb : Nat) (a : Arr) (line : Int) (h0 : 0 ≤ line) (w : World) (h : Ag w gb ab sb a) : Y 373 #[gb, I line] w fun e w' => e = Z (.bool (a.owns line)) ∧ Below w w w' := by
 have hf := Ce gb ab sb a line h0 w h
 unfold Arr.owns
 generalize a.find line = s at hf ⊢
 simp only [Slot.cells] at hf
 clear h
 go_enter func373, ntmps373
 go_wp2_with fail
 refine hf.mono ?_
 rintro e w1 ⟨rfl, hb1⟩
 have fin : ∀ o : Obj, Below w w (w1.alloc o) := fun o => hb1.alloc hb1.size o
 go_wp2_with fail
 all_goals
  go_ret
  exact ⟨by simp [*] <;> rfl, fin _⟩
def Ar (gb ab sb : Nat) (w : World) (a' : Arr) (l : List Msg) (S : Value) (w' : World) : Prop :=
 AH w' 253 12 S l.length (Ao l) ∧ (∀ k, S.ownBlock = some k → w.heap.size ≤ k) ∧ Ag w' gb ab sb a' ∧ Pres (fun k => k ≠ ab ∧ k ≠ sb) w w'
theorem PA (gb ab sb : Nat) (a a' : Arr) (s : Slot) (hst : (s.st == 3) = false) (hp : a.put s.line 7 s.data = some a') (w : World) (h : Ag w gb ab sb a) : Y 339 #[gb, .agg s.cells] w fun e w' => ∃ S, e = Z S ∧ Ar gb ab sb w a' [Bu 3 s.line] S w' := by
 simp only [Slot.cells]
 obtain ⟨W1, hE, hb1, hI1⟩ := alloc_new w (.cells s 111)
 have c := AA (Ag.below h hb1).1
 have c0 := AA hI1
 have hlt1 := AF hI1
 have hltg := AF (Ag.below h hb1).1
 have H := Vw (Ag.below h hb1)
 have HB := Vw hb1
 have HI := Vw hI1
 clear h hb1 hI1
 go_enter func339, ntmps339
 go_wp2_with fail
 have hb2 := AC W1 (.cells #[I 3, I s.line, false, false, U 0, U 0, U 0, U 0, U 0, U 0, U 0, U 0] 253)
 have hM2 := AE W1 (.cells #[I 3, I s.line, false, false, U 0, U 0, U 0, U 0, U 0, U 0, U 0, U 0] 253)
 generalize W1.alloc (.cells #[I 3, I s.line, false, false, U 0, U 0, U 0, U 0, U 0, U 0, U 0, U 0] 253) = W2 at *
 replace c := AA (H.out.below hb2).1
 have c1 := AA (AB hb2 HI.out)
 have c2 := AA hM2
 have f2 := AJ hM2
 replace H := Vw (H.out.below hb2)
 replace HI := Vw (AB hb2 HI.out)
 have HM := Vw hM2
 have hs1 : w.heap.size ≤ W1.heap.size := HB.out.size
 replace HB := Vw (HB.out.trans (hb2.mono HB.out.size))
 clear hb2 hM2 c0 hE
 go_still_tail 9, (by kernel_rfl)
 change wpList _ _ _ _ _ W2.drew
 have HD := Vw (H.out.below (Below.refl W2.heap.size W2).drew)
 have HMD := Vw (show W2.drew.heap[W1.heap.size]? = some (.cells #[I 3, I s.line, false, false, U 0, U 0, U 0, U 0, U 0, U 0, U 0, U 0] 253) from HM.out)
 have HBD := Vw HB.out.drew
 generalize W2.drew = W3 at *
 go_wp2_with fail
 refine (Gy ab sb a a' s.line 7 s.data hp _ HD.out.2).mono ?_
 rintro e w4 ⟨rfl, g1, g2⟩
 have hM4 : w4.heap[W1.heap.size]? = _ := (g2.block W1.heap.size (AF HMD.out) ⟨(AG HD.out.2.head HMD.out (by decide)).symm, (AG HD.out.2.row HMD.out (by decide)).symm⟩).trans HMD.out
 have c4 := AA hM4
 have HF := Vw (WA g1 g2)
 have HN := Vw (AE w4 (.cells #[I 3, I s.line, false, false, U 0, U 0, U 0, U 0, U 0, U 0, U 0, U 0] 253))
 clear g1 g2 c c1 c2 f2 hM4
 go_wp2_with fail
 go_ret
 have hba := AC w4 (.cells #[I 3, I s.line, false, false, U 0, U 0, U 0, U 0, U 0, U 0, U 0, U 0] 253)
 refine ⟨_, rfl, AH.made (size := 12) (m := 1) HN.out rfl, ?_, (HD.out.pres HF.out.2 HF.out.1).below hba, ((Pres.of_below HBD.out).trans HF.out.2).trans (Pres.of_below hba)⟩
 intro k hk
 cases hk
 exact Vx HBD.out.size HF.out.2.size
theorem Ro (gb ab sb : Nat) (a a' : Arr) (s : Slot) (hst : s.st = 3) (hp : a.put s.line 9 s.data = some a') (w : World) (h : Ag w gb ab sb a) : Y 339 #[gb, .agg s.cells] w fun e w' => ∃ S, e = Z S ∧ Ar gb ab sb w a' [⟨3, s.line, true, false, s.data⟩] S w' := by
 simp only [Slot.cells]
 have c := AA h.1
 have hltg := AF h.1
 have HA := Vw h
 clear h
 go_enter func339, ntmps339
 go_wp2_with fail
 go_region
 have hb1 := AC w (.cells #[I 3, I s.line, s.data.a, s.data.b, s.data.c, s.data.d, s.data.e, s.data.f, s.data.g, s.data.h, I s.used] 111)
 have hb2 := AC (w.alloc (.cells #[I 3, I s.line, s.data.a, s.data.b, s.data.c, s.data.d, s.data.e, s.data.f, s.data.g, s.data.h, I s.used] 111)) (.cells #[I 3, I s.line, true, false, s.data.a, s.data.b, s.data.c, s.data.d, s.data.e, s.data.f, s.data.g, s.data.h] 253)
 have hI2 := AB hb2.drew (AE w (.cells #[I 3, I s.line, s.data.a, s.data.b, s.data.c, s.data.d, s.data.e, s.data.f, s.data.g, s.data.h, I s.used] 111))
 have hM2 : ((w.alloc (.cells #[I 3, I s.line, s.data.a, s.data.b, s.data.c, s.data.d, s.data.e, s.data.f, s.data.g, s.data.h, I s.used] 111)).alloc (.cells #[I 3, I s.line, true, false, s.data.a, s.data.b, s.data.c, s.data.d, s.data.e, s.data.f, s.data.g, s.data.h] 253)).drew.heap[w.heap.size + 1]? = some (.cells #[I 3, I s.line, true, false, s.data.a, s.data.b, s.data.c, s.data.d, s.data.e, s.data.f, s.data.g, s.data.h] 253) := by
  have := AE (w.alloc (.cells #[I 3, I s.line, s.data.a, s.data.b, s.data.c, s.data.d, s.data.e, s.data.f, s.data.g, s.data.h, I s.used] 111)) (.cells #[I 3, I s.line, true, false, s.data.a, s.data.b, s.data.c, s.data.d, s.data.e, s.data.f, s.data.g, s.data.h] 253)
  simp only [World.size_alloc] at this
  exact this
 have hb := hb1.trans (hb2.drew.mono hb1.size)
 generalize ((w.alloc (.cells #[I 3, I s.line, s.data.a, s.data.b, s.data.c, s.data.d, s.data.e, s.data.f, s.data.g, s.data.h, I s.used] 111)).alloc (.cells #[I 3, I s.line, true, false, s.data.a, s.data.b, s.data.c, s.data.d, s.data.e, s.data.f, s.data.g, s.data.h] 253)).drew = W2 at *
 replace c := AA (HA.out.below hb).1
 have c1 := AA hI2
 have c2 := AA hM2
 have H := Vw (HA.out.below hb)
 have HI := Vw hI2
 have HM := Vw hM2
 have HB := Vw hb
 clear hb hb1 hb2 hI2 hM2
 go_wp2_with fail
 go_still_tail 9, (by kernel_rfl)
 change wpList _ _ _ _ _ W2.drew
 have HD := Vw (H.out.below (Below.refl W2.heap.size W2).drew)
 have HMD := Vw (show W2.drew.heap[w.heap.size + 1]? = some (.cells #[I 3, I s.line, true, false, s.data.a, s.data.b, s.data.c, s.data.d, s.data.e, s.data.f, s.data.g, s.data.h] 253) from HM.out)
 have HBD := Vw HB.out.drew
 generalize W2.drew = W3 at *
 go_wp2_with fail
 refine (Gy ab sb a a' s.line 9 s.data hp _ HD.out.2).mono ?_
 rintro e w4 ⟨rfl, g1, g2⟩
 have hM4 : w4.heap[w.heap.size + 1]? = _ := (g2.block (w.heap.size + 1) (AF HMD.out) ⟨(AG HD.out.2.head HMD.out (by decide)).symm, (AG HD.out.2.row HMD.out (by decide)).symm⟩).trans HMD.out
 have c4 := AA hM4
 have HF := Vw (WA g1 g2)
 have HN := Vw (AE w4 (.cells #[I 3, I s.line, true, false, s.data.a, s.data.b, s.data.c, s.data.d, s.data.e, s.data.f, s.data.g, s.data.h] 253))
 clear g1 g2 c c1 c2 hM4
 go_wp2_with fail
 go_ret
 have hba := AC w4 (.cells #[I 3, I s.line, true, false, s.data.a, s.data.b, s.data.c, s.data.d, s.data.e, s.data.f, s.data.g, s.data.h] 253)
 refine ⟨_, rfl, AH.made (size := 12) (m := 1) HN.out rfl, ?_, (HD.out.pres HF.out.2 HF.out.1).below hba, ((Pres.of_below HBD.out).trans HF.out.2).trans (Pres.of_below hba)⟩
 intro k hk
 cases hk
 exact Vx HBD.out.size HF.out.2.size
theorem PB (gb ab sb : Nat) (a : Arr) (s : Slot) (r : Arr × List Msg) (hr : KL a s = some r) (w : World) (h : Ag w gb ab sb a) : Y 339 #[gb, .agg s.cells] w fun e w' => ∃ S, e = Z S ∧ Ar gb ab sb w r.1 r.2 S w' := by
 unfold KL at hr
 cases hst : (s.st == 3)
 · simp only [hst, Bool.false_eq_true, if_false, Option.map_eq_some_iff] at hr
   obtain ⟨a', hp, rfl⟩ := hr
   exact PA gb ab sb a a' s hst hp w h
 · simp only [hst, if_true, Option.map_eq_some_iff] at hr
   obtain ⟨a', hp, rfl⟩ := hr
   exact Ro gb ab sb a a' s (by simpa using hst) hp w h
theorem Ql (gb ab sb : Nat) (a : Arr) (line st kind : Int) (l : Ln) (h0 : 0 ≤ line) (hidle : a.idle = false) (w : World) (h : Ag w gb ab sb a) : Y 401 #[gb, I line, I st, I kind, .agg l] w fun e w' => ∃ S, e = Z S ∧ Ar gb ab sb w a [] S w' := by
 obtain ⟨W1, hE, hb1, hI1⟩ := alloc_new w (.cells l 109)
 have H := Vw (h.below hb1)
 have HB := Vw hb1
 have HI := Vw hI1
 clear h hb1 hI1
 go_enter func401, ntmps401
 go_wp2_with fail
 refine (Gm gb ab sb a _ H.out.1 H.out.2).mono ?_
 rintro e w2 ⟨rfl, hb2⟩
 rw [hidle]
 replace H := Vw (H.out.below hb2)
 replace HI := Vw (AB hb2 HI.out)
 replace HB := Vw (HB.out.trans (hb2.mono HB.out.size))
 have c := AA H.out.1
 have c1 := AA HI.out
 clear hE hb2
 go_wp2_with fail
 go_ret
 exact ⟨_, rfl, AH.nil _ _ _, by simp [Value.ownBlock], H.out, Pres.of_below HB.out⟩
theorem gaskX :
  (∀ (gb ab sb : Nat) (a : Arr) (line st kind : Int) (l : Ln) (h0 : 0 ≤ line) (hidle : a.idle = true) (hst : (st == 6) = false) (hfree : a.isFree = true) (a' : Arr) (hp : a.put line st l = some a') (w : World) (h : Ag w gb ab sb a), Y 401 #[gb, I line, I st, I kind, .agg l] w fun e w' => ∃ S, e = Z S ∧ Ar gb ab sb w a' [Bu kind line] S w') ∧
  (∀ (gb ab sb : Nat) (a : Arr) (line st kind : Int) (l : Ln) (h0 : 0 ≤ line) (hidle : a.idle = true) (hst : st = 6) (a' : Arr) (hp : a.put line st l = some a') (w : World) (h : Ag w gb ab sb a), Y 401 #[gb, I line, I st, I kind, .agg l] w fun e w' => ∃ S, e = Z S ∧ Ar gb ab sb w a' [Bu kind line] S w') := by
 refine ⟨?m0, ?m1⟩
 case' m0 =>
  intro gb ab sb a line st kind l h0 hidle hst hfree a' hp w h
  have mk_0 := trivial
 case' m1 =>
  intro gb ab sb a line st kind l h0 hidle hst a' hp w h
  have mk_1 := trivial
 all_goals
  first
   | guard_hyp mk_1
     subst hst
   | have hroom : Fv a = .tuple #[true, I (-1)] := by simp [Fv, hfree]
  obtain ⟨W1, hE, hb1, hI1⟩ := alloc_new w (.cells l 109)
  have H := Vw (h.below hb1)
  have HB := Vw hb1
  have HI := Vw hI1
  clear h hb1 hI1
  go_enter func401, ntmps401
  go_wp2_with fail
  refine (Gm gb ab sb a _ H.out.1 H.out.2).mono ?_
  rintro e w2 ⟨rfl, hb2⟩
  rw [hidle]
  replace H := Vw (H.out.below hb2)
  replace HI := Vw (AB hb2 HI.out)
  replace HB := Vw (HB.out.trans (hb2.mono HB.out.size))
  have c := AA H.out.1
  have c1 := AA HI.out
  clear hE hb2
  go_wp2_with fail
  first
   | guard_hyp mk_1
   | refine (Iv ab sb a line h0 _ H.out.2).mono ?_
     rintro e w3 ⟨rfl, hb3⟩
     rw [hroom]
     replace H := Vw (H.out.below hb3)
     replace HI := Vw (AB hb3 HI.out)
     replace HB := Vw (HB.out.trans (hb3.mono HB.out.size))
     replace c := AA H.out.1
     replace c1 := AA HI.out
     clear hb3
     go_wp2_with fail
  go_still_tail 7, (by kernel_rfl)
  first
   | guard_hyp mk_1
     change wpList _ _ _ _ _ w2.drew
     have HD := Vw (H.out.below (Below.refl w2.heap.size w2).drew)
   | change wpList _ _ _ _ _ w3.drew
     have HD := Vw (H.out.below (Below.refl w3.heap.size w3).drew)
  have HBD := Vw HB.out.drew
  first
   | guard_hyp mk_1
     generalize w2.drew = W3 at *
   | generalize w3.drew = W3 at *
  go_wp2_with fail
  refine (Gy ab sb a a' line _ l hp _ HD.out.2).mono ?_
  rintro e w4 ⟨rfl, g1, g2⟩
  have HF := Vw (WA g1 g2)
  have HN := Vw (AE w4 (.cells #[I kind, I line, false, false, U 0, U 0, U 0, U 0, U 0, U 0, U 0, U 0] 253))
  clear g1 g2 c c1
  go_wp2_with fail
  go_ret
  have hba := AC w4 (.cells #[I kind, I line, false, false, U 0, U 0, U 0, U 0, U 0, U 0, U 0, U 0] 253)
  refine ⟨_, rfl, AH.made (size := 12) (m := 1) HN.out rfl, ?_, (HD.out.pres HF.out.2 HF.out.1).below hba, ((Pres.of_below HBD.out).trans HF.out.2).trans (Pres.of_below hba)⟩
  intro k hk
  cases hk
  exact Vx HBD.out.size HF.out.2.size
theorem gaskY :
  (∀ (gb ab sb : Nat) (a : Arr) (line st kind : Int) (l : Ln) (h0 : 0 ≤ line) (hidle : a.idle = true) (hst : (st == 6) = false) (hfree : a.isFree = false) (v : Int) (hv : (BX (BX (-1, 0) a.s0) a.s1).1 = v) (hv0 : 0 ≤ v) (r : Arr × List Msg) (hr : KL a (a.find v) = some r) (w : World) (h : Ag w gb ab sb a), Y 401 #[gb, I line, I st, I kind, .agg l] w fun e w' => ∃ S, e = Z S ∧ Ar gb ab sb w r.1 r.2 S w') ∧
  (∀ (gb ab sb : Nat) (a : Arr) (line st kind : Int) (l : Ln) (h0 : 0 ≤ line) (hidle : a.idle = true) (hst : (st == 6) = false) (hfree : a.isFree = false) (v : Int) (hv : (BX (BX (-1, 0) a.s0) a.s1).1 = v) (hv0 : v < 0) (w : World) (h : Ag w gb ab sb a), Y 401 #[gb, I line, I st, I kind, .agg l] w fun e w' => ∃ S, e = Z S ∧ Ar gb ab sb w a [] S w') := by
 refine ⟨?m0, ?m1⟩
 case' m0 =>
  intro gb ab sb a line st kind l h0 hidle hst hfree v hv hv0 r hr w h
  have mk_0 := trivial
 case' m1 =>
  intro gb ab sb a line st kind l h0 hidle hst hfree v hv hv0 w h
  have mk_1 := trivial
 all_goals
  have hroom : Fv a = .tuple #[false, I v] := by simp [Fv, hfree, hv]
  obtain ⟨W1, hE, hb1, hI1⟩ := alloc_new w (.cells l 109)
  have H := Vw (h.below hb1)
  have HB := Vw hb1
  have HI := Vw hI1
  clear h hb1 hI1
  go_enter func401, ntmps401
  go_wp2_with fail
  refine (Gm gb ab sb a _ H.out.1 H.out.2).mono ?_
  rintro e w2 ⟨rfl, hb2⟩
  rw [hidle]
  replace H := Vw (H.out.below hb2)
  replace HI := Vw (AB hb2 HI.out)
  replace HB := Vw (HB.out.trans (hb2.mono HB.out.size))
  have c := AA H.out.1
  have c1 := AA HI.out
  clear hE hb2
  go_wp2_with fail
  refine (Iv ab sb a line h0 _ H.out.2).mono ?_
  rintro e w3 ⟨rfl, hb3⟩
  rw [hroom]
  replace H := Vw (H.out.below hb3)
  replace HI := Vw (AB hb3 HI.out)
  replace HB := Vw (HB.out.trans (hb3.mono HB.out.size))
  replace c := AA H.out.1
  replace c1 := AA HI.out
  clear hb3
  go_wp2_with fail
  first
   | guard_hyp mk_1
   | refine (Ce gb ab sb a v hv0 _ H.out).mono ?_
     rintro e w4 ⟨rfl, hb4⟩
     replace H := Vw (H.out.below hb4)
     replace HB := Vw (HB.out.trans (hb4.mono HB.out.size))
     clear c c1 hb4
     have ho := PB gb ab sb a (a.find v) r hr w4 H.out
     generalize (a.find v).cells = cs at ho ⊢
     go_wp2_with fail
     refine ho.mono ?_
     rintro e w5 ⟨S, rfl, g1, g2, g3, g4⟩
     obtain ⟨A, AV, rfl⟩ := g1.form
     go_wp2_with fail
  go_ret
  first
   | guard_hyp mk_1
     exact ⟨_, rfl, AH.nil _ _ _, by simp [Value.ownBlock], H.out, Pres.of_below HB.out⟩
   | exact ⟨_, rfl, g1, fun k hk => Vx HB.out.size (g2 k hk), g3, (Pres.of_below HB.out).trans g4⟩
theorem Gs (gb ab sb : Nat) (a : Arr) (line st kind : Int) (l : Ln) (h0 : 0 ≤ line) (r : Arr × List Msg) (hr : GM a line st kind l = some r) (w : World) (h : Ag w gb ab sb a) : Y 401 #[gb, I line, I st, I kind, .agg l] w fun e w' => ∃ S, e = Z S ∧ Ar gb ab sb w r.1 r.2 S w' := by
 unfold GM at hr
 cases hidle : a.idle
 · rw [hidle] at hr
   simp at hr
   subst hr
   exact Ql gb ab sb a line st kind l h0 hidle w h
 · rw [hidle] at hr
   simp only [if_true] at hr
   cases hst : (st == 6)
   · cases hfree : a.isFree
     · simp only [hst, hfree, Bool.or_self, Bool.false_eq_true, if_false] at hr
       by_cases hl : (decide (0 ≤ a.s0.line) && decide (0 ≤ a.s1.line)) = true
       · rw [if_pos hl] at hr
         simp at hl
         have hv := SZ a hl.1 hl.2
         by_cases hv0 : a.victim < 0
         · simp [hv0] at hr
           subst hr
           exact gaskY.2 gb ab sb a line st kind l h0 hidle hst hfree _ hv hv0 w h
         · simp [hv0] at hr
           exact gaskY.1 gb ab sb a line st kind l h0 hidle hst hfree _ hv (by omega) r hr w h
       · rw [if_neg hl] at hr
         cases hr
     · simp [hst, hfree] at hr
       obtain ⟨a', hp, rfl⟩ := hr
       exact gaskX.1 gb ab sb a line st kind l h0 hidle hst hfree a' hp w h
   · simp [hst] at hr
     obtain ⟨a', hp, rfl⟩ := hr
     exact gaskX.2 gb ab sb a line st kind l h0 hidle (by simpa using hst) a' hp w h
theorem Ar.from {gb ab sb : Nat} {w w1 w' : World} {a' : Arr} {l : List Msg} {S : Value} (hb : Below w w w1) (h : Ar gb ab sb w1 a' l S w') : Ar gb ab sb w a' l S w' :=
 ⟨h.1, fun k hk => Vx hb.size (h.2.1 k hk), h.2.2.1, (Pres.of_below hb).trans h.2.2.2⟩
theorem Ar.form {gb ab sb : Nat} {w w' : World} {a' : Arr} {l : List Msg} {S : Value} (h : Ar gb ab sb w a' l S w') : ∃ A AV, S = .slice A l.length AV := h.1.form
theorem Kg {w : World} {p : Nat} {s : Slot} (h : w.heap[p]? = some (.cells s 111)) (k : Nat) (hk : k < 8) : w.cell? ⟨p, 2 + k, none⟩ = U (s.data.get k) := by
 match k, hk with
 | 0, _ => exact AD h 2 rfl
 | 1, _ => exact AD h 3 rfl
 | 2, _ => exact AD h 4 rfl
 | 3, _ => exact AD h 5 rfl
 | 4, _ => exact AD h 6 rfl
 | 5, _ => exact AD h 7 rfl
 | 6, _ => exact AD h 8 rfl
 | 7, _ => exact AD h 9 rfl
 | n + 8, h => exact absurd h (by omega)
theorem Rz {w : World} {p : Nat} {s : Slot} (h : w.heap[p]? = some (.cells s 111)) (k : Nat) (hk : k < 8) (v : Int) : (w.setCell ⟨p, 2 + k, none⟩ (U v)).heap[p]? = some (.cells #[I s.st, I s.line, U (s.data.put v k).a, U (s.data.put v k).b, U (s.data.put v k).c, U (s.data.put v k).d, U (s.data.put v k).e, U (s.data.put v k).f, U (s.data.put v k).g, U (s.data.put v k).h, I s.used] 111) := by
 match k, hk with
 | 0, _ => exact AI h 2 _
 | 1, _ => exact AI h 3 _
 | 2, _ => exact AI h 4 _
 | 3, _ => exact AI h 5 _
 | 4, _ => exact AI h 6 _
 | 5, _ => exact AI h 7 _
 | 6, _ => exact AI h 8 _
 | 7, _ => exact AI h 9 _
 | n + 8, h => exact absurd h (by omega)
theorem NZ (gb ab sb : Nat) (a : Arr) (line : Int) (h0 : 0 ≤ line) (h1 : line < 64) (ho : a.owns line = true) (w : World) (h : Ag w gb ab sb a) : Y 374 #[gb, I line] w fun e w' => ∃ S, e = Z S ∧ Ar gb ab sb w a [] S w' := by
 have H := Vw h
 clear h
 go_enter func374, ntmps374
 go_wp2_with fail
 refine (Dg line 0 h0 h1 (by decide) (by decide) _).mono ?_
 rintro e w1 ⟨rfl, rfl⟩
 go_wp2_with fail
 refine (Cw gb ab sb a line h0 _ H.out).mono ?_
 rintro e w1 ⟨rfl, hb1⟩
 rw [ho]
 replace H := Vw (H.out.below hb1)
 have HB := Vw hb1
 clear hb1
 go_wp2_with fail
 go_ret
 exact ⟨_, rfl, AH.nil _ _ _, by simp [Value.ownBlock], H.out, Pres.of_below HB.out⟩
theorem Qf (gb ab sb : Nat) (a : Arr) (line : Int) (h0 : 0 ≤ line) (h1 : line < 64) (ho : a.owns line = false) (s : Slot) (hs : a.find line = s) (hc : (s.st == 1) = true) (r : Arr × List Msg) (hr : GM a line 6 2 s.data = some r) (w : World) (h : Ag w gb ab sb a) : Y 374 #[gb, I line] w fun e w' => ∃ S, e = Z S ∧ Ar gb ab sb w r.1 r.2 S w' := by
 have H := Vw h
 clear h
 go_enter func374, ntmps374
 go_wp2_with fail
 refine (Dg line 0 h0 h1 (by decide) (by decide) _).mono ?_
 rintro e w1 ⟨rfl, rfl⟩
 go_wp2_with fail
 refine (Cw gb ab sb a line h0 _ H.out).mono ?_
 rintro e w1 ⟨rfl, hb1⟩
 rw [ho]
 replace H := Vw (H.out.below hb1)
 have HB := Vw hb1
 clear hb1
 go_wp2_with fail
 have hf := Ce gb ab sb a line h0 _ H.out
 rw [hs] at hf
 simp only [Slot.cells] at hf
 refine hf.mono ?_
 rintro e w2 ⟨rfl, hb2⟩
 replace H := Vw (H.out.below hb2)
 replace HB := Vw (HB.out.trans (hb2.mono HB.out.size))
 have hb3 := AC w2 (.cells s 111)
 replace H := Vw (H.out.below hb3)
 replace HB := Vw (HB.out.trans (hb3.mono HB.out.size))
 clear hb2 hb3 hf
 go_wp2_with fail
 refine (Gs gb ab sb a line 6 2 s.data h0 r hr _ H.out).mono ?_
 rintro e w4 ⟨S, rfl, g⟩
 obtain ⟨A, AV, rfl⟩ := g.form
 have HG := Vw (g.from HB.out)
 clear g
 go_wp2_with fail
 go_ret
 exact ⟨_, rfl, HG.out⟩
theorem Oz (gb ab sb : Nat) (a : Arr) (line : Int) (h0 : 0 ≤ line) (h1 : line < 64) (ho : a.owns line = false) (s : Slot) (hs : a.find line = s) (hc : (s.st == 1) = false) (r : Arr × List Msg) (hr : GM a line 5 2 Ln.zero = some r) (w : World) (h : Ag w gb ab sb a) : Y 374 #[gb, I line] w fun e w' => ∃ S, e = Z S ∧ Ar gb ab sb w r.1 r.2 S w' := by
 have H := Vw h
 clear h
 go_enter func374, ntmps374
 go_wp2_with fail
 refine (Dg line 0 h0 h1 (by decide) (by decide) _).mono ?_
 rintro e w1 ⟨rfl, rfl⟩
 go_wp2_with fail
 refine (Cw gb ab sb a line h0 _ H.out).mono ?_
 rintro e w1 ⟨rfl, hb1⟩
 rw [ho]
 replace H := Vw (H.out.below hb1)
 have HB := Vw hb1
 clear hb1
 go_wp2_with fail
 have hf := Ce gb ab sb a line h0 _ H.out
 rw [hs] at hf
 simp only [Slot.cells] at hf
 refine hf.mono ?_
 rintro e w2 ⟨rfl, hb2⟩
 replace H := Vw (H.out.below hb2)
 replace HB := Vw (HB.out.trans (hb2.mono HB.out.size))
 have hb3 := AC w2 (.cells s 111)
 replace H := Vw (H.out.below hb3)
 replace HB := Vw (HB.out.trans (hb3.mono HB.out.size))
 clear hb2 hb3 hf
 go_wp2_with fail
 refine (Gs gb ab sb a line 5 2 Ln.zero h0 r hr _ H.out).mono ?_
 rintro e w4 ⟨S, rfl, g⟩
 obtain ⟨A, AV, rfl⟩ := g.form
 have HG := Vw (g.from HB.out)
 clear g
 go_wp2_with fail
 go_ret
 exact ⟨_, rfl, HG.out⟩
theorem Fl (gb ab sb : Nat) (a : Arr) (line : Int) (h0 : 0 ≤ line) (h1 : line < 64) (r : Arr × List Msg) (hr : FJ a line = some r) (w : World) (h : Ag w gb ab sb a) : Y 374 #[gb, I line] w fun e w' => ∃ S, e = Z S ∧ Ar gb ab sb w r.1 r.2 S w' := by
 unfold FJ at hr
 cases ho : a.owns line
 · rw [ho] at hr
   cases hc : ((a.find line).st == 1)
   · simp only [hc, Bool.false_eq_true, if_false] at hr
     exact Oz gb ab sb a line h0 h1 ho _ rfl hc r hr w h
   · simp only [hc, Bool.false_eq_true, if_false, if_true] at hr
     exact Qf gb ab sb a line h0 h1 ho _ rfl hc r hr w h
 · rw [ho] at hr
   simp at hr
   subst hr
   exact NZ gb ab sb a line h0 h1 ho w h
theorem gloadX :
  (∀ (gb ab sb : Nat) (a : Arr) (line word : Int) (h0 : 0 ≤ line) (h1 : line < 64) (k0 : 0 ≤ word) (k1 : word < 8) (s : Slot) (hs : a.find line = s) (hst : (s.st == 1) = true) (hu0 : 0 ≤ a.used) (hu1 : a.used < 1000000) (w : World) (h : Ag w gb ab sb a), Y 398 #[gb, I line, I word] w fun e w' => ∃ S, e = Z (.tuple #[U (s.data.get word.toNat), true, S]) ∧ Ar gb ab sb w (a.touch line) [] S w') ∧
  (∀ (gb ab sb : Nat) (a : Arr) (line word : Int) (h0 : 0 ≤ line) (h1 : line < 64) (k0 : 0 ≤ word) (k1 : word < 8) (s : Slot) (hs : a.find line = s) (e1 : (s.st == 1) = false) (hst : (s.st == 2) = true) (hu0 : 0 ≤ a.used) (hu1 : a.used < 1000000) (w : World) (h : Ag w gb ab sb a), Y 398 #[gb, I line, I word] w fun e w' => ∃ S, e = Z (.tuple #[U (s.data.get word.toNat), true, S]) ∧ Ar gb ab sb w (a.touch line) [] S w') ∧
  (∀ (gb ab sb : Nat) (a : Arr) (line word : Int) (h0 : 0 ≤ line) (h1 : line < 64) (k0 : 0 ≤ word) (k1 : word < 8) (s : Slot) (hs : a.find line = s) (e1 : (s.st == 1) = false) (e2 : (s.st == 2) = false) (hst : (s.st == 3) = true) (hu0 : 0 ≤ a.used) (hu1 : a.used < 1000000) (w : World) (h : Ag w gb ab sb a), Y 398 #[gb, I line, I word] w fun e w' => ∃ S, e = Z (.tuple #[U (s.data.get word.toNat), true, S]) ∧ Ar gb ab sb w (a.touch line) [] S w') ∧
  (∀ (gb ab sb : Nat) (a : Arr) (line word : Int) (h0 : 0 ≤ line) (h1 : line < 64) (k0 : 0 ≤ word) (k1 : word < 8) (s : Slot) (hs : a.find line = s) (e1 : (s.st == 1) = false) (e2 : (s.st == 2) = false) (e3 : (s.st == 3) = false) (hst : (s.st == 6) = true) (hu0 : 0 ≤ a.used) (hu1 : a.used < 1000000) (w : World) (h : Ag w gb ab sb a), Y 398 #[gb, I line, I word] w fun e w' => ∃ S, e = Z (.tuple #[U (s.data.get word.toNat), true, S]) ∧ Ar gb ab sb w (a.touch line) [] S w') := by
 refine ⟨?m0, ?m1, ?m2, ?m3⟩
 case' m0 =>
  intro gb ab sb a line word h0 h1 k0 k1 s hs hst hu0 hu1 w h
  have mk_0 := trivial
 case' m1 =>
  intro gb ab sb a line word h0 h1 k0 k1 s hs e1 hst hu0 hu1 w h
  have mk_1 := trivial
 case' m2 =>
  intro gb ab sb a line word h0 h1 k0 k1 s hs e1 e2 hst hu0 hu1 w h
  have mk_2 := trivial
 case' m3 =>
  intro gb ab sb a line word h0 h1 k0 k1 s hs e1 e2 e3 hst hu0 hu1 w h
  have mk_3 := trivial
 all_goals
  have H := Vw h
  have hsb := AF h.2.row
  clear h
  go_enter func398, ntmps398
  go_wp2_with fail
  refine (Dg line word h0 h1 k0 k1 _).mono ?_
  rintro e w1 ⟨rfl, rfl⟩
  go_wp2_with fail
  have hf := Ce gb ab sb a line h0 _ H.out
  rw [hs] at hf
  simp only [Slot.cells] at hf
  refine hf.mono ?_
  rintro e w2 ⟨rfl, hb2⟩
  replace H := Vw (H.out.below hb2)
  have hb3 := AC w2 (.cells s 111)
  have hI := AE w2 (.cells s 111)
  replace H := Vw (H.out.below hb3)
  clear hf
  obtain ⟨W3, hE⟩ := ex_ (w2.alloc (.cells s 111))
  rw [hE] at hb3 hI H
  have HB := Vw (hb2.trans (hb3.mono hb2.size))
  have HI := Vw hI
  have c := AA H.out.1
  have c1 := AA hI
  have HNE := Vw (show w2.heap.size ≠ sb by have := hb2.size; omega)
  clear hb2 hb3 hI
  go_wp2_with fail
  refine (Mh ab sb a line h0 hu0 hu1 _ H.out.2).mono ?_
  rintro e w4 ⟨rfl, g1, g2⟩
  have hI4 := (g2.block w2.heap.size (AF HI.out) ⟨(AG H.out.2.head HI.out (by decide)).symm, HNE.out⟩).trans HI.out
  have hk : word.toNat < 8 := by omega
  have cw := Kg hI4 word.toNat hk
  have HF := Vw (WA (H.out.pres g2 g1) ((Pres.of_below HB.out).trans g2))
  clear g1 g2 c c1 hI4 hE
  go_wp2_with fail
  go_ret3
  exact ⟨_, rfl, AH.nil _ _ _, by simp [Value.ownBlock], HF.out.1, HF.out.2⟩
theorem PD (gb ab sb : Nat) (a : Arr) (line word : Int) (h0 : 0 ≤ line) (h1 : line < 64) (k0 : 0 ≤ word) (k1 : word < 8) (s : Slot) (hs : a.find line = s) (e1 : (s.st == 1) = false) (e2 : (s.st == 2) = false) (e3 : (s.st == 3) = false) (e6 : (s.st == 6) = false) (r : Arr × List Msg) (hr : GM a line 4 1 Ln.zero = some r) (w : World) (h : Ag w gb ab sb a) : Y 398 #[gb, I line, I word] w fun e w' => ∃ S, e = Z (.tuple #[U 0, false, S]) ∧ Ar gb ab sb w r.1 r.2 S w' := by
 have H := Vw h
 have hsb := AF h.2.row
 clear h
 go_enter func398, ntmps398
 go_wp2_with fail
 refine (Dg line word h0 h1 k0 k1 _).mono ?_
 rintro e w1 ⟨rfl, rfl⟩
 go_wp2_with fail
 have hf := Ce gb ab sb a line h0 _ H.out
 rw [hs] at hf
 simp only [Slot.cells] at hf
 refine hf.mono ?_
 rintro e w2 ⟨rfl, hb2⟩
 replace H := Vw (H.out.below hb2)
 have hb3 := AC w2 (.cells s 111)
 have hI := AE w2 (.cells s 111)
 replace H := Vw (H.out.below hb3)
 clear hf
 have HB := Vw (hb2.trans (hb3.mono hb2.size))
 clear hb2 hb3 hI
 go_wp2_with fail
 refine (Gs gb ab sb a line 4 1 Ln.zero h0 r hr _ H.out).mono ?_
 rintro e w4 ⟨S, rfl, g⟩
 obtain ⟨A, AV, rfl⟩ := g.form
 have HG := Vw (g.from HB.out)
 clear g
 go_wp2_with fail
 go_ret3
 exact ⟨_, rfl, HG.out⟩
theorem Ik (gb ab sb : Nat) (a : Arr) (line word : Int) (h0 : 0 ≤ line) (h1 : line < 64) (k0 : 0 ≤ word) (k1 : word < 8) (a' : Arr) (v : Int) (hit : Bool) (l : List Msg) (hr : IN a line word = some (a', v, hit, l)) (w : World) (h : Ag w gb ab sb a) :
 Y 398 #[gb, I line, I word] w fun e w' => ∃ S, e = Z (.tuple #[v, hit, S]) ∧ Ar gb ab sb w a' l S w' := by
 unfold IN UB at hr
 cases e1 : ((a.find line).st == 1) <;> cases e2 : ((a.find line).st == 2) <;> cases e3 : ((a.find line).st == 3) <;> cases e6 : ((a.find line).st == 6) <;> simp only [e1, e2, e3, e6, Bool.or_true, Bool.true_or, Bool.or_false, Bool.or_self, Bool.false_eq_true, if_true, if_false] at hr
 · simp only [Option.map_eq_some_iff] at hr
   obtain ⟨r, hr, hx⟩ := hr
   simp only [Prod.mk.injEq] at hx
   obtain ⟨rfl, rfl, rfl, rfl⟩ := hx
   exact PD gb ab sb a line word h0 h1 k0 k1 _ rfl e1 e2 e3 e6 r hr w h
 all_goals
  by_cases hu : (decide (0 ≤ a.used) && decide (a.used < 1000000)) = true
  · rw [if_pos hu] at hr
    simp only [Option.some.injEq, Prod.mk.injEq] at hr
    obtain ⟨rfl, rfl, rfl, rfl⟩ := hr
    simp only [Bool.and_eq_true, decide_eq_true_eq] at hu
    first
     | exact gloadX.1 gb ab sb a line word h0 h1 k0 k1 _ rfl e1 hu.1 hu.2 w h
     | exact gloadX.2.1 gb ab sb a line word h0 h1 k0 k1 _ rfl e1 e2 hu.1 hu.2 w h
     | exact gloadX.2.2.1 gb ab sb a line word h0 h1 k0 k1 _ rfl e1 e2 e3 hu.1 hu.2 w h
     | exact gloadX.2.2.2 gb ab sb a line word h0 h1 k0 k1 _ rfl e1 e2 e3 e6 hu.1 hu.2 w h
  · rw [if_neg hu] at hr
    cases hr
theorem NY (gb ab sb : Nat) (a : Arr) (line word v : Int) (h0 : 0 ≤ line) (h1 : line < 64) (k0 : 0 ≤ word) (k1 : word < 8) (ho : a.owns line = false) (r : Arr × List Msg) (hr : FJ a line = some r) (w : World) (h : Ag w gb ab sb a) : Y 314 #[gb, I line, I word, v] w fun e w' => ∃ S, e = Z (.tuple #[false, S]) ∧ Ar gb ab sb w r.1 r.2 S w' := by
 have H := Vw h
 have hsb := AF h.2.row
 clear h
 go_enter func314, ntmps314
 go_wp2_with fail
 refine (Dg line word h0 h1 k0 k1 _).mono ?_
 rintro e w1 ⟨rfl, rfl⟩
 go_wp2_with fail
 refine (Cw gb ab sb a line h0 _ H.out).mono ?_
 rintro e w1 ⟨rfl, hb1⟩
 rw [ho]
 replace H := Vw (H.out.below hb1)
 have HB1 := Vw hb1
 clear hb1
 go_wp2_with fail
 refine (Fl gb ab sb a line h0 h1 r hr _ H.out).mono ?_
 rintro e w4 ⟨S, rfl, g⟩
 obtain ⟨A, AV, rfl⟩ := g.form
 have HG := Vw (g.from HB1.out)
 clear g
 go_wp2_with fail
 go_ret2
 exact ⟨_, rfl, HG.out⟩
theorem Oy (gb ab sb : Nat) (a : Arr) (line word v : Int) (h0 : 0 ≤ line) (h1 : line < 64) (k0 : 0 ≤ word) (k1 : word < 8) (ho : a.owns line = true) (s : Slot) (hs : a.find line = s) (a' : Arr) (hp : a.put line 3 (s.data.put v word.toNat) = some a') (w : World) (h : Ag w gb ab sb a) : Y 314 #[gb, I line, I word, v] w fun e w' => ∃ S, e = Z (.tuple #[true, S]) ∧ Ar gb ab sb w a' [] S w' := by
 have H := Vw h
 have hsb := AF h.2.row
 clear h
 go_enter func314, ntmps314
 go_wp2_with fail
 refine (Dg line word h0 h1 k0 k1 _).mono ?_
 rintro e w1 ⟨rfl, rfl⟩
 go_wp2_with fail
 refine (Cw gb ab sb a line h0 _ H.out).mono ?_
 rintro e w1 ⟨rfl, hb1⟩
 rw [ho]
 replace H := Vw (H.out.below hb1)
 have HB1 := Vw hb1
 clear hb1
 go_wp2_with fail
 have hf := Ce gb ab sb a line h0 _ H.out
 rw [hs] at hf
 simp only [Slot.cells] at hf
 refine hf.mono ?_
 rintro e w2 ⟨rfl, hb2⟩
 replace H := Vw (H.out.below hb2)
 have hb3 := AC w2 (.cells s 111)
 have hI := AE w2 (.cells s 111)
 replace H := Vw (H.out.below hb3)
 clear hf
 obtain ⟨W3, hE⟩ := ex_ (w2.alloc (.cells s 111))
 rw [hE] at hb3 hI H
 have HB := Vw (HB1.out.trans ((hb2.trans (hb3.mono hb2.size)).mono HB1.out.size))
 have hk : word.toNat < 8 := by omega
 have cw := Kg hI word.toNat hk
 have fw := Aq hI (2 + word.toNat)
 have HD := Vw (Rz hI word.toNat hk v)
 have hne1 : gb ≠ w2.heap.size := AG H.out.1 hI (by decide)
 have hne2 : ab ≠ w2.heap.size := AG H.out.2.head hI (by decide)
 have hne3 : sb ≠ w2.heap.size := by have := HB1.out.size; have := hb2.size; omega
 have hge : w.heap.size ≤ w2.heap.size := Vx HB1.out.size hb2.size
 clear hb2 hb3 hI
 go_wp2_with fail
 have HP := Vw ((Pres.of_below (Av := fun k => k ≠ ab ∧ k ≠ sb) HB.out).setNew (p := ⟨w2, 2 + word.toNat, none⟩) hge (U v))
 replace H := Vw (show Ag (W3.setCell ⟨w2, 2 + word.toNat, none⟩ (U v)) gb ab sb a from ⟨(Vz _ _ _ _ hne1).trans H.out.1, H.out.2.kept (Vz _ _ _ _ hne2) (Vz _ _ _ _ hne3)⟩)
 clear cw fw hE
 generalize W3.setCell ⟨w2, 2 + word.toNat, none⟩ (U v) = W4 at *
 have c := AA H.out.1
 have c1 := AA HD.out
 go_still_tail 7, (by kernel_rfl)
 change wpList _ _ _ _ _ W4.drew
 replace H := Vw (H.out.below (Below.refl W4.heap.size W4).drew)
 replace HP := Vw HP.out.drew
 generalize W4.drew = W5 at *
 go_wp2_with fail
 refine (Gy ab sb a a' line 3 _ hp _ H.out.2).mono ?_
 rintro e w6 ⟨rfl, g1, g2⟩
 have HF := Vw (WA (H.out.pres g2 g1) (HP.out.trans g2))
 clear g1 g2 c c1
 go_wp2_with fail
 go_ret2
 exact ⟨_, rfl, AH.nil _ _ _, by simp [Value.ownBlock], HF.out.1, HF.out.2⟩
theorem IF (gb ab sb : Nat) (a : Arr) (line word v : Int) (h0 : 0 ≤ line) (h1 : line < 64) (k0 : 0 ≤ word) (k1 : word < 8) (a' : Arr) (hit : Bool) (l : List Msg) (hr : GQ a line word v = some (a', hit, l)) (w : World) (h : Ag w gb ab sb a) :
 Y 314 #[gb, I line, I word, v] w fun e w' => ∃ S, e = Z (.tuple #[hit, S]) ∧ Ar gb ab sb w a' l S w' := by
 unfold GQ at hr
 cases ho : a.owns line <;> simp only [ho, Bool.false_eq_true, if_true, if_false, Option.map_eq_some_iff] at hr
 · obtain ⟨r, hr, hx⟩ := hr
   simp only [Prod.mk.injEq] at hx
   obtain ⟨rfl, rfl, rfl⟩ := hx
   exact NY gb ab sb a line word v h0 h1 k0 k1 ho r hr w h
 · obtain ⟨a2, hr, hx⟩ := hr
   simp only [Prod.mk.injEq] at hx
   obtain ⟨rfl, rfl, rfl⟩ := hx
   exact Oy gb ab sb a line word v h0 h1 k0 k1 ho _ rfl _ hr w h
theorem FK (k l : Int) (md mk : Bool) (dat : Ln) (st sl used : Int) (data : Ln) (next : Int) (k12 : (k == 12) = false) (k13 : (k == 13) = false) (w : World) : Y 334 #[.agg #[I k, I l, md, mk, dat.a, dat.b, dat.c, dat.d, dat.e, dat.f, dat.g, dat.h], .agg #[I st, I sl, data.a, data.b, data.c, data.d, data.e, data.f, data.g, data.h, I used], I next] w fun e w' => ∃ S, e = Z S ∧ AH w' 253 12 S ([] : List Msg).length (Ao ([] : List Msg)) ∧ (∀ k, S.ownBlock = some k → w.heap.size ≤ k) ∧ Below w w w' := by
 go_enter func334, ntmps334
 go_wp2_with fail
 go_ret
 exact ⟨_, rfl, AH.nil _ _ _, by simp [Value.ownBlock], (((AC w (.cells #[I k, I l, md, mk, dat.a, dat.b, dat.c, dat.d, dat.e, dat.f, dat.g, dat.h] 253)).trans ((AC _ (.cells #[I st, I sl, data.a, data.b, data.c, data.d, data.e, data.f, data.g, data.h, I used] 111)).mono (by simp))).trans ((AC _ (.cells #[I 0, I l, false, false, U 0, U 0, U 0, U 0, U 0, U 0, U 0, U 0] 253)).mono (by simp; omega)))⟩
theorem MO (l : Int) (md mk : Bool) (dat : Ln) (st sl used : Int) (data : Ln) (next : Int) (s3 : (st == 3) = false) (s9 : (st == 9) = false) (w : World) : Y 334 #[.agg #[I 12, I l, md, mk, dat.a, dat.b, dat.c, dat.d, dat.e, dat.f, dat.g, dat.h], .agg #[I st, I sl, data.a, data.b, data.c, data.d, data.e, data.f, data.g, data.h, I used], I next] w fun e w' => ∃ S, e = Z S ∧ AH w' 253 12 S [Bu 6 l].length (Ao [Bu 6 l]) ∧ (∀ k, S.ownBlock = some k → w.heap.size ≤ k) ∧ Below w w w' := by
 go_enter func334, ntmps334
 go_wp2_with fail
 go_ret
 have hb := (((AC w (.cells #[I 12, I l, md, mk, dat.a, dat.b, dat.c, dat.d, dat.e, dat.f, dat.g, dat.h] 253)).trans ((AC _ (.cells #[I st, I sl, data.a, data.b, data.c, data.d, data.e, data.f, data.g, data.h, I used] 111)).mono (by simp))).trans ((AC _ (.cells #[I 6, I l, false, false, U 0, U 0, U 0, U 0, U 0, U 0, U 0, U 0] 253)).mono (by simp; omega)))
 have hsz : ((((w.alloc (.cells #[I 12, I l, md, mk, dat.a, dat.b, dat.c, dat.d, dat.e, dat.f, dat.g, dat.h] 253)).alloc (.cells #[I st, I sl, data.a, data.b, data.c, data.d, data.e, data.f, data.g, data.h, I used] 111)).alloc (.cells #[I 6, I l, false, false, U 0, U 0, U 0, U 0, U 0, U 0, U 0, U 0] 253))).heap.size = w.heap.size + 1 + 1 + 1 := by simp
 generalize (((w.alloc (.cells #[I 12, I l, md, mk, dat.a, dat.b, dat.c, dat.d, dat.e, dat.f, dat.g, dat.h] 253)).alloc (.cells #[I st, I sl, data.a, data.b, data.c, data.d, data.e, data.f, data.g, data.h, I used] 111)).alloc (.cells #[I 6, I l, false, false, U 0, U 0, U 0, U 0, U 0, U 0, U 0, U 0] 253)) = W9 at *
 have e9 := AE W9 (.cells #[I 6, I l, false, false, U 0, U 0, U 0, U 0, U 0, U 0, U 0, U 0] 253)
 rw [hsz] at e9
 have hb9 := AC W9 (.cells #[I 6, I l, false, false, U 0, U 0, U 0, U 0, U 0, U 0, U 0, U 0] 253)
 refine ⟨_, rfl, AH.made (size := 12) (m := 1) e9 rfl, fun k hk => ?_, hb.trans (hb9.mono hb.size)⟩
 cases hk
 show w.heap.size ≤ w.heap.size + 1 + 1 + 1
 omega
theorem PF (l : Int) (md mk : Bool) (dat : Ln) (sl used : Int) (data : Ln) (next : Int) (w : World) : Y 334 #[.agg #[I 12, I l, md, mk, dat.a, dat.b, dat.c, dat.d, dat.e, dat.f, dat.g, dat.h], .agg #[I 3, I sl, data.a, data.b, data.c, data.d, data.e, data.f, data.g, data.h, I used], I next] w fun e w' => ∃ S, e = Z S ∧ AH w' 253 12 S ([⟨6, l, true, false, data⟩] : List Msg).length (Ao ([⟨6, l, true, false, data⟩] : List Msg)) ∧ (∀ k, S.ownBlock = some k → w.heap.size ≤ k) ∧ Below w w w' := by
 go_enter func334, ntmps334
 go_wp2_with fail
 go_region
 go_wp2_with fail
 go_ret
 have hb := ((((AC w (.cells #[I 12, I l, md, mk, dat.a, dat.b, dat.c, dat.d, dat.e, dat.f, dat.g, dat.h] 253)).trans ((AC _ (.cells #[I 3, I sl, data.a, data.b, data.c, data.d, data.e, data.f, data.g, data.h, I used] 111)).mono (by simp))).trans ((AC _ (.cells #[I 6, I l, true, false, data.a, data.b, data.c, data.d, data.e, data.f, data.g, data.h] 253)).mono (by simp; omega))))
 have hsz : ((((w.alloc (.cells #[I 12, I l, md, mk, dat.a, dat.b, dat.c, dat.d, dat.e, dat.f, dat.g, dat.h] 253)).alloc (.cells #[I 3, I sl, data.a, data.b, data.c, data.d, data.e, data.f, data.g, data.h, I used] 111)).alloc (.cells #[I 6, I l, true, false, data.a, data.b, data.c, data.d, data.e, data.f, data.g, data.h] 253))).heap.size = w.heap.size + 1 + 1 + 1 := by simp
 generalize (((w.alloc (.cells #[I 12, I l, md, mk, dat.a, dat.b, dat.c, dat.d, dat.e, dat.f, dat.g, dat.h] 253)).alloc (.cells #[I 3, I sl, data.a, data.b, data.c, data.d, data.e, data.f, data.g, data.h, I used] 111)).alloc (.cells #[I 6, I l, true, false, data.a, data.b, data.c, data.d, data.e, data.f, data.g, data.h] 253)) = W9 at *
 have e9 := AE W9 (.cells #[I 6, I l, true, false, data.a, data.b, data.c, data.d, data.e, data.f, data.g, data.h] 253)
 rw [hsz] at e9
 have hb9 := AC W9 (.cells #[I 6, I l, true, false, data.a, data.b, data.c, data.d, data.e, data.f, data.g, data.h] 253)
 refine ⟨_, rfl, AH.made (size := 12) (m := 1) e9 rfl, fun k hk => ?_, (hb.trans (hb9.mono hb.size)).drew⟩
 cases hk
 show w.heap.size ≤ w.heap.size + 1 + 1 + 1
 omega
theorem Qm (l : Int) (md mk : Bool) (dat : Ln) (sl used : Int) (data : Ln) (w : World) : Y 334 #[.agg #[I 13, I l, md, mk, dat.a, dat.b, dat.c, dat.d, dat.e, dat.f, dat.g, dat.h], .agg #[I 3, I sl, data.a, data.b, data.c, data.d, data.e, data.f, data.g, data.h, I used], I 1] w fun e w' => ∃ S, e = Z S ∧ AH w' 253 12 S ([⟨7, l, true, true, data⟩] : List Msg).length (Ao ([⟨7, l, true, true, data⟩] : List Msg)) ∧ (∀ k, S.ownBlock = some k → w.heap.size ≤ k) ∧ Below w w w' := by
 go_enter func334, ntmps334
 go_wp2_with fail
 go_region
 go_wp2_with fail
 go_ret
 have hb := ((((AC w (.cells #[I 13, I l, md, mk, dat.a, dat.b, dat.c, dat.d, dat.e, dat.f, dat.g, dat.h] 253)).trans ((AC _ (.cells #[I 3, I sl, data.a, data.b, data.c, data.d, data.e, data.f, data.g, data.h, I used] 111)).mono (by simp))).trans ((AC _ (.cells #[I 7, I l, true, true, data.a, data.b, data.c, data.d, data.e, data.f, data.g, data.h] 253)).mono (by simp; omega))))
 have hsz : ((((w.alloc (.cells #[I 13, I l, md, mk, dat.a, dat.b, dat.c, dat.d, dat.e, dat.f, dat.g, dat.h] 253)).alloc (.cells #[I 3, I sl, data.a, data.b, data.c, data.d, data.e, data.f, data.g, data.h, I used] 111)).alloc (.cells #[I 7, I l, true, true, data.a, data.b, data.c, data.d, data.e, data.f, data.g, data.h] 253))).heap.size = w.heap.size + 1 + 1 + 1 := by simp
 generalize (((w.alloc (.cells #[I 13, I l, md, mk, dat.a, dat.b, dat.c, dat.d, dat.e, dat.f, dat.g, dat.h] 253)).alloc (.cells #[I 3, I sl, data.a, data.b, data.c, data.d, data.e, data.f, data.g, data.h, I used] 111)).alloc (.cells #[I 7, I l, true, true, data.a, data.b, data.c, data.d, data.e, data.f, data.g, data.h] 253)) = W9 at *
 have e9 := AE W9 (.cells #[I 7, I l, true, true, data.a, data.b, data.c, data.d, data.e, data.f, data.g, data.h] 253)
 rw [hsz] at e9
 have hb9 := AC W9 (.cells #[I 7, I l, true, true, data.a, data.b, data.c, data.d, data.e, data.f, data.g, data.h] 253)
 refine ⟨_, rfl, AH.made (size := 12) (m := 1) e9 rfl, fun k hk => ?_, (hb.trans (hb9.mono hb.size)).drew⟩
 cases hk
 show w.heap.size ≤ w.heap.size + 1 + 1 + 1
 omega
theorem Lp (w : World) : Y 119 #[I 5, I 1] w fun e w' => ∃ d mb, e = Z (.tuple #[.pointer (some ⟨d, 0, none⟩), I 0]) ∧ Bh w' d mb 0 0 [Ln.zero, Ln.zero, Ln.zero, Ln.zero, Ln.zero] ∧ w.heap.size ≤ d ∧ w.heap.size ≤ mb ∧ Below w w w' := by
 have hmk : ∀ w : World, (Instr.makeSlice 76 (I 5) (I 5)).run prog w = .ok (.slice (some ⟨w.heap.size, 0, none⟩) 5 5) (w.alloc (.cells #[U 0, U 0, U 0, U 0, U 0, U 0, U 0, U 0, U 0, U 0, U 0, U 0, U 0, U 0, U 0, U 0, U 0, U 0, U 0, U 0, U 0, U 0, U 0, U 0, U 0, U 0, U 0, U 0, U 0, U 0, U 0, U 0, U 0, U 0, U 0, U 0, U 0, U 0, U 0, U 0] 109)) := fun w => by kernel_rfl
 obtain ⟨W1, hE, hb1, hI1⟩ := alloc_new w (.cells #[U 0, U 0, U 0, U 0, U 0, U 0, U 0, U 0, U 0, U 0, U 0, U 0, U 0, U 0, U 0, U 0, U 0, U 0, U 0, U 0, U 0, U 0, U 0, U 0, U 0, U 0, U 0, U 0, U 0, U 0, U 0, U 0, U 0, U 0, U 0, U 0, U 0, U 0, U 0, U 0] 109)
 have HX := Vw (WA hb1 hI1)
 clear hb1 hI1
 go_enter func119, ntmps119
 go_wp2_with fail
 go_ret2
 have hb2 := AC W1 (.cells #[.slice (some w) 5 5, I 1, I 0, I 0] 292)
 first
  | exact ⟨W1.heap.size, w.heap.size, rfl, ⟨AE W1 _, AB hb2 HX.out.2, rfl⟩, HX.out.1.size, Nat.le_refl _, HX.out.1.trans (hb2.mono HX.out.1.size)⟩
  | exact ⟨W1.heap.size, rfl, w.heap.size, ⟨AE W1 _, AB hb2 HX.out.2, rfl⟩, HX.out.1.size, Nat.le_refl _, HX.out.1.trans (hb2.mono HX.out.1.size)⟩
theorem LO (d : Nat) (w : World) : Y 122 #[d, I 2] w fun e w' => e = Z (.tuple #[w.heap.size, I 0]) ∧ w'.heap[w.heap.size]? = some (.cells #[d, I 2, .slice none 0 0] 295) ∧ Below w w w' := by
 go_enter func122, ntmps122
 go_wp2_with fail
 go_ret2
 exact ⟨rfl, AE w _, AC w _⟩
theorem Ml (w : World) : Y 212 #[I 1, I 2] w fun e w' => ∃ ab sb, e = Z (.tuple #[.pointer (some ⟨ab, 0, none⟩), I 0]) ∧ ArrAt w' ab sb ⟨Slot.zero, Slot.zero, 0⟩ ∧ w.heap.size ≤ ab ∧ w.heap.size ≤ sb ∧ Below w w w' := by
 have hmk : ∀ w : World, (Instr.makeSlice 106 (I 2) (I 2)).run prog w = .ok (.slice (some ⟨w.heap.size, 0, none⟩) 2 2) (w.alloc (.cells #[I 0, I 0, U 0, U 0, U 0, U 0, U 0, U 0, U 0, U 0, I 0, I 0, I 0, U 0, U 0, U 0, U 0, U 0, U 0, U 0, U 0, I 0] 111)) := fun w => by kernel_rfl
 obtain ⟨W1, hE, hb1, hI1⟩ := alloc_new w (.cells #[I 0, I 0, U 0, U 0, U 0, U 0, U 0, U 0, U 0, U 0, I 0, I 0, I 0, U 0, U 0, U 0, U 0, U 0, U 0, U 0, U 0, I 0] 111)
 have HX := Vw (WA hb1 hI1)
 clear hb1 hI1
 go_enter func212, ntmps212
 go_wp2_with fail
 go_ret2
 have hb2 := AC W1 (.cells #[I 1, I 2, .slice (some w) 2 2, I 0] 301)
 exact ⟨W1.heap.size, w.heap.size, rfl, ⟨AE W1 _, AB hb2 HX.out.2⟩, HX.out.1.size, Nat.le_refl _, HX.out.1.trans (hb2.mono HX.out.1.size)⟩
theorem Iw (w : World) : Y 165 #[I 1, I 2] w fun e w' => ∃ gb ab sb, e = Z (.tuple #[.pointer (some ⟨gb, 0, none⟩), I 0]) ∧ Ag w' gb ab sb ⟨Slot.zero, Slot.zero, 0⟩ ∧ w.heap.size ≤ gb ∧ w.heap.size ≤ ab ∧ w.heap.size ≤ sb ∧ Below w w w' := by
 have hn := Ml w
 go_enter func165, ntmps165
 go_wp2_with fail
 refine hn.mono ?_
 rintro e w1 ⟨ab, sb, rfl, ha, h1, h2, hb⟩
 have HX := Vw (WA ha (WA h1 (WA h2 hb)))
 clear ha h1 h2 hb hn
 go_wp2_with fail
 go_ret2
 have hb2 := AC w1 (.cells #[ab] 262)
 exact ⟨w1.heap.size, ab, sb, rfl, ⟨AE w1 _, HX.out.1.below hb2⟩, HX.out.2.2.2.size, HX.out.2.1, HX.out.2.2.1, HX.out.2.2.2.trans (hb2.mono HX.out.2.2.2.size)⟩
theorem MR (w : World) : Y 76 #[] w fun e w' => e = Z (.agg Ent.empty.cells.toArray) ∧ Below w w w' := by
 go_enter func76, ntmps76
 go_wp2_with fail
 refine bodyPost_ret (v := .agg KG) (by simp [results, results76, go_sem]) rfl ⟨rfl, AC _ _⟩
theorem VH : ET prog 76 109 8 64 := ET.of underlying76 (z := .agg KD) (by kernel_rfl) rfl
theorem Ki : ET prog 42 92 5 40 := ET.of underlying42 (z := .agg #[I 0, I 0, I 0, I 0, U 0]) (by kernel_rfl) rfl
theorem GX : ET prog 28 27 1 8 := ET.of underlying28 (z := U 0) (by kernel_rfl) rfl
theorem MZ (w : World) : Y 125 #[.slice none 0 0] w fun e w' => e = Z (.slice none 0 0) ∧ w = w' := by
 have hq : (binOp .eql 100 (.slice none 0 0) (.slice none 0 0)).run prog w = .ok (.bool true) w := Lib.run_eql_slice_nil w 100 253 none _ _ _ _ underlying100
 go_enter func125, ntmps125
 go_wp2_with fail
 go_ret
 exact ⟨rfl, rfl⟩
theorem Nk (w : World) : Y 35 #[.slice none 0 0] w fun e w' => e = Z (.slice none 0 0) ∧ w = w' := by
 have hq : (binOp .eql 42 (.slice none 0 0) (.slice none 0 0)).run prog w = .ok (.bool true) w := Lib.run_eql_slice_nil w 42 92 none _ _ _ _ underlying42
 go_enter func35, ntmps35
 go_wp2_with fail
 go_ret
 exact ⟨rfl, rfl⟩
theorem cloneX :
  (∀ (g off n AV : Nat) (xs : List Value) (h1 : ∀ u ∈ xs, u.oneCell' = true) (w : World) (hr : AH w 92 5 (.slice (some ⟨g, off, none⟩) n AV) n xs) (hn : n < 100000), Y 35 #[.slice (some ⟨g, off, none⟩) n AV] w fun e w' => ∃ S, e = Z S ∧ AH w' 92 5 S n xs ∧ (∀ k, S.ownBlock = some k → w.heap.size ≤ k) ∧ Below w w w') ∧
  (∀ (g off n AV : Nat) (xs : List Value) (h1 : ∀ u ∈ xs, u.oneCell' = true) (w : World) (hr : AH w 27 1 (.slice (some ⟨g, off, none⟩) n AV) n xs) (hn : n < 100000), Y 69 #[.slice (some ⟨g, off, none⟩) n AV] w fun e w' => ∃ S, e = Z S ∧ AH w' 27 1 S n xs ∧ (∀ k, S.ownBlock = some k → w.heap.size ≤ k) ∧ Below w w w') ∧
  (∀ (g off n AV : Nat) (xs : List Value) (h1 : ∀ u ∈ xs, u.oneCell' = true) (w : World) (hr : AH w 165 5 (.slice (some ⟨g, off, none⟩) n AV) n xs) (hn : n < 100000), Y 109 #[.slice (some ⟨g, off, none⟩) n AV] w fun e w' => ∃ S, e = Z S ∧ AH w' 165 5 S n xs ∧ (∀ k, S.ownBlock = some k → w.heap.size ≤ k) ∧ Below w w w') ∧
  (∀ (g off n AV : Nat) (xs : List Value) (h1 : ∀ u ∈ xs, u.oneCell' = true) (w : World) (hr : AH w 253 12 (.slice (some ⟨g, off, none⟩) n AV) n xs) (hn : n < 100000), Y 125 #[.slice (some ⟨g, off, none⟩) n AV] w fun e w' => ∃ S, e = Z S ∧ AH w' 253 12 S n xs ∧ (∀ k, S.ownBlock = some k → w.heap.size ≤ k) ∧ Below w w w') ∧
  (∀ (g off n AV : Nat) (xs : List Value) (h1 : ∀ u ∈ xs, u.oneCell' = true) (w : World) (hr : AH w 109 8 (.slice (some ⟨g, off, none⟩) n AV) n xs) (hn : n < 100000), Y 214 #[.slice (some ⟨g, off, none⟩) n AV] w fun e w' => ∃ S, e = Z S ∧ AH w' 109 8 S n xs ∧ (∀ k, S.ownBlock = some k → w.heap.size ≤ k) ∧ Below w w w') := by
 refine ⟨?m0, ?m1, ?m2, ?m3, ?m4⟩
 case' m0 =>
  intro g off n AV xs h1 w hr hn
  have mk_0 := trivial
 case' m1 =>
  intro g off n AV xs h1 w hr hn
  have mk_1 := trivial
 case' m2 =>
  intro g off n AV xs h1 w hr hn
  have mk_2 := trivial
 case' m3 =>
  intro g off n AV xs h1 w hr hn
  have mk_3 := trivial
 case' m4 =>
  intro g off n AV xs h1 w hr hn
  have mk_4 := trivial
 all_goals
  first
   | guard_hyp mk_1
     have hq : (binOp .eql 28 (.slice (some ⟨g, off, none⟩) n AV) (.slice none 0 0)).run prog w = .ok (.bool false) w := Lib.run_eql_slice_nil w 28 27 _ _ _ _ _ underlying28
   | guard_hyp mk_2
     have hq : (binOp .eql 155 (.slice (some ⟨g, off, none⟩) n AV) (.slice none 0 0)).run prog w = .ok (.bool false) w := Lib.run_eql_slice_nil w 155 165 _ _ _ _ _ underlying155
   | guard_hyp mk_3
     have hq : (binOp .eql 100 (.slice (some ⟨g, off, none⟩) n AV) (.slice none 0 0)).run prog w = .ok (.bool false) w := Lib.run_eql_slice_nil w 100 253 _ _ _ _ _ underlying100
   | guard_hyp mk_4
     have hq : (binOp .eql 76 (.slice (some ⟨g, off, none⟩) n AV) (.slice none 0 0)).run prog w = .ok (.bool false) w := Lib.run_eql_slice_nil w 76 109 _ _ _ _ _ underlying76
   | have hq : (binOp .eql 42 (.slice (some ⟨g, off, none⟩) n AV) (.slice none 0 0)).run prog w = .ok (.bool false) w := Lib.run_eql_slice_nil w 42 92 _ _ _ _ _ underlying42
  have H := Vw hr
  first
   | guard_hyp mk_1
     have HE := Vw (AC w (.cells #[] 27))
     have HI := Vw (AE w (.cells #[] 27))
     have HN := Vw (show AH (w.alloc (.cells #[] 27)) 27 1 (.slice (some w) 0 0) 0 [] from ⟨by simp, .inr ⟨w.heap.size, 0, 0, #[], rfl, HI.out, by omega, by simp, fun j u hu => by simp at hu⟩⟩)
   | guard_hyp mk_2
     have HE := Vw (AC w (.cells #[] 165))
     have HI := Vw (AE w (.cells #[] 165))
     have HN := Vw (show AH (w.alloc (.cells #[] 165)) 165 5 (.slice (some w) 0 0) 0 [] from ⟨by simp, .inr ⟨w.heap.size, 0, 0, #[], rfl, HI.out, by omega, by simp, fun j u hu => by simp at hu⟩⟩)
   | guard_hyp mk_3
     have HE := Vw (AC w (.cells #[] 253))
     have HI := Vw (AE w (.cells #[] 253))
     have HN := Vw (show AH (w.alloc (.cells #[] 253)) 253 12 (.slice (some w) 0 0) 0 [] from ⟨by simp, .inr ⟨w.heap.size, 0, 0, #[], rfl, HI.out, by omega, by simp, fun j u hu => by simp at hu⟩⟩)
   | guard_hyp mk_4
     have HE := Vw (AC w (.cells #[] 109))
     have HI := Vw (AE w (.cells #[] 109))
     have HN := Vw (show AH (w.alloc (.cells #[] 109)) 109 8 (.slice (some w) 0 0) 0 [] from ⟨by simp, .inr ⟨w.heap.size, 0, 0, #[], rfl, HI.out, by omega, by simp, fun j u hu => by simp at hu⟩⟩)
   | have HE := Vw (AC w (.cells #[] 92))
     have HI := Vw (AE w (.cells #[] 92))
     have HN := Vw (show AH (w.alloc (.cells #[] 92)) 92 5 (.slice (some w) 0 0) 0 [] from ⟨by simp, .inr ⟨w.heap.size, 0, 0, #[], rfl, HI.out, by omega, by simp, fun j u hu => by simp at hu⟩⟩)
  clear hr
  first
   | guard_hyp mk_1
     go_enter func69, ntmps69
     go_wp2_with (at_builtin; refine Ab rfl _ _ _ _ rfl GX _ _ _ rfl HN.out _ n _ rfl ((H.out.below HE.out).src underlying28 h1) (by omega) (by omega) ?_)
   | guard_hyp mk_2
     go_enter func109, ntmps109
     go_wp2_with (at_builtin; refine Ab rfl _ _ _ _ rfl UZ _ _ _ rfl HN.out _ n _ rfl ((H.out.below HE.out).src underlying155 h1) (by omega) (by omega) ?_)
   | guard_hyp mk_3
     go_enter func125, ntmps125
     go_wp2_with (at_builtin; refine Ab rfl _ _ _ _ rfl Ub _ _ _ rfl HN.out _ n _ rfl ((H.out.below HE.out).src underlying100 h1) (by omega) (by omega) ?_)
   | guard_hyp mk_4
     go_enter func214, ntmps214
     go_wp2_with (at_builtin; refine Ab rfl _ _ _ _ rfl VH _ _ _ rfl HN.out _ n _ rfl ((H.out.below HE.out).src underlying76 h1) (by omega) (by omega) ?_)
   | go_enter func35, ntmps35
     go_wp2_with (at_builtin; refine Ab rfl _ _ _ _ rfl Ki _ _ _ rfl HN.out _ n _ rfl ((H.out.below HE.out).src underlying42 h1) (by omega) (by omega) ?_)
  intro A2 cap2 w2 hr2 hg2 hm2
  have HF := Vw (WA hr2 (WA hg2 hm2))
  clear hr2 hg2 hm2
  go_wp2_with fail
  go_ret
  refine ⟨.slice A2 n cap2, rfl, ?_, ?_, ?_⟩
  · simpa using HF.out.1
  · intro k hk
    rcases HF.out.2.2 with e | ⟨g2, e, hg2⟩
    · rw [e] at hk
      simp [Value.ownBlock] at hk
      omega
    · rw [e] at hk
      cases hk
      exact Vx HE.out.size hg2
  · exact HE.out.grown HF.out.2.1 HE.out.size (fun k hk => by simp [Value.ownBlock] at hk; omega)
theorem Od (l : List Msg) : ∀ u ∈ Ao l, u.oneCell' = true := by
 intro u hu
 simp only [Ao, List.mem_flatMap] at hu
 obtain ⟨m, _, h⟩ := hu
 exact Je m u h
theorem Hz (l : List Ln) : ∀ u ∈ l.flatMap Ln.cells, u.oneCell' = true := by
 intro u hu
 simp only [List.mem_flatMap, Ln.cells, List.mem_cons, List.not_mem_nil, or_false] at hu
 obtain ⟨a, _, h⟩ := hu
 rcases h with rfl | rfl | rfl | rfl | rfl | rfl | rfl | rfl <;> rfl
theorem Dm (b o : Nat) (cs : Array Value) (T : TypeId) (v : Value) (l : List Msg) (hl : l.length < 1000) (w : World) (h : GA w b o cs T v l) : Y 72 #[.pointer (some ⟨b, o, none⟩)] w fun e w' => ∃ S, e = Z S ∧ AH w' 253 12 S l.length (Ao l) ∧ (∀ k, S.ownBlock = some k → w.heap.size ≤ k) ∧ Below w w w' := by
 obtain ⟨h1, h2, h3, h4⟩ := h
 have c1 : w.cell? ⟨b, o, none⟩ = some v := AD h1 o h2
 rcases h3.2 with ⟨rfl, h0⟩ | ⟨g, off, AV, gs, rfl, hg, _⟩
 · have hl0 : l = [] := List.eq_nil_of_length_eq_zero h0
   subst hl0
   have hc := MZ w
   clear h1 h2 h3 h4
   go_enter func72, ntmps72
   go_wp2_with fail
   refine hc.mono ?_
   rintro e w1 ⟨rfl, rfl⟩
   go_wp2_with fail
   go_ret
   exact ⟨_, rfl, AH.nil _ _ _, by simp [Value.ownBlock], Below.refl _ _⟩
 · have hc := cloneX.2.2.2.1 g off l.length AV (Ao l) (Od l) w h3 (by omega)
   clear h1 h2 h3 h4 hg
   go_enter func72, ntmps72
   go_wp2_with fail
   refine hc.mono ?_
   rintro e w1 ⟨S, rfl, g1, g2, g3⟩
   obtain ⟨A, cap2, rfl⟩ := g1.form
   go_wp2_with fail
   go_ret
   exact ⟨_, rfl, g1, g2, g3⟩
theorem Lt (d mb : Nat) (r s : Int) (L : List Ln) (w : World) (h : Bh w d mb r s L) : Y 169 #[d] w fun e w' => ∃ S, e = Z S ∧ AH w' 109 8 S 5 (L.flatMap Ln.cells) ∧ (∀ k, S.ownBlock = some k → w.heap.size ≤ k) ∧ Below w w w' := by
 have c := AA h.1
 have hr : AH w 109 8 (.slice (some mb) 5 5) 5 (L.flatMap Ln.cells) := by
  have := AH.made (size := 8) (m := 5) h.2.1 (by rw [List.size_toArray, EM Ln.cells 8 (fun _ => rfl), h.2.2])
  simpa using this
 have hc := cloneX.2.2.2.2 mb 0 5 5 _ (Hz L) w hr (by omega)
 clear h hr
 go_enter func169, ntmps169
 go_wp2_with fail
 refine hc.mono ?_
 rintro e w1 ⟨S, rfl, g1, g2, g3⟩
 obtain ⟨A, cap2, rfl⟩ := g1.form
 go_wp2_with fail
 go_ret
 exact ⟨_, rfl, g1, g2, g3⟩
theorem NO (d mb : Nat) (r s : Int) (x0 x1 x2 x3 x4 : Ln) (w : World) (h : Dx w d mb r s x0 x1 x2 x3 x4) : Y 121 #[d] w fun e w' => e = Z (.tuple #[]) ∧ Bh w' d mb r s [Ln.zero, x1, x2, x3, x4] ∧ Pres (fun k => k ≠ mb) w w' := by
 have c := AA h.1
 have hne : d ≠ mb := AG h.1 h.2 (by decide)
 have hz : (zeroValue 109).run prog w.drew = .ok (.agg KD) w.drew := by kernel_rfl
 have hcl := CR (P := prog) w.drew 76 109 0 (.agg KD) [U 0, U 0, U 0, U 0, U 0, U 0, U 0, U 0] 1 underlying76 hz (by kernel_rfl) mb 0 5 (by omega) (show w.drew.heap[mb]? = _ from h.2) (by simp) (by simp [Value.oneCell'])
 have H := Vw h
 clear h hz
 go_enter func121, ntmps121
 go_wp2_with fail
 go_region
 all_goals
  go_wp2_with fail
  go_end0
  exact ⟨rfl, ⟨(AR hne _ _ _).trans H.out.1, AT _ (show w.drew.heap[mb]? = _ from H.out.2) 0 _ (by kernel_rfl), rfl⟩, Pres.setCells (g := mb) (by simp) _ (Pres.refl _ w).drew 0⟩
theorem Kq {P : Program} (w : World) (t e ty : TypeId) (i : TypeInfo) (g o n c : Nat) (a : Addr) (c2 : Nat) (cs : List Value) (ht : P.underlying t = some (.slice e)) (hi : P.info? e = some i) (hn : cs.length = n * i.size) {cur : Array Value} {f : TypeId}
 (hg : w.heap[g]? = some (.cells cur f (0, 0))) (hsrc : ∀ j u, cs[j]? = some u → w.cell? (a.add j) = some u) (hfit : o + cs.length ≤ cur.size) (h1 : ∀ v ∈ cs, v.oneCell' = true) :
 (Builtin.copy_ #[t, t] ty #[.slice (some ⟨g, o, none⟩) n c, .slice (some a) n c2]).run P w = .ok (I n) (w.setCells g o cs) := by
 have hmin : Nat.min n n = n := Nat.min_self n
 have hl := run_firstCells_some (P := P) w i.size n a n c2 cs hn hsrc
 have hst := run_storeCells_cells (P := P) g o cs 0 w (fun j hj => by
  rw [AA hg, Array.getElem?_eq_getElem (by omega)]
  rfl) (fun j _ => AJ hg _) h1
 simp only [Nat.add_zero] at hst
 simp [Builtin.copy_, run_underlying ht, sizeOf, typeInfo, hi, Builtin.lenOf, hmin, hl, hst, goInt]
theorem TB : ∃ i, prog.info? 109 = some i ∧ i.size = 8 := by
 obtain ⟨hu, i, z, h0, h1, h2, _⟩ := VH
 exact ⟨i, h0, h2⟩
theorem KO (d mb g off AV : Nat) (r s : Int) (x0 x1 x2 x3 x4 y0 y1 y2 y3 y4 : Ln) (hne0 : g ≠ mb) (w : World) (h : Dx w d mb r s x0 x1 x2 x3 x4) (hr : AH w 109 8 (.slice (some ⟨g, off, none⟩) 5 AV) 5 ([y0, y1, y2, y3, y4].flatMap Ln.cells)) : Y 120 #[d, .slice (some ⟨g, off, none⟩) 5 AV] w fun e w' => e = Z (I 0) ∧ Dx w' d mb r s y0 y1 y2 y3 y4 ∧ Pres (fun k => k ≠ mb) w w' := by
 have c := AA h.1
 have hne : d ≠ mb := AG h.1 h.2 (by decide)
 obtain ⟨i, hi, hs⟩ := TB
 obtain ⟨_, cs, hg, hsz, hx⟩ := hr.at
 have hcp := Kq (P := prog) w 76 109 3 i mb 0 5 5 ⟨g, off, none⟩ AV ([y0, y1, y2, y3, y4].flatMap Ln.cells) underlying76 hi (by rw [hs]; rfl) h.2 (fun j u hu => by rw [Fp]; exact AD hg _ (hx j u hu)) (by simp [Ln.cells]) (Hz _)
 have H := Vw h
 clear h hr hg hx hi hs
 generalize hys : [y0, y1, y2, y3, y4].flatMap Ln.cells = ys at hcp
 go_enter func120, ntmps120
 go_wp2_with fail
 go_ret
 subst hys
 exact ⟨rfl, ⟨(AR hne _ _ _).trans H.out.1, AT _ H.out.2 0 _ (by kernel_rfl)⟩, Pres.setCells (g := mb) (by simp) _ (Pres.refl _ w) 0⟩
end Go.Proofs.YtkoplblbeapfgaaGreatDoor
