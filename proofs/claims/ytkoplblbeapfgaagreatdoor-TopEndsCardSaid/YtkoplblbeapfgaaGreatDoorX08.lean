/-
Parts of the walk of TopEnds. Conditions stand in each statement.
-/
import Derived.Lib.SliceRun
import Derived.Test.YtkoplblbeapfgaaGreatDoorX06
namespace Go.Proofs.YtkoplblbeapfgaaGreatDoor
open Go.RowKit
open Tryz
set_option linter.all false
set_option maxRecDepth 100000
set_option maxHeartbeats 8000000
theorem Vj : ET prog 106 111 11 88 := ET.of underlying106 (z := .agg #[I 0, I 0, U 0, U 0, U 0, U 0, U 0, U 0, U 0, U 0, I 0]) (by kernel_rfl) rfl
theorem RH (l : List Slot) : ∀ u ∈ Be l, u.oneCell' = true := by
 intro u hu
 simp only [Be, List.mem_flatMap, Slot.l, List.mem_cons, List.not_mem_nil, or_false] at hu
 obtain ⟨a, _, h⟩ := hu
 rcases h with rfl | rfl | rfl | rfl | rfl | rfl | rfl | rfl | rfl | rfl | rfl <;> rfl
theorem SC (g off n AV : Nat) (l : List Slot) (w : World) (hr : AH w 111 11 (.slice (some ⟨g, off, none⟩) n AV) n (Be l)) (hn : n < 100000) : Y 167 #[.slice (some ⟨g, off, none⟩) n AV] w fun e w' => ∃ S, e = Z S ∧ AH w' 111 11 S n (Be l) ∧ (∀ k, S.ownBlock = some k → w.heap.size ≤ k) ∧ Below w w w' := by
 have hq : (binOp .eql 106 (.slice (some ⟨g, off, none⟩) n AV) (.slice none 0 0)).run prog w = .ok (.bool false) w := Lib.run_eql_slice_nil w 106 111 _ _ _ _ _ underlying106
 have H := Vw hr
 have HE := Vw (AC w (.cells #[] 111))
 have HI := Vw (AE w (.cells #[] 111))
 have HN := Vw (show AH (w.alloc (.cells #[] 111)) 111 11 (.slice (some w) 0 0) 0 [] from ⟨by simp, .inr ⟨w.heap.size, 0, 0, #[], rfl, HI.out, by omega, by simp, fun j u hu => by simp at hu⟩⟩)
 clear hr
 go_enter func167, ntmps167
 go_wp2_with (at_builtin; refine Ab rfl _ _ _ _ rfl Vj _ _ _ rfl HN.out _ n _ rfl ((H.out.below HE.out).src underlying106 (RH l)) (by omega) (by omega) ?_)
 intro A2 cap2 w2 hr2 hg2 hm2
 have HF := Vw (WA hr2 (WA hg2 hm2))
 clear hr2 hg2 hm2
 go_wp2_with fail
 go_ret
 refine ⟨.slice A2 n cap2, rfl, ?_, ?_, ?_⟩
 · simpa using HF.out.1
 · intro k hk
   rcases HF.out.2.2 with e | ⟨g2, e, hg2⟩
   · rw [e] at hk
     simp [Value.ownBlock] at hk
     omega
   · rw [e] at hk
     cases hk
     exact Vx HE.out.size hg2
 · exact HE.out.grown HF.out.2.1 HE.out.size (fun k hk => by simp [Value.ownBlock] at hk; omega)
def CD (l : List Slot) : List Slot := l.filter fun s => !(s.st == 0)
def DV : List Value := [I 0, I 0, U 0, U 0, U 0, U 0, U 0, U 0, U 0, U 0, I 0]
theorem OD (w : World) : (zeroValue 111).run prog w = .ok (.agg DV.toArray) w := by kernel_rfl
theorem MS (g off AV : Nat) (x y : Slot) (w : World) (hc : 2 ≤ AV) (hr : AH w 111 11 (.slice (some ⟨g, off, none⟩) 2 AV) 2 (Be [x, y])) : Y 166 #[.slice (some ⟨g, off, none⟩) 2 AV, .func (.func 168) #[] #[]] w fun e w' => ∃ S, e = Z S ∧ AH w' 111 11 S (CD [x, y]).length (Be (CD [x, y])) ∧ S.ownBlock = some g ∧ Pres (fun k => k ≠ g) w w' := by
 have HB := Vw (Below.refl w.heap.size w)
 have H := Vw hr
 have hix := ixX.2.1 (.slice (some ⟨g, off, none⟩) 2 AV) [x, y] w hr (by simp)
 clear hr
 cases h0 : (x.st == 0) <;> cases h1 : (y.st == 0)
 · have e : CV (fun s => s.st == 0) [x, y] = -1 := by simp [CV, h0, h1]
   have el : CD [x, y] = [x, y] := by simp [CD, h0, h1]
   rw [e] at hix
   rw [el]
   go_enter func166, ntmps166
   go_wp2_with fail
   refine hix.mono ?_
   rintro e w1 ⟨rfl, hb1⟩
   replace H := Vw (H.out.below hb1)
   replace HB := Vw (HB.out.trans (hb1.mono HB.out.size))
   go_wp2_with fail
   go_ret
   exact ⟨_, rfl, H.out, rfl, Pres.of_below HB.out⟩
 · have e : CV (fun s => s.st == 0) [x, y] = 1 := by simp [CV, h0, h1]
   have el : CD [x, y] = [x] := by simp [CD, h0, h1]
   rw [e] at hix
   rw [el]
   go_enter func166, ntmps166
   go_wp2_with fail
   refine hix.mono ?_
   rintro e w1 ⟨rfl, hb1⟩
   replace H := Vw (H.out.below hb1)
   replace HB := Vw (HB.out.trans (hb1.mono HB.out.size))
   go_wp2_with fail
   obtain ⟨hn, cs, hg, hsz, hx⟩ := H.out.at
   refine wp_loop_rounds 1 ?_
   rw [rounds_succ]
   go_wp2_with fail
   rw [CR (P := prog) _ 106 111 0 (.agg DV.toArray) DV 1 underlying106 (OD _) (by kernel_rfl) g (off + 11) (AV - 1) (by omega) hg (by simp [DV]; omega) (by simp [DV, Value.oneCell'])]
   simp only [Result.andThen_ok, Oper.upon]
   go_wp2_with fail
   go_ret
   exact ⟨.slice (some ⟨g, off, none⟩) 1 AV, rfl, H.out.cut 1 (by omega) (off + 11) DV (by omega) (by simp [DV]; omega), rfl, Pres.setCells (g := g) (by simp) DV (Pres.of_below HB.out) (off + 11)⟩
 · have e : CV (fun s => s.st == 0) [x, y] = 0 := by simp [CV, h0, h1]
   have el : CD [x, y] = [y] := by simp [CD, h0, h1]
   rw [e] at hix
   rw [el]
   go_enter func166, ntmps166
   go_wp2_with fail
   refine hix.mono ?_
   rintro e w1 ⟨rfl, hb1⟩
   replace H := Vw (H.out.below hb1)
   replace HB := Vw (HB.out.trans (hb1.mono HB.out.size))
   go_wp2_with fail
   refine wp_loop_rounds 2 ?_
   rw [rounds_succ]
   obtain ⟨hn, cs, hg, hsz, hx⟩ := H.out.at
   obtain ⟨_, _, _, hv, _, _, hcell⟩ := Fu (l := [x, y]) H.out (j := 1) (x := y) rfl
   cases hv
   have e0 : w1.cell? ⟨g, off + 11, none⟩ = _ := hcell 0 _ rfl
   have e1 : w1.cell? ⟨g, off + 12, none⟩ = _ := hcell 1 _ rfl
   have e2 : w1.cell? ⟨g, off + 13, none⟩ = _ := hcell 2 _ rfl
   have e3 : w1.cell? ⟨g, off + 14, none⟩ = _ := hcell 3 _ rfl
   have e4 : w1.cell? ⟨g, off + 15, none⟩ = _ := hcell 4 _ rfl
   have e5 : w1.cell? ⟨g, off + 16, none⟩ = _ := hcell 5 _ rfl
   have e6 : w1.cell? ⟨g, off + 17, none⟩ = _ := hcell 6 _ rfl
   have e7 : w1.cell? ⟨g, off + 18, none⟩ = _ := hcell 7 _ rfl
   have e8 : w1.cell? ⟨g, off + 19, none⟩ = _ := hcell 8 _ rfl
   have e9 : w1.cell? ⟨g, off + 20, none⟩ = _ := hcell 9 _ rfl
   have e10 : w1.cell? ⟨g, off + 21, none⟩ = _ := hcell 10 _ rfl
   have hy := GH y
   simp only [Slot.cells] at hy
   go_wp2_with fail
   refine (hy _).mono ?_
   rintro e w2 ⟨rfl, hb2⟩
   rw [h1]
   have hI := AB hb2 (AE w1 (.cells y.cells 111))
   have hgI : w.heap.size ≤ w1.heap.size := hb1.size
   have hrow2 := (H.out.below (AC w1 (.cells y.cells 111))).below hb2
   have hb12 := (AC w1 (.cells y.cells 111)).trans (hb2.mono (AC w1 (.cells y.cells 111)).size)
   simp only [Slot.cells] at hI hrow2 hb12
   have c1 := AA hI
   have hlt := AF hI
   obtain ⟨hn2, cs2, hg2, hsz2, hx2⟩ := hrow2.at
   have c2 := AA hg2
   have f2 := AJ hg2
   have hs : ∀ k, k < 22 → cs2[off + k]?.isSome = true := fun k hk => by rw [Array.getElem?_eq_getElem (by omega)]; rfl
   have hst : ∀ k, k < 22 → ∃ u, cs2[off + k]? = some u := fun k hk => ⟨_, Array.getElem?_eq_getElem (by omega)⟩
   obtain ⟨u0, q0⟩ := hst 0 (by omega)
   rw [Nat.add_zero] at q0
   obtain ⟨u1, q1⟩ := hst 1 (by omega)
   obtain ⟨u2, q2⟩ := hst 2 (by omega)
   obtain ⟨u3, q3⟩ := hst 3 (by omega)
   obtain ⟨u4, q4⟩ := hst 4 (by omega)
   obtain ⟨u5, q5⟩ := hst 5 (by omega)
   obtain ⟨u6, q6⟩ := hst 6 (by omega)
   obtain ⟨u7, q7⟩ := hst 7 (by omega)
   obtain ⟨u8, q8⟩ := hst 8 (by omega)
   obtain ⟨u9, q9⟩ := hst 9 (by omega)
   obtain ⟨u10, q10⟩ := hst 10 (by omega)
   have HS := Vw (WA hs hst)
   clear hs hst
   go_wp2_with fail
   generalize hW : World.setCell _ ⟨g, off + 10, none⟩ _ = W3
   have hrow3 : AH W3 111 11 (.slice (some ⟨g, off, none⟩) 2 AV) 2 (Be [y, y]) := by rw [← hW]; exact hrow2.put_elem (f := Slot.l) (size := 11) (fun _ => rfl) rfl 0 (by simp) y
   have hp3 : Pres (fun k => k ≠ g) w W3 := by rw [← hW]; exact Pres.setCells (g := g) (by simp) y.l (Pres.of_below (HB.out.trans (hb12.mono HB.out.size))) off
   have HW := Vw (WA hrow3 hp3)
   clear hW hrow3 hp3 c1 c2 f2 hI
   obtain ⟨hn3, cs3, hg, hsz, hx3⟩ := HW.out.1.at
   rw [rounds_succ]
   go_wp2_with fail
   rw [CR (P := prog) _ 106 111 0 (.agg DV.toArray) DV 1 underlying106 (OD _) (by kernel_rfl) g (off + 11) (AV - 1) (by omega) hg (by simp [DV]; omega) (by simp [DV, Value.oneCell'])]
   simp only [Result.andThen_ok, Oper.upon]
   go_wp2_with fail
   go_ret
   exact ⟨.slice (some ⟨g, off, none⟩) 1 AV, rfl, HW.out.1.cut 1 (by omega) (off + 11) DV (by omega) (by simp [DV]; omega), rfl, Pres.setCells (g := g) (by simp) DV HW.out.2 (off + 11)⟩
 · have e : CV (fun s => s.st == 0) [x, y] = 0 := by simp [CV, h0, h1]
   have el : CD [x, y] = [] := by simp [CD, h0, h1]
   rw [e] at hix
   rw [el]
   go_enter func166, ntmps166
   go_wp2_with fail
   refine hix.mono ?_
   rintro e w1 ⟨rfl, hb1⟩
   replace H := Vw (H.out.below hb1)
   replace HB := Vw (HB.out.trans (hb1.mono HB.out.size))
   go_wp2_with fail
   refine wp_loop_rounds 2 ?_
   rw [rounds_succ]
   obtain ⟨hn, cs, hg0, hsz0, hx⟩ := H.out.at
   obtain ⟨_, _, _, hv, _, _, hcell⟩ := Fu (l := [x, y]) H.out (j := 1) (x := y) rfl
   cases hv
   have e0 : w1.cell? ⟨g, off + 11, none⟩ = _ := hcell 0 _ rfl
   have e1 : w1.cell? ⟨g, off + 12, none⟩ = _ := hcell 1 _ rfl
   have e2 : w1.cell? ⟨g, off + 13, none⟩ = _ := hcell 2 _ rfl
   have e3 : w1.cell? ⟨g, off + 14, none⟩ = _ := hcell 3 _ rfl
   have e4 : w1.cell? ⟨g, off + 15, none⟩ = _ := hcell 4 _ rfl
   have e5 : w1.cell? ⟨g, off + 16, none⟩ = _ := hcell 5 _ rfl
   have e6 : w1.cell? ⟨g, off + 17, none⟩ = _ := hcell 6 _ rfl
   have e7 : w1.cell? ⟨g, off + 18, none⟩ = _ := hcell 7 _ rfl
   have e8 : w1.cell? ⟨g, off + 19, none⟩ = _ := hcell 8 _ rfl
   have e9 : w1.cell? ⟨g, off + 20, none⟩ = _ := hcell 9 _ rfl
   have e10 : w1.cell? ⟨g, off + 21, none⟩ = _ := hcell 10 _ rfl
   have hy := GH y
   simp only [Slot.cells] at hy
   go_wp2_with fail
   refine (hy _).mono ?_
   rintro e w2 ⟨rfl, hb2⟩
   rw [h1]
   have hrow2 := (H.out.below (AC w1 (.cells y.cells 111))).below hb2
   have hb12 := (AC w1 (.cells y.cells 111)).trans (hb2.mono (AC w1 (.cells y.cells 111)).size)
   obtain ⟨hn2, cs2, hg, hsz, hx2⟩ := hrow2.at
   have HW := Vw (WA hrow2 hb12)
   clear hrow2 hb12
   go_wp2_with fail
   rw [rounds_succ]
   go_wp2_with fail
   rw [CR (P := prog) _ 106 111 0 (.agg DV.toArray) (DV ++ DV) 2 underlying106 (OD _) (by kernel_rfl) g (off) AV (by omega) hg (by simp [DV]; omega) (by simp [DV, Value.oneCell'])]
   simp only [Result.andThen_ok, Oper.upon]
   go_wp2_with fail
   go_ret
   exact ⟨.slice (some ⟨g, off, none⟩) 0 AV, rfl, HW.out.1.cut 0 (by omega) off (DV ++ DV) (by omega) (by simp [DV]; omega), rfl, Pres.setCells (g := g) (by simp) (DV ++ DV) (Pres.of_below (HB.out.trans (HW.out.2.mono HB.out.size))) off⟩
theorem Ib (ab sb : Nat) (a : Arr) (w : World) (h : ArrAt w ab sb a) : Y 128 #[ab] w fun e w' => ∃ S, e = Z S ∧ AH w' 111 11 S (CD [a.s0, a.s1]).length (Be (CD [a.s0, a.s1])) ∧ Below w w w' := by
 have c := AA h.head
 have hcl := SC sb 0 2 2 [a.s0, a.s1] w h.rows (by omega)
 clear h
 go_enter func128, ntmps128
 go_wp2_with fail
 refine hcl.mono ?_
 rintro e w1 ⟨S, rfl, hr, hf, hb⟩
 have hr' : AH w1 111 11 S [a.s0, a.s1].length (Be [a.s0, a.s1]) := hr
 obtain ⟨g, off, AV, cs, rfl, hg, hc, hsz, hx⟩ := hr.lies (by omega)
 have hge := hf g rfl
 have HB := Vw hb
 have hdel := MS g off AV a.s0 a.s1 w1 hc hr
 clear hr hr' hg hc hsz hx hf hb c
 go_wp2_with fail
 refine hdel.mono ?_
 rintro e w2 ⟨S2, rfl, hr2, ho2, hp2⟩
 have HF := Vw (WA hr2 hp2)
 clear hr2 hp2 hdel
 go_wp2_with fail
 go_ret
 exact ⟨S2, rfl, HF.out.1, HB.out.os ▸ HF.out.2.os, HB.out.tape ▸ HF.out.2.tape, HB.out.output ▸ HF.out.2.output, Vx HB.out.size HF.out.2.size, fun k hk => (HF.out.2.block k (Vy hk HB.out.size) (by omega)).trans (HB.out.block k hk)⟩
theorem KR (v : Value) (l : List Slot) (w : World) (hr : AH w 111 11 v l.length (Be l)) (hlen : l.length < 1000) : Y 387 #[v, .func (.func 388) #[] #[]] w fun e w' => e = Z (.bool (decide (0 ≤ CV (fun s => !DN s.st) l))) ∧ Below w w w' := by
 have hix := ixX.1 v l w hr hlen
 obtain ⟨A, AV, rfl⟩ := hr.form
 clear hr
 go_enter func387, ntmps387
 go_wp2_with fail
 refine hix.mono ?_
 rintro e w1 ⟨rfl, hb⟩
 go_wp2_with fail
 go_ret
 exact ⟨rfl, hb⟩
theorem TC (a : Arr) : (!decide (0 ≤ CV (fun s => !DN s.st) (CD [a.s0, a.s1]))) = a.idle := by
 have hz : ∀ s : Slot, (s.st == 0) = true → DN s.st = true := fun s h => by simp at h; simp [DN, h]
 cases h0 : (a.s0.st == 0) <;> cases h1 : (a.s1.st == 0) <;> cases r0 : DN a.s0.st <;> cases r1 : DN a.s1.st <;> simp [CD, h0, h1, CV, Arr.idle, r0, r1]
 all_goals (have e0 := hz a.s0; have e1 := hz a.s1; simp_all)
def Uc (w : World) (gb ab : Nat) : Prop := w.heap[gb]? = some (.cells #[ab] 262)
theorem Gm (gb ab sb : Nat) (a : Arr) (w : World) (hg : Uc w gb ab) (h : ArrAt w ab sb a) : Y 338 #[gb] w fun e w' => e = Z (.bool a.idle) ∧ Below w w w' := by
 have c := AA hg
 have hs := Ib ab sb a w h
 clear h hg
 go_enter func338, ntmps338
 go_wp2_with fail
 refine hs.mono ?_
 rintro e w1 ⟨S, rfl, hr, hb⟩
 have hlen : (CD [a.s0, a.s1]).length ≤ 2 := List.length_filter_le _ _
 have hct := KR S _ w1 hr (by omega)
 obtain ⟨A, AV, rfl⟩ := hr.form
 clear hr hs c
 go_wp2_with fail
 refine hct.mono ?_
 rintro e w2 ⟨rfl, hb2⟩
 have he := TC a
 go_wp2_with fail
 go_ret
 exact ⟨by rw [← he]; rfl, hb.trans (hb2.mono hb.size)⟩
theorem ArrAt.cell0 {w : World} {ab sb : Nat} {a : Arr} (h : ArrAt w ab sb a) (u : Int) : ArrAt (w.setCell ⟨sb, 10, none⟩ (I u)) ab sb ⟨⟨a.s0.st, a.s0.line, a.s0.data, u⟩, a.s1, a.used⟩ :=
 ⟨(Vz _ _ _ _ (AG h.head h.row (by decide))).trans h.head, AI h.row 10 _⟩
theorem ArrAt.cell1 {w : World} {ab sb : Nat} {a : Arr} (h : ArrAt w ab sb a) (u : Int) : ArrAt (w.setCell ⟨sb, 21, none⟩ (I u)) ab sb ⟨a.s0, ⟨a.s1.st, a.s1.line, a.s1.data, u⟩, a.used⟩ :=
 ⟨(Vz _ _ _ _ (AG h.head h.row (by decide))).trans h.head, AI h.row 21 _⟩
theorem Mh (ab sb : Nat) (a : Arr) (line : Int) (h0 : 0 ≤ line) (hu0 : 0 ≤ a.used) (hu1 : a.used < 1000000) (w : World) (h : ArrAt w ab sb a) :
 Y 407 #[ab, I line] w fun e w' => e = Z (.tuple #[]) ∧ ArrAt w' ab sb (a.touch line) ∧ Pres (fun k => k ≠ ab ∧ k ≠ sb) w w' := by
 have hne : sb ≠ ab := AG h.row h.head (by decide)
 have HB := Vw (Below.refl w.heap.size w)
 have H := Vw h
 clear h
 rcases Gl a line with ⟨hi, hf, hs⟩ | ⟨hi, hf, hs, hs1⟩ | ⟨hi, hf, hs, hs1⟩
 · have hat := fun w hw => Bs ab sb a line h0 w hw
   rw [hi] at hat
   go_enter func407, ntmps407
   go_wp2_with fail
   refine (hat _ H.out).mono ?_
   rintro e w1 ⟨rfl, hb1⟩
   replace H := Vw (H.out.below hb1)
   replace HB := Vw (HB.out.trans (hb1.mono HB.out.size))
   go_wp2_with fail
   refine (Bo ab sb a line h0 _ H.out).mono ?_
   rintro e w2 ⟨rfl, hb2⟩
   replace H := Vw (H.out.below hb2)
   replace HB := Vw (HB.out.trans (hb2.mono HB.out.size))
   go_wp2_with fail
   refine (DH ab sb a hu0 hu1 _ H.out).mono ?_
   rintro e w3 ⟨rfl, rfl⟩
   have c := AA H.out.num.row
   have f := AJ H.out.num.row
   go_wp2_with fail
   go_end0
   refine ⟨rfl, ?_, ((Pres.of_below HB.out).setCell (p := ⟨ab, 3, none⟩) (by simp) _).setCell (p := ⟨sb, 10, none⟩) (by simp) _⟩
   have := H.out.num.cell0 (a.used + 1)
   simpa [Arr.touch, Arr.num, hs] using this
 · have hat := fun w hw => Bs ab sb a line h0 w hw
   rw [hi] at hat
   go_enter func407, ntmps407
   go_wp2_with fail
   refine (hat _ H.out).mono ?_
   rintro e w1 ⟨rfl, hb1⟩
   replace H := Vw (H.out.below hb1)
   replace HB := Vw (HB.out.trans (hb1.mono HB.out.size))
   go_wp2_with fail
   refine (Bo ab sb a line h0 _ H.out).mono ?_
   rintro e w2 ⟨rfl, hb2⟩
   replace H := Vw (H.out.below hb2)
   replace HB := Vw (HB.out.trans (hb2.mono HB.out.size))
   go_wp2_with fail
   refine (DH ab sb a hu0 hu1 _ H.out).mono ?_
   rintro e w3 ⟨rfl, rfl⟩
   have c := AA H.out.num.row
   have f := AJ H.out.num.row
   go_wp2_with fail
   go_end0
   refine ⟨rfl, ?_, ((Pres.of_below HB.out).setCell (p := ⟨ab, 3, none⟩) (by simp) _).setCell (p := ⟨sb, 21, none⟩) (by simp) _⟩
   have := H.out.num.cell1 (a.used + 1)
   simpa [Arr.touch, Arr.num, hs, hs1] using this
 · have hat := fun w hw => Bs ab sb a line h0 w hw
   rw [hi] at hat
   go_enter func407, ntmps407
   go_wp2_with fail
   refine (hat _ H.out).mono ?_
   rintro e w1 ⟨rfl, hb1⟩
   go_wp2_with fail
   go_end0
   refine ⟨rfl, ?_, Pres.of_below (hb1)⟩
   have := H.out.below hb1
   simpa [Arr.touch, hs, hs1] using this
theorem Ns (ab sb : Nat) (a : Arr) (line : Int) (h0 : 0 ≤ line) (w : World) (h : ArrAt w ab sb a) :
 Y 333 #[ab, I line] w fun e w' => e = Z (.bool (decide (0 ≤ a.ix line))) ∧ ArrAt w' ab sb (a.drop line) ∧ Pres (fun k => k ≠ ab ∧ k ≠ sb) w w' := by
 have HB := Vw (Below.refl w.heap.size w)
 have H := Vw h
 clear h
 rcases Gl a line with ⟨hi, hf, hs⟩ | ⟨hi, hf, hs, hs1⟩ | ⟨hi, hf, hs, hs1⟩
 · have hat := fun w hw => Bs ab sb a line h0 w hw
   rw [hi] at hat
   go_enter func333, ntmps333
   go_wp2_with fail
   refine (hat _ H.out).mono ?_
   rintro e w1 ⟨rfl, hb1⟩
   replace H := Vw (H.out.below hb1)
   replace HB := Vw (HB.out.trans (hb1.mono HB.out.size))
   go_wp2_with fail
   refine (Bo ab sb a line h0 _ H.out).mono ?_
   rintro e w2 ⟨rfl, hb2⟩
   replace H := Vw (H.out.below hb2)
   replace HB := Vw (HB.out.trans (hb2.mono HB.out.size))
   have c := AA H.out.row
   have f := AJ H.out.row
   go_wp2_with fail
   go_ret
   refine ⟨by rw [hi]; rfl, ?_, Pres.setCells (g := sb) (by simp) Slot.zero.l (Pres.of_below HB.out) 0⟩
   have := H.out.put0 Slot.zero
   simp only [Arr.drop, hs, if_true, Bool.false_eq_true, if_false]
   exact this
 · have hat := fun w hw => Bs ab sb a line h0 w hw
   rw [hi] at hat
   go_enter func333, ntmps333
   go_wp2_with fail
   refine (hat _ H.out).mono ?_
   rintro e w1 ⟨rfl, hb1⟩
   replace H := Vw (H.out.below hb1)
   replace HB := Vw (HB.out.trans (hb1.mono HB.out.size))
   go_wp2_with fail
   refine (Bo ab sb a line h0 _ H.out).mono ?_
   rintro e w2 ⟨rfl, hb2⟩
   replace H := Vw (H.out.below hb2)
   replace HB := Vw (HB.out.trans (hb2.mono HB.out.size))
   have c := AA H.out.row
   have f := AJ H.out.row
   go_wp2_with fail
   go_ret
   refine ⟨by rw [hi]; rfl, ?_, Pres.setCells (g := sb) (by simp) Slot.zero.l (Pres.of_below HB.out) 11⟩
   have := H.out.put1 Slot.zero
   simp only [Arr.drop, hs, hs1, if_true, Bool.false_eq_true, if_false]
   exact this
 · have hat := fun w hw => Bs ab sb a line h0 w hw
   rw [hi] at hat
   go_enter func333, ntmps333
   go_wp2_with fail
   refine (hat _ H.out).mono ?_
   rintro e w1 ⟨rfl, hb1⟩
   go_wp2_with fail
   go_ret
   refine ⟨by rw [hi]; rfl, ?_, Pres.of_below hb1⟩
   have := H.out.below hb1
   simpa [Arr.drop, hs, hs1] using this
def BX (p : Int × Int) (s : Slot) : Int × Int := if EA s.st = true then (if (decide (p.1 < 0) || decide (s.used < p.2)) = true then (s.line, s.used) else p) else p
theorem SZ (a : Arr) (h0 : 0 ≤ a.s0.line) (h1 : 0 ≤ a.s1.line) : (BX (BX (-1, 0) a.s0) a.s1).1 = a.victim := by
 unfold BX Arr.victim
 have h2 : ¬ a.s0.line < 0 := by omega
 cases e0 : EA a.s0.st <;> cases e1 : EA a.s1.st <;> by_cases hh : a.s1.used < a.s0.used <;> simp [h2, hh]
def Fv (a : Arr) : Value := if a.isFree = true then .tuple #[true, I (-1)] else .tuple #[false, I (BX (BX (-1, 0) a.s0) a.s1).1]
theorem Iv (ab sb : Nat) (a : Arr) (line : Int) (h0 : 0 ≤ line) (w : World) (h : ArrAt w ab sb a) :
 Y 414 #[ab, I line] w fun e w' => e = Z (Fv a) ∧ Below w w w' := by
 have HB := Vw (Below.refl w.heap.size w)
 have H := Vw h
 clear h
 go_enter func414, ntmps414
 go_wp2_with fail
 refine (Bo ab sb a line h0 _ H.out).mono ?_
 rintro e w1 ⟨rfl, hb1⟩
 replace H := Vw (H.out.below hb1)
 replace HB := Vw (HB.out.trans (hb1.mono HB.out.size))
 go_wp2_with fail
 go_loopw [19, 5, 6] (fun i v u W => ∃ j : Nat, i = I j ∧ (j = 0 ∧ v = I (-1) ∧ u = I 0 ∨ j = 1 ∧ (a.s0.st == 0) = false ∧ v = I (BX (-1, 0) a.s0).1 ∧ u = I (BX (-1, 0) a.s0).2 ∨ j = 2 ∧ (a.s0.st == 0) = false ∧ (a.s1.st == 0) = false ∧ v = I (BX (BX (-1, 0) a.s0) a.s1).1 ∧ u = I (BX (BX (-1, 0) a.s0) a.s1).2) ∧ Below w1 w1 W) (fun i v u W => 2 - (intOf i).toNat)
 case atStart => exact ⟨0, rfl, .inl ⟨rfl, rfl, rfl⟩, Below.refl _ _⟩
 case round =>
  obtain ⟨j, rfl, hj, hb⟩ := hrel
  have HC := Vw hb
  have c := AA (H.out.below hb).row
  have fin : ∀ o : Obj, Below w1 w1 (wr.alloc o) := fun o => hb.alloc hb.size o
  clear hb
  rcases hj with ⟨rfl, rfl, rfl⟩ | ⟨rfl, hn, rfl, rfl⟩ | ⟨rfl, hn, hn1, rfl, rfl⟩
  · have HF := Vw fin
    clear fin
    go_wp2_with fail
    · go_ret2
      exact ⟨by simp [Fv, Arr.isFree, *] <;> rfl, HB.out.trans ((HF.out _).mono HB.out.size)⟩
    all_goals try (go_region; all_goals go_wp2_with fail)
    all_goals
     (refine ⟨⟨1, rfl, .inr (.inl ⟨rfl, by simp_all, by simp [BX, EA, *], by simp [BX, EA, *]⟩), by first | exact HF.out _ | exact (HF.out _).drew⟩, by simp [intOf]⟩)
  · have HF := Vw fin
    clear fin
    generalize hp : BX (-1, 0) a.s0 = p at *
    obtain ⟨pv, pu⟩ := p
    have HP := Vw hp
    clear hp
    go_wp2_with fail
    · go_ret2
      exact ⟨by simp [Fv, Arr.isFree, *] <;> rfl, HB.out.trans ((HF.out _).mono HB.out.size)⟩
    all_goals try (go_region; all_goals go_wp2_with fail)
    all_goals
     (refine ⟨⟨2, rfl, .inr (.inr ⟨rfl, by assumption, by simp_all, by simp [BX, EA, *] <;> (split <;> simp_all <;> omega), by simp [BX, EA, *] <;> (split <;> simp_all <;> omega)⟩), by first | exact HF.out _ | exact (HF.out _).drew⟩, by simp [intOf]⟩)
  · clear fin
    go_wp2_with fail
    go_ret2
    exact ⟨by simp [Fv, Arr.isFree, hn, hn1] <;> rfl, HB.out.trans (HC.out.mono HB.out.size)⟩
end Go.Proofs.YtkoplblbeapfgaaGreatDoor
