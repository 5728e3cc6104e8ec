/-
Parts of the walk of TopEnds. Conditions stand in each statement.
-/
import Derived.Test.YtkoplblbeapfgaaGreatDoorX36
namespace Go.Proofs.YtkoplblbeapfgaaGreatDoor
open Go.RowKit
open Tryz
set_option linter.all false
set_option maxRecDepth 100000
set_option maxHeartbeats 8000000
theorem RV (base ob mb : Nat) (M : Value) (notes : Int) (tl : List Int) (n : Nat) (D : DataW Unit) (x : Int) (a : Nat) (w : World) (h : Mo base ob mb M notes tl n D w) (hbw : base ≤ w.heap.size) (hl : tl.length < 900) (hget : ∀ w', Mo base ob mb M notes tl n D w' → Below base w w' → Y 195 #[ob, I a] w' fun e w2 => e = Z (U x) ∧ w' = w2) : Y 149 #[ob, .agg #[I 1, I a, U 0]] w fun e w' => e = Z (.bool true) ∧ Mo base ob mb M notes (tl ++ [x]) n D w' ∧ Below base w w' ∧ CH w w' := by
 obtain ⟨W1, hE, hb1, hI⟩ := alloc_new w (.cells #[I 1, I a, U 0] 33)
 have hB1 : Below base w W1 := hb1.mono hbw
 have h1 := h.below hb1
 have c1 := AA hI
 have HG := Vw (hget W1 h1 hB1)
 have H1 := Vw h1
 have HB1 := Vw hB1
 have HK1 := Vw (CH.of hb1)
 have HI := Vw hI
 have HZ := Vw (show base ≤ W1.heap.size from Vx hbw hb1.size)
 have HOB := Vw (show ob < w.heap.size ∧ mb < w.heap.size from by
  obtain ⟨T, g1, g2, g3, g4, g5⟩ := h
  exact ⟨AF g1, g4.lt⟩)
 clear h hget hb1 hB1 h1 hI hbw
 go_enter func149, ntmps149
 go_wp2_with fail
 refine HG.out.mono ?_
 rintro e w2 ⟨rfl, rfl⟩
 go_wp2_with fail
 refine (EE base ob mb M notes tl n D (by omega) x W1 H1.out HZ.out).mono ?_
 rintro e w3 ⟨rfl, h3, b3, k3⟩
 have H3 := Vw (WA h3 (WA (HB1.out.trans b3) (HK1.out.trans k3)))
 clear h3 b3 k3
 go_wp2_with fail
 go_ret
 exact ⟨rfl, H3.out⟩
theorem QH (base ob mb : Nat) (M : Value) (notes : Int) (tl : List Int) (n : Nat) (D : DataW Unit) (x : Int) (a : Nat) (v : Int) (ha : (a : Int) < 1000) (hv0 : 0 ≤ v) (hv1 : v < 1000) (hx0 : 0 ≤ x) (hx1 : x < 1000) (hn : n < 100) (hno0 : 0 ≤ notes) (hno8 : notes < 8) (w : World) (h : Mo base ob mb M notes tl n D w) (hbw : base ≤ w.heap.size) (hl : tl.length < 900) (hget : ∀ w', Mo base ob mb M notes tl n D w' → Below base w w' → Y 195 #[ob, I a] w' fun e w2 => e = Z (U x) ∧ w' = w2) : Y 149 #[ob, .agg #[I 2, I a, v]] w fun e w' => e = Z (.bool true) ∧ Mo base ob mb M (notes + 1) tl (n + 1) (D.put (.int .i64 a) (.lit (.int .u64 v))) w' ∧ Below base w w' ∧ CH w w' := by
 obtain ⟨W1, hE, hb1, hI⟩ := alloc_new w (.cells #[I 2, I a, v] 33)
 have hB1 : Below base w W1 := hb1.mono hbw
 have h1 := h.below hb1
 have c1 := AA hI
 have HG := Vw (hget W1 h1 hB1)
 have H1 := Vw h1
 have HB1 := Vw hB1
 have HK1 := Vw (CH.of hb1)
 have HI := Vw hI
 have HZ := Vw (show base ≤ W1.heap.size from Vx hbw hb1.size)
 have HOB := Vw (show ob < w.heap.size ∧ mb < w.heap.size from by
  obtain ⟨T, g1, g2, g3, g4, g5⟩ := h
  exact ⟨AF g1, g4.lt⟩)
 clear h hget hb1 hB1 h1 hI hbw
 go_enter func149, ntmps149
 go_wp2_with fail
 refine HG.out.mono ?_
 rintro e w2 ⟨rfl, rfl⟩
 go_wp2_with fail
 refine (Jc base ob mb M notes tl n D a v (by omega) (by omega) (by omega) ⟨hno0, hno8⟩ W1 H1.out).mono ?_
 rintro e w3 ⟨rfl, h3, b3, k3⟩
 have H3 := Vw h3
 have HB3 := Vw (HB1.out.trans b3)
 have HK3 := Vw (HK1.out.trans k3)
 have HZ3 := Vw (Vx HZ.out b3.size)
 clear h3 b3 k3
 go_wp2_with fail
 go_ret
 exact ⟨rfl, H3.out, HB3.out, HK3.out⟩
theorem Su (base ob mb : Nat) (M : Value) (notes : Int) (tl : List Int) (n : Nat) (D : DataW Unit) (x : Int) (a : Nat) (v : Int) (ha : (a : Int) < 1000) (hv0 : 0 ≤ v) (hv1 : v < 1000) (hx0 : 0 ≤ x) (hx1 : x < 1000) (hn : n < 100) (hno0 : 0 ≤ notes) (hno8 : notes < 8) (w : World) (h : Mo base ob mb M notes tl n D w) (hbw : base ≤ w.heap.size) (hl : tl.length < 900) (hget : ∀ w', Mo base ob mb M notes tl n D w' → Below base w w' → Y 195 #[ob, I a] w' fun e w2 => e = Z (U x) ∧ w' = w2) : Y 149 #[ob, .agg #[I 3, I a, v]] w fun e w' => e = Z (.bool true) ∧ Mo base ob mb M (notes + 1) (tl ++ [v + x]) (n + 1) (D.put (.int .i64 a) (.lit (.int .u64 (v + x)))) w' ∧ Below base w w' ∧ CH w w' := by
 obtain ⟨W1, hE, hb1, hI⟩ := alloc_new w (.cells #[I 3, I a, v] 33)
 have hB1 : Below base w W1 := hb1.mono hbw
 have h1 := h.below hb1
 have c1 := AA hI
 have HG := Vw (hget W1 h1 hB1)
 have H1 := Vw h1
 have HB1 := Vw hB1
 have HK1 := Vw (CH.of hb1)
 have HI := Vw hI
 have HZ := Vw (show base ≤ W1.heap.size from Vx hbw hb1.size)
 have HOB := Vw (show ob < w.heap.size ∧ mb < w.heap.size from by
  obtain ⟨T, g1, g2, g3, g4, g5⟩ := h
  exact ⟨AF g1, g4.lt⟩)
 clear h hget hb1 hB1 h1 hI hbw
 go_enter func149, ntmps149
 go_wp2_with fail
 refine HG.out.mono ?_
 rintro e w2 ⟨rfl, rfl⟩
 go_wp2_with fail
 refine (Jc base ob mb M notes tl n D a (v + x) (by omega) (by omega) (by omega) ⟨hno0, hno8⟩ W1 H1.out).mono ?_
 rintro e w3 ⟨rfl, h3, b3, k3⟩
 have H3 := Vw h3
 have HB3 := Vw (HB1.out.trans b3)
 have HK3 := Vw (HK1.out.trans k3)
 have HZ3 := Vw (Vx HZ.out b3.size)
 clear h3 b3 k3
 go_wp2_with fail
 refine (EE base ob mb M (notes + 1) tl (n + 1) _ (by omega) (v + x) w3 H3.out HZ3.out).mono ?_
 rintro e w4 ⟨rfl, h4, b4, k4⟩
 have H4 := Vw (WA h4 (WA (HB3.out.trans b4) (HK3.out.trans k4)))
 clear h4 b4 k4
 go_wp2_with fail
 go_ret
 exact ⟨rfl, H4.out⟩
theorem RU (base ob mb : Nat) (M : Value) (notes : Int) (tl : List Int) (n : Nat) (D : DataW Unit) (x : Int) (a : Nat) (v : Int) (hx0 : 0 < x) (hx1 : x < 1000) (w : World) (h : Mo base ob mb M notes tl n D w) (hbw : base ≤ w.heap.size) (hl : tl.length < 900) (hget : ∀ w', Mo base ob mb M notes tl n D w' → Below base w w' → Y 195 #[ob, I a] w' fun e w2 => e = Z (U x) ∧ w' = w2) : Y 149 #[ob, .agg #[I 4, I a, v]] w fun e w' => e = Z (.bool true) ∧ Mo base ob mb M notes (tl ++ [0]) n D w' ∧ Below base w w' ∧ CH w w' := by
 obtain ⟨W1, hE, hb1, hI⟩ := alloc_new w (.cells #[I 4, I a, v] 33)
 have hB1 : Below base w W1 := hb1.mono hbw
 have h1 := h.below hb1
 have c1 := AA hI
 have HG := Vw (hget W1 h1 hB1)
 have H1 := Vw h1
 have HB1 := Vw hB1
 have HK1 := Vw (CH.of hb1)
 have HI := Vw hI
 have HZ := Vw (show base ≤ W1.heap.size from Vx hbw hb1.size)
 have HOB := Vw (show ob < w.heap.size ∧ mb < w.heap.size from by
  obtain ⟨T, g1, g2, g3, g4, g5⟩ := h
  exact ⟨AF g1, g4.lt⟩)
 clear h hget hb1 hB1 h1 hI hbw
 go_enter func149, ntmps149
 go_wp2_with fail
 refine HG.out.mono ?_
 rintro e w2 ⟨rfl, rfl⟩
 go_wp2_with fail
 refine (EE base ob mb M notes tl n D (by omega) 0 W1 H1.out HZ.out).mono ?_
 rintro e w3 ⟨rfl, h3, b3, k3⟩
 have H3 := Vw (WA h3 (WA (HB1.out.trans b3) (HK1.out.trans k3)))
 clear h3 b3 k3
 go_wp2_with fail
 go_ret
 exact ⟨rfl, H3.out⟩
theorem mendX :
  (∀ (base ob mb : Nat) (M S : Value) (w : World) (hM : AH w 27 1 M 8 (AX [0, 0, 0, 0, 0, 0, 0, 0])) (hMb : ∀ k, M.ownBlock = some k → k < base) (hS : AH w 33 3 S 2 (BI [⟨3, 3, 5, false⟩, ⟨1, 3, 0, false⟩])) (hSb : ∀ k, S.ownBlock = some k → k < base) (hbw : base ≤ w.heap.size) (h : Mo base ob mb M 0 [] 0 (.map []) w), Y 93 #[ob, .agg #[S, false]] w fun e w' => e = Z (U 101) ∧ Mo base ob mb M 1 [5, 5] 1 (.map [(.int .i64 3, .lit (.int .u64 5))]) w' ∧ Below base w w' ∧ CH w w') ∧
  (∀ (base ob mb : Nat) (M S : Value) (w : World) (hM : AH w 27 1 M 8 (AX [0, 0, 0, 5, 0, 0, 0, 0])) (hMb : ∀ k, M.ownBlock = some k → k < base) (hS : AH w 33 3 S 2 (BI [⟨2, 2, 9, false⟩, ⟨4, 3, 1, false⟩])) (hSb : ∀ k, S.ownBlock = some k → k < base) (hbw : base ≤ w.heap.size) (h : Mo base ob mb M 0 [] 0 (.map []) w), Y 93 #[ob, .agg #[S, false]] w fun e w' => e = Z (U 101) ∧ Mo base ob mb M 1 [0] 1 (.map [(.int .i64 2, .lit (.int .u64 9))]) w' ∧ Below base w w' ∧ CH w w') := by
 refine ⟨?m0, ?m1⟩
 case' m0 =>
  intro base ob mb M S w hM hMb hS hSb hbw h
  have mk_0 := trivial
 case' m1 =>
  intro base ob mb M S w hM hMb hS hSb hbw h
  have mk_1 := trivial
 all_goals
  first
   | guard_hyp mk_1
     obtain ⟨og, oo, oc, rfl, hoc, _⟩ := FY (l := [⟨2, 2, 9, false⟩, ⟨4, 3, 1, false⟩]) (j := 0) hS rfl
     have HOE := Vw (fun (j : Nat) (x : OpI) (hx : ([⟨2, 2, 9, false⟩, ⟨4, 3, 1, false⟩] : List OpI)[j]? = some x) (w' : World) (hb : Below base w w') => FY (hS.kept fun k hk => hb.block k (hSb k hk)) hx)
     have HMR := Vw (show ∀ w', Below base w w' → AH w' 27 1 M 8 (AX [0, 0, 0, 5, 0, 0, 0, 0]) from fun w' hb => hM.kept fun k hk => hb.block k (hMb k hk))
   | obtain ⟨og, oo, oc, rfl, hoc, _⟩ := FY (l := [⟨3, 3, 5, false⟩, ⟨1, 3, 0, false⟩]) (j := 0) hS rfl
     have HOE := Vw (fun (j : Nat) (x : OpI) (hx : ([⟨3, 3, 5, false⟩, ⟨1, 3, 0, false⟩] : List OpI)[j]? = some x) (w' : World) (hb : Below base w w') => FY (hS.kept fun k hk => hb.block k (hSb k hk)) hx)
     have HMR := Vw (show ∀ w', Below base w w' → AH w' 27 1 M 8 (AX [0, 0, 0, 0, 0, 0, 0, 0]) from fun w' hb => hM.kept fun k hk => hb.block k (hMb k hk))
  obtain ⟨mA, mc, rfl⟩ := hM.form
  obtain ⟨W0, hE0, hb0, hI0⟩ := alloc_new w (.cells #[.slice (some ⟨og, oo, none⟩) 2 oc, false] 31)
  have h0 := h.below hb0
  have HB0 := Vw (hb0.mono hbw)
  have HX0 := Vw (show ∀ w', Below W0 W0 w' → True from fun _ _ => trivial)
  have H0 := Vw h0
  have HOB := Vw (show ob < w.heap.size ∧ mb < w.heap.size from by
   obtain ⟨T, g1, g2, g3, g4, g5⟩ := h
   exact ⟨AF g1, g4.lt⟩)
  have HW := Vw hbw
  have hoc' : (2 : Int) ≤ (oc : Int) := by simp at hoc; omega
  have c0 := AA hI0
  have HI0 := Vw hI0
  have HKW0 := Vw (CH.of (Below.refl W0.heap.size W0))
  have HK0 := Vw (CH.of hb0)
  clear hM hMb hS hSb h hb0 h0 hI0 hbw hoc HX0
  go_enter func93, ntmps93
  go_wp2_with fail
  refine wp_loop_rounds 3 ?_
  rw [rounds_succ]
  obtain ⟨og', oo', oc', hv, _, hcell⟩ := HOE.out 0 _ rfl W0 HB0.out
  cases hv
  first
   | guard_hyp mk_1
     have e0 : W0.cell? ⟨og, oo, none⟩ = I 2 := hcell 0 _ rfl
     have e1' : W0.cell? ⟨og, oo + 1, none⟩ = I 2 := hcell 1 _ rfl
     have e2 : W0.cell? ⟨og, oo + 2, none⟩ = U 9 := hcell 2 _ rfl
     (obtain ⟨W1, hEW1, hb1, hI1⟩ := alloc_new W0 (.cells #[I 2, I 2, U 9] 33))
   | have e0 : W0.cell? ⟨og, oo, none⟩ = I 3 := hcell 0 _ rfl
     have e1' : W0.cell? ⟨og, oo + 1, none⟩ = I 3 := hcell 1 _ rfl
     have e2 : W0.cell? ⟨og, oo + 2, none⟩ = U 5 := hcell 2 _ rfl
     (obtain ⟨W1, hEW1, hb1, hI1⟩ := alloc_new W0 (.cells #[I 3, I 3, U 5] 33))
  have hsz := Vx HW.out HB0.out.size
  have h1 : Mo base ob mb (.slice mA 8 mc) 0 [] 0 (.map []) W1.drew := (H0.out.below hb1).below (Below.refl _ _).drew
  have HBW1 := Vw (HB0.out.trans ((hb1.drew).mono hsz))
  have HZW1 := Vw (Vx hsz hb1.size)
  have HKW1 := Vw (HKW0.out.trans (CH.of hb1.drew))
  first
   | guard_hyp mk_1
     have hop := Vw (QH base ob mb (.slice mA 8 mc) 0 [] 0 (.map []) 0 2 9 (by decide) (by decide) (by decide) (by decide) (by decide) (by decide) (by decide) (by decide) W1.drew h1 HZW1.out (by decide) (fun w' h' hb' => FS base ob mb (.slice mA 8 mc) 0 [] 0 (.map []) [0, 0, 0, 5, 0, 0, 0, 0] 2 0 0 false rfl (by decide) w' h' (HMR.out w' (HBW1.out.trans hb')) (by rfl) (by rfl) (by decide)))
   | have hop := Vw (Su base ob mb (.slice mA 8 mc) 0 [] 0 (.map []) 0 3 5 (by decide) (by decide) (by decide) (by decide) (by decide) (by decide) (by decide) (by decide) W1.drew h1 HZW1.out (by decide) (fun w' h' hb' => FS base ob mb (.slice mA 8 mc) 0 [] 0 (.map []) [0, 0, 0, 0, 0, 0, 0, 0] 3 0 0 false rfl (by decide) w' h' (HMR.out w' (HBW1.out.trans hb')) (by rfl) (by rfl) (by decide)))
  obtain ⟨T1, t1, _⟩ := h1
  have c1 := AA t1
  have d1 := AA (show W1.drew.heap[W0.heap.size]? = _ from hI1)
  have HQ := Vw hEW1
  clear hcell hb1 hI1 t1 hsz hEW1
  go_wp2_with fail
  rw [HQ.out]
  clear HQ
  go_region
  all_goals
   go_wp2_with fail
   refine hop.out.mono ?_
   rintro e w2 ⟨rfl, h2, b2, k2⟩
   have Hw2 := Vw h2
   have HBw2 := Vw (HBW1.out.trans b2)
   have HKw2 := Vw (HKW1.out.trans k2)
   clear h2 b2 k2 hop c1 d1
   go_wp2_with fail
   rw [rounds_succ]
   obtain ⟨og', oo', oc', hv, _, hcell⟩ := HOE.out 1 _ rfl w2 HBw2.out
   cases hv
   first
    | guard_hyp mk_1
      have e0 : w2.cell? ⟨og, oo + 3, none⟩ = I 4 := hcell 0 _ rfl
    | have e0 : w2.cell? ⟨og, oo + 3, none⟩ = I 1 := hcell 0 _ rfl
   have e1' : w2.cell? ⟨og, oo + 4, none⟩ = I 3 := hcell 1 _ rfl
   first
    | guard_hyp mk_1
      have e2 : w2.cell? ⟨og, oo + 5, none⟩ = U 1 := hcell 2 _ rfl
      (obtain ⟨W3, hEW3, hb1, hI1⟩ := alloc_new w2 (.cells #[I 4, I 3, U 1] 33))
    | have e2 : w2.cell? ⟨og, oo + 5, none⟩ = U 0 := hcell 2 _ rfl
      (obtain ⟨W3, hEW3, hb1, hI1⟩ := alloc_new w2 (.cells #[I 1, I 3, U 0] 33))
   have hsz := Vx HW.out HBw2.out.size
   first
    | guard_hyp mk_1
      have h1 : Mo base ob mb (.slice mA 8 mc) 1 [] 1 (.map [(.int .i64 2, .lit (.int .u64 9))]) W3.drew := (Hw2.out.below hb1).below (Below.refl _ _).drew
    | have h1 : Mo base ob mb (.slice mA 8 mc) 1 [5] 1 (.map [(.int .i64 3, .lit (.int .u64 5))]) W3.drew := (Hw2.out.below hb1).below (Below.refl _ _).drew
   have HBW3 := Vw (HBw2.out.trans ((hb1.drew).mono hsz))
   have HZW3 := Vw (Vx hsz hb1.size)
   have HKW3 := Vw (HKw2.out.trans (CH.of hb1.drew))
   first
    | guard_hyp mk_1
      have hop := Vw (RU base ob mb (.slice mA 8 mc) 1 [] 1 (.map [(.int .i64 2, .lit (.int .u64 9))]) 5 3 1 (by decide) (by decide) W3.drew h1 HZW3.out (by decide) (fun w' h' hb' => FS base ob mb (.slice mA 8 mc) 1 [] 1 (.map [(.int .i64 2, .lit (.int .u64 9))]) [0, 0, 0, 5, 0, 0, 0, 0] 3 5 0 false rfl (by decide) w' h' (HMR.out w' (HBW3.out.trans hb')) (by rfl) (by rfl) (by decide)))
    | have hop := Vw (RV base ob mb (.slice mA 8 mc) 1 [5] 1 (.map [(.int .i64 3, .lit (.int .u64 5))]) 5 3 W3.drew h1 HZW3.out (by decide) (fun w' h' hb' => FS base ob mb (.slice mA 8 mc) 1 [5] 1 (.map [(.int .i64 3, .lit (.int .u64 5))]) [0, 0, 0, 0, 0, 0, 0, 0] 3 0 5 true rfl (by decide) w' h' (HMR.out w' (HBW3.out.trans hb')) (by rfl) (by rfl) (by decide)))
   obtain ⟨T1, t1, _⟩ := h1
   have c1 := AA t1
   have d1 := AA (show W3.drew.heap[w2.heap.size]? = _ from hI1)
   have HQ := Vw hEW3
   clear hcell hb1 hI1 t1 hsz hEW3
   go_wp2_with fail
   rw [HQ.out]
   clear HQ
   go_region
   all_goals
    go_wp2_with fail
    refine hop.out.mono ?_
    rintro e w4 ⟨rfl, h2, b2, k2⟩
    have Hw4 := Vw h2
    have HBw4 := Vw (HBW3.out.trans b2)
    have HKw4 := Vw (HKW3.out.trans k2)
    clear h2 b2 k2 hop c1 d1
    go_wp2_with fail
    rw [rounds_succ]
    have c9 := AA (HKw4.out _ _ _ _ HI0.out (by decide) (by decide))
    go_wp2_with fail
    go_ret
    exact ⟨rfl, Hw4.out, HBw4.out, HK0.out.trans HKw4.out⟩
theorem mrunX :
  (∀ (M S : Value) (w : World) (hM : AH w 27 1 M 8 (AX [0, 0, 0, 0, 0, 0, 0, 0])) (hS : AH w 33 3 S 2 (BI [⟨3, 3, 5, false⟩, ⟨1, 3, 0, false⟩])), Y 53 #[M, I 8, .agg #[S, false]] w fun e w' => ∃ O T, e = Z (.tuple #[O, T, I 0]) ∧ AH w' 27 1 O 8 (AX [0, 0, 0, 5, 0, 0, 0, 0]) ∧ AH w' 27 1 T 3 (AX [5, 5, 101]) ∧ (∀ k, O.ownBlock = some k → w.heap.size ≤ k) ∧ (∀ k, T.ownBlock = some k → w.heap.size ≤ k) ∧ Below w w w') ∧
  (∀ (M S : Value) (w : World) (hM : AH w 27 1 M 8 (AX [0, 0, 0, 5, 0, 0, 0, 0])) (hS : AH w 33 3 S 2 (BI [⟨2, 2, 9, false⟩, ⟨4, 3, 1, false⟩])), Y 53 #[M, I 8, .agg #[S, false]] w fun e w' => ∃ O T, e = Z (.tuple #[O, T, I 0]) ∧ AH w' 27 1 O 8 (AX [0, 0, 9, 5, 0, 0, 0, 0]) ∧ AH w' 27 1 T 2 (AX [0, 101]) ∧ (∀ k, O.ownBlock = some k → w.heap.size ≤ k) ∧ (∀ k, T.ownBlock = some k → w.heap.size ≤ k) ∧ Below w w w') := by
 refine ⟨?m0, ?m1⟩
 case' m0 =>
  intro M S w hM hS
  have mk_0 := trivial
 case' m1 =>
  intro M S w hM hS
  have mk_1 := trivial
 all_goals
  obtain ⟨g, off, AV, cs, rfl, hg, hcap, _, _⟩ := hM.lies (by decide)
  obtain ⟨sg, so, sc, scs, rfl, hsg, hsc, _, _⟩ := hS.lies (by decide)
  have hmm := @run_makeMap prog
  obtain ⟨W1, hE1, hb1, hI1⟩ := alloc_new w (.cells #[.slice (some ⟨sg, so, none⟩) 2 sc, false] 31)
  first
   | guard_hyp mk_1
     have hgd := BN [⟨2, 2, 9, false⟩, ⟨4, 3, 1, false⟩] false (by decide) (.slice (some ⟨sg, so, none⟩) 2 sc) W1 (hS.below hb1)
     rw [show DE [⟨2, 2, 9, false⟩, ⟨4, 3, 1, false⟩] = true by kernel_rfl] at hgd
   | have hgd := BN [⟨3, 3, 5, false⟩, ⟨1, 3, 0, false⟩] false (by decide) (.slice (some ⟨sg, so, none⟩) 2 sc) W1 (hS.below hb1)
     rw [show DE [⟨3, 3, 5, false⟩, ⟨1, 3, 0, false⟩] = true by kernel_rfl] at hgd
  have HGD := Vw hgd
  have HM := Vw hM
  have HS := Vw hS
  have HB1 := Vw hb1
  have HI1 := Vw hI1
  have c1 := AA hI1
  clear hM hS hg hcap hsg hsc hb1 hI1 hgd
  go_enter func53, ntmps53
  go_wp2_with fail
  refine HGD.out.mono ?_
  rintro e w2 ⟨rfl, hb2⟩
  have HB2 := Vw (HB1.out.trans (hb2.mono HB1.out.size))
  have hI2 := AB hb2 HI1.out
  have HI2 := Vw hI2
  obtain ⟨W3, hE3⟩ : ∃ W, (w2.alloc (.map #[] 0)).alloc (.cells #[.slice (some ⟨g, off, none⟩) 8 AV, I 8, .map (some w2.heap.size), I 0, .slice none 0 0] 217) = W := ⟨_, rfl⟩
  have hb3 : Below w2 w2 W3 := hE3 ▸ JF (AC w2 _) (by simp) _
  have hz := HB2.out.size
  have hmo : Mo w.heap.size (w2.heap.size + 1) w2.heap.size (.slice (some ⟨g, off, none⟩) 8 AV) 0 [] 0 (.map []) W3 := ⟨.slice none 0 0, by
   have h := AE (w2.alloc (.map #[] 0)) (.cells #[.slice (some ⟨g, off, none⟩) 8 AV, I 8, .map (some w2.heap.size), I 0, .slice none 0 0] 217)
   rw [hE3] at h
   simpa using h, AH.nil _ _ _, by simp [Value.ownBlock], hE3 ▸ (World.ownsMap_made w2 prog 3 (plainElem prog 27)).alloc _, by omega, hz⟩
  have hB3 : Below w w W3 := HB2.out.trans (hb3.mono hz)
  first
   | guard_hyp mk_1
     have hen := mendX.2 w.heap.size (w2.heap.size + 1) w2.heap.size (.slice (some ⟨g, off, none⟩) 8 AV) (.slice (some ⟨sg, so, none⟩) 2 sc) W3 (HM.out.below hB3) (HM.out.lt) (HS.out.below hB3) (HS.out.lt) (Vx hz hb3.size) hmo
   | have hen := mendX.1 w.heap.size (w2.heap.size + 1) w2.heap.size (.slice (some ⟨g, off, none⟩) 8 AV) (.slice (some ⟨sg, so, none⟩) 2 sc) W3 (HM.out.below hB3) (HM.out.lt) (HS.out.below hB3) (HS.out.lt) (Vx hz hb3.size) hmo
  have HEN := Vw hen
  have HB3 := Vw hB3
  have c3 := AA (AB hb3 hI2)
  clear hb2 hI2 hb3 hmo hB3 hen c1 hE1
  go_wp2_with fail
  clear hE3
  refine HEN.out.mono ?_
  rintro e w4 ⟨rfl, h4, b4, k4⟩
  have HZ4 := Vw (Vx HB3.out.size b4.size)
  first
   | guard_hyp mk_1
     have hte := EE w.heap.size (w2.heap.size + 1) w2.heap.size (.slice (some ⟨g, off, none⟩) 8 AV) 1 [0] 1 (.map [(.int .i64 2, .lit (.int .u64 9))]) (by decide) 101 w4 h4 HZ4.out
   | have hte := EE w.heap.size (w2.heap.size + 1) w2.heap.size (.slice (some ⟨g, off, none⟩) 8 AV) 1 [5, 5] 1 (.map [(.int .i64 3, .lit (.int .u64 5))]) (by decide) 101 w4 h4 HZ4.out
  have HTE := Vw hte
  have HB4 := Vw (HB3.out.trans b4)
  clear h4 b4 k4 hte c3
  go_wp2_with fail
  refine HTE.out.mono ?_
  rintro e w5 ⟨rfl, h5, b5, k5⟩
  have HB5 := Vw (HB4.out.trans b5)
  have H5 := Vw h5
  first
   | guard_hyp mk_1
     have hcl := cloneX.2.1 g off 8 AV (AX [0, 0, 0, 5, 0, 0, 0, 0]) (by decide) w5 (HM.out.below HB5.out) (by decide)
   | have hcl := cloneX.2.1 g off 8 AV (AX [0, 0, 0, 0, 0, 0, 0, 0]) (by decide) w5 (HM.out.below HB5.out) (by decide)
  have HCL := Vw hcl
  clear h5 b5 k5 hcl
  go_wp2_with fail
  refine HCL.out.mono ?_
  rintro e w6 ⟨O, rfl, hr6, ho6, hb6⟩
  obtain ⟨cg, co, cc, ccs, rfl, hcg, hcc, hcs, hcx⟩ := hr6.lies (by decide)
  obtain ⟨T, u1, u2, u3, u4, u5⟩ := H5.out
  have t1 := AB hb6 u1
  have t2 := u2.below hb6
  have t3 := u3
  have t4 := u4.kept (BR hb6) (by simp)
  have HQT := Vw u2.lt
  have c6 := AA t1
  have HT6 := Vw (WA t1 (WA t2 t3))
  have HO6 := Vw t4
  have HR6 := Vw hr6
  have HG6 := Vw (show w5.heap.size ≤ cg from ho6 cg rfl)
  have HZ5 := Vw (show w2.heap.size + 1 < w5.heap.size ∧ w.heap.size ≤ w2.heap.size from ⟨by
   obtain ⟨T0, u1, _⟩ := H5.out
   exact AF u1, hz⟩)
  have HB6 := Vw (HB5.out.trans (hb6.mono HB5.out.size))
  have hccI : (8 : Int) ≤ (cc : Int) := by omega
  clear hr6 ho6 hb6 t1 t2 t3 t4 u1 u2 u3 u4 u5 hcg hcc hcs hcx hz
  go_wp2_with (first
   | (at_range; refine wpList_range_own _ rfl _ 215 rfl 3 27 Ed underlying215 _ w2.heap.size 1 _ rfl HO6.out ?_; intro w7 hrg7 hg7 hs7)
   | go_in)
  go_frame
  have HR7 := Vw hrg7
  have HG7 := Vw hg7
  clear hrg7 hg7 hs7 c6
  refine wp_loop_rounds 2 ?_
  rw [rounds_succ]
  go_wp2_with (first
   | (at_next; refine wpList_next_ranges_ii _ rfl _ rfl 3 27 .i64 .u64 Ed underlying3 underlying27 w2.heap.size w6.heap.size 1 _ _ _ rfl HR7.out ?_ ?_)
   | go_in)
  · intro h0 _
    exact absurd h0 (by decide)
  · intro x c w8 cnt8 _ _ hlx hat hrg8 _ hg8 hs8 hen8
    first
     | guard_hyp mk_1
       obtain rfl : x = 2 := by
        simp [Maps.has, Lit.sameKey] at hlx
        omega
       obtain rfl : c = 9 := by
        have h := hat (.lit (.int .u64 0))
        simp [DataW.atKey, Lit.sameKey] at h
        omega
     | obtain rfl : x = 3 := by
        simp [Maps.has, Lit.sameKey] at hlx
        omega
       obtain rfl : c = 5 := by
        have h := hat (.lit (.int .u64 0))
        simp [DataW.atKey, Lit.sameKey] at h
        omega
    have hg78 : ∀ {k : Nat} {cs : Array Value} {T : TypeId}, w6.heap[k]? = some (.cells cs T (0, 0)) → w8.heap[k]? = some (.cells cs T (0, 0)) := fun {k cs T} hk => by
     have h7 := (HG7.out.block k (AF hk) (by simp)).trans hk
     exact (hg8.block k (AF h7) (fun e => by cases e; exact absurd (AF hk) (by omega))).trans h7
    obtain ⟨cs6, hcs6⟩ := HR6.out.type cg rfl
    first
     | guard_hyp mk_1
       have hr8 : AH w8 27 1 (.slice (some ⟨cg, co, none⟩) 8 cc) 8 (AX [0, 0, 0, 5, 0, 0, 0, 0]) := HR6.out.kept fun k hk => by cases hk; exact (hg78 hcs6).trans hcs6.symm
     | have hr8 : AH w8 27 1 (.slice (some ⟨cg, co, none⟩) 8 cc) 8 (AX [0, 0, 0, 0, 0, 0, 0, 0]) := HR6.out.kept fun k hk => by cases hk; exact (hg78 hcs6).trans hcs6.symm
    obtain ⟨t1, t2, t3⟩ := HT6.out
    have ht8 := hg78 t1
    first
     | guard_hyp mk_1
       have hT8 : AH w8 27 1 T 2 (AX [0, 101]) := t2.kept fun k hk => by
        obtain ⟨cs, h⟩ := t2.type k hk
        exact (hg78 h).trans h.symm
     | have hT8 : AH w8 27 1 T 3 (AX [5, 5, 101]) := t2.kept fun k hk => by
        obtain ⟨cs, h⟩ := t2.type k hk
        exact (hg78 h).trans h.symm
    have hb8 : Below w w w8 := (HB6.out.grown (HG7.out.but (some w6.heap.size)) HB6.out.size (fun k hk => by cases hk; exact HB6.out.size)).grown hg8 (Vx HB6.out.size HG7.out.size) (fun k hk => by cases hk; exact HB6.out.size)
    first
     | guard_hyp mk_1
       have e8 : w8.cell? ⟨cg, co + 2, none⟩ = U 0 := by
        obtain ⟨_, _, _, cs, hv, h1, _, _, h2⟩ := hr8.lies (by decide)
        cases hv
        exact AD h1 _ (h2 2 _ rfl)
       have f8 := Aq (hg78 hcs6) (co + 2)
     | have e8 : w8.cell? ⟨cg, co + 3, none⟩ = U 0 := by
        obtain ⟨_, _, _, cs, hv, h1, _, _, h2⟩ := hr8.lies (by decide)
        cases hv
        exact AD h1 _ (h2 3 _ rfl)
       have f8 := Aq (hg78 hcs6) (co + 3)
    have HQ := Vw (WA hr8 (WA ht8 (WA hT8 (WA hb8 (WA t3 (WA (hg78 hcs6) hrg8))))))
    clear hlx hat hrg8 hg8 hs8 hg78 hr8 t1 t2 t3 ht8 hT8 hb8 hcs6
    go_wp2_with fail
    first
     | guard_hyp mk_1
       generalize hW9 : w8.setCell ⟨cg, co + 2, none⟩ (U 9) = W9
     | generalize hW9 : w8.setCell ⟨cg, co + 3, none⟩ (U 5) = W9
    obtain ⟨q1, q2, q3, q4, q5, q6, q7⟩ := HQ.out
    first
     | guard_hyp mk_1
       have hr9 : AH W9 27 1 (.slice (some ⟨cg, co, none⟩) 8 cc) 8 (AX [0, 0, 9, 5, 0, 0, 0, 0]) := by
        obtain ⟨_, _, _, cs, hv, h1, h2, h3, h4⟩ := q1.lies (by decide)
        cases hv
        rw [← hW9]
        exact AH.set q1.1 h1 h2 h3 h4 2 _
     | have hr9 : AH W9 27 1 (.slice (some ⟨cg, co, none⟩) 8 cc) 8 (AX [0, 0, 0, 5, 0, 0, 0, 0]) := by
        obtain ⟨_, _, _, cs, hv, h1, h2, h3, h4⟩ := q1.lies (by decide)
        cases hv
        rw [← hW9]
        exact AH.set q1.1 h1 h2 h3 h4 3 _
    have t9 : W9.heap[w2.heap.size + 1]? = _ := hW9 ▸ (Vz _ _ _ _ (AG q2 q6 (by decide))).trans q2
    first
     | guard_hyp mk_1
       have hT9 : AH W9 27 1 T 2 (AX [0, 101]) := q3.kept fun k hk => by
        have := HQT.out k hk
        have := HG6.out
        rw [← hW9]
        exact Vz _ _ _ _ (by simp; omega)
     | have hT9 : AH W9 27 1 T 3 (AX [5, 5, 101]) := q3.kept fun k hk => by
        have := HQT.out k hk
        have := HG6.out
        rw [← hW9]
        exact Vz _ _ _ _ (by simp; omega)
    have hb9 : Below w w W9 := hW9 ▸ IJ q4 (by have := HG6.out; have := HZ5.out; simp; omega) _
    have hcl : cg < w6.heap.size := by
     obtain ⟨cs, h⟩ := HR6.out.type cg rfl
     exact AF h
    have hrg9 := q7.kept (w' := W9) (row := some cg) ⟨by rw [← hW9]; rfl, by rw [← hW9]; rfl, by rw [← hW9]; rfl, by rw [← hW9]; simp [World.setCell], fun k hk hne => by rw [← hW9]; exact Vz _ _ _ _ (fun e => hne (by rw [e]))⟩ (by have := HG6.out; have := HZ5.out; simp; omega) (by simp; omega)
    have c9 := AA t9
    have d9 := AA (show W9.drew.heap[w2.heap.size + 1]? = _ from t9)
    have HE := Vw (WA hr9 (WA hT9 (WA hb9 q5)))
    have HR9 := Vw hrg9
    clear hW9 q1 q2 q3 q4 q5 q6 q7 hr9 t9 hT9 hb9 hcl hrg9 e8 f8 hen8
    rw [rounds_succ]
    go_wp2_with (first
     | (at_next; refine wpList_next_ranges_ii _ rfl _ rfl 3 27 .i64 .u64 Ed underlying3 underlying27 w2.heap.size w6.heap.size 1 _ _ _ rfl HR9.out ?_ ?_)
     | go_in)
    · intro _ _
      go_wp2_with fail
      go_region
      all_goals
       go_wp2_with fail
       refine bodyPost_ret (v := .tuple #[.slice (some ⟨cg, co, none⟩) 8 cc, T, I 0]) (by simp [results, results53, go_sem]) rfl ⟨.slice (some ⟨cg, co, none⟩) 8 cc, T, rfl, HE.out.1, HE.out.2.1, fun k hk => by have hk' : cg = k := (by simpa [Value.ownBlock] using hk); have := HG6.out; have := HZ5.out; omega, HE.out.2.2.2, HE.out.2.2.1.drew⟩
    · intro x c w' _ _ _ hlx hsk
      exfalso
      simp [Maps.has, Lit.sameKey] at hlx
      subst hlx
      first
       | exact absurd hsk (by decide)
       | simp [Lit.sameKey] at hsk
end Go.Proofs.YtkoplblbeapfgaaGreatDoor
