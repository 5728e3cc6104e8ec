/-
Parts of the walk of TopEnds. Conditions stand in each statement.
-/
import Derived.Test.YtkoplblbeapfgaaGreatDoorX10
namespace Go.Proofs.YtkoplblbeapfgaaGreatDoor
open Go.RowKit
open Tryz
set_option linter.all false
set_option maxRecDepth 100000
set_option maxHeartbeats 8000000
def Bn (n k : Nat) : Value := I (if k < n then (if 140 ≤ k then -2 else -1) else 0)
def DF (n : Nat) : List Value := (List.range 150).map (Bn n)
theorem Au (n k : Nat) (hk : k < 150) : (DF n).toArray[k]? = some (Bn n k) := by simp [DF, hk]
theorem LU (n : Nat) (hn : n < 150) : (DF n).toArray.setIfInBounds n (I (if 140 ≤ n then -2 else -1)) = (DF (n + 1)).toArray := by
 apply Array.ext_getElem?
 intro k
 by_cases hk : k < 150
 · rw [Au _ _ hk]
   by_cases h : n = k
   · subst h
     rw [Array.getElem?_setIfInBounds_self_of_lt (by simp [DF]; omega)]
     simp [Bn]
   · rw [Array.getElem?_setIfInBounds_ne h, Au _ _ hk]
     have : (k < n) = (k < n + 1) := by rw [eq_iff_iff]; omega
     simp [Bn, this]
 · rw [Array.getElem?_eq_none (by simp [DF]; omega), Array.getElem?_eq_none (by simp [DF]; omega)]
theorem SX (w : World) : (zeroValue 435).run prog w = .ok (.agg (DF 0).toArray) w := by kernel_rfl
def DT : List Value := [I (-1), I (-1), I (-1), I (-1), I (-1), I (-1), I (-1), I (-1), I (-1), I (-1), I (-1), I (-1), I (-1), I (-1), I (-1), I (-1), I (-1), I (-1), I (-1), I (-1), I (-1), I (-1), I (-1), I (-1), I (-1), I (-1), I (-1), I (-1), I (-1), I (-1), I (-1), I (-1), I (-1), I (-1), I (-1), I (-1), I (-1), I (-1), I (-1), I (-1), I (-1), I (-1), I (-1), I (-1), I (-1), I (-1), I (-1), I (-1), I (-1), I (-1), I (-1), I (-1), I (-1), I (-1), I (-1), I (-1), I (-1), I (-1), I (-1), I (-1), I (-1), I (-1), I (-1), I (-1), I (-1), I (-1), I (-1), I (-1), I (-1), I (-1), I (-1), I (-1), I (-1), I (-1), I (-1), I (-1), I (-1), I (-1), I (-1), I (-1), I (-1), I (-1), I (-1), I (-1), I 1, I (-1), I (-1), I (-1), I (-1), I (-1), I (-1), I (-1), I (-1), I (-1), I 2, I (-1), I (-1), I (-1), I (-1), I (-1), I (-1), I (-1), I (-1), I (-1), I (-1), I 2, I 2, I (-1), I (-1), I (-1), I (-1), I (-1), I (-1), I (-1), I (-1), I (-1), I (-1), I 0, I 0, I 0, I (-1), I 0, I 0, I 0, I (-1), I (-1), I 5, I 8, I (-1), I 8, I (-1), I (-1), I 1, I 1, I (-1), I (-1), I (-1), I 8, I (-1), I 8, I (-2), I (-2), I (-2), I (-2), I (-2), I (-2), I (-2), I (-2), I (-2), I (-2)]
def Ba : Array Value := DT.toArray
theorem Pk : ((((((((((((((((((((((((((((DF 150).toArray.setIfInBounds 84 (I 1)).setIfInBounds 94 (I 2)).setIfInBounds 105 (I 2)).setIfInBounds 106 (I 2)).setIfInBounds 117 (I 0)).setIfInBounds 119 (I 0)).setIfInBounds 118 (I 0)).setIfInBounds 120 (I (-1))).setIfInBounds 121 (I 0)).setIfInBounds 122 (I 0)).setIfInBounds 123 (I 0)).setIfInBounds 124 (I (-1))).setIfInBounds 125 (I (-1))).setIfInBounds 126 (I 5)).setIfInBounds 127 (I 8)).setIfInBounds 128 (I (-1))).setIfInBounds 129 (I 8)).setIfInBounds 130 (I (-1))).setIfInBounds 131 (I (-1))).setIfInBounds 132 (I 1)).setIfInBounds 133 (I 1)).setIfInBounds 134 (I (-1))).setIfInBounds 135 (I (-1))).setIfInBounds 136 (I (-1))).setIfInBounds 137 (I 8)).setIfInBounds 138 (I (-1))).setIfInBounds 139 (I 8)) = Ba := by kernel_rfl
theorem Pl : ∀ u ∈ DT, u.oneCell' = true := by
 have : DT.all (fun u => u.oneCell') = true := by kernel_rfl
 exact fun u hu => List.all_eq_true.1 this u hu
structure TI (w : World) (p0 p1 : Nat) (W : World) (n : Nat) : Prop where
 tab : W.heap[p1]? = some (.cells (DF n).toArray 435)
 out : W.heap[p0]? = some (.cells (DF 0).toArray 435)
 bel : Below w w W
theorem TI.put {w W : World} {p0 p1 n : Nat} (h : TI w p0 p1 W n) (hn : n < 150) (h0 : p0 ≠ p1) (h1 : w.heap.size ≤ p1) : TI w p0 p1 (W.setCell ⟨p1, n, none⟩ (I (if 140 ≤ n then -2 else -1))) (n + 1) :=
 ⟨(AI h.tab n _).trans (by rw [LU n hn]), (Vz _ _ _ _ h0).trans h.out, h.bel.setCell (p := ⟨p1, n, none⟩) h1 _⟩
theorem TI.put2 {w W : World} {p0 p1 n : Nat} (h : TI w p0 p1 W n) (hn : n < 150) (hn2 : 140 ≤ n) (h0 : p0 ≠ p1) (h1 : w.heap.size ≤ p1) : TI w p0 p1 ((W.setCell ⟨p1, n, none⟩ (I (-1))).setCell ⟨p1, n, none⟩ (I (-2))) (n + 1) := by
 refine ⟨?_, (Vz _ _ _ _ h0).trans ((Vz _ _ _ _ h0).trans h.out), (h.bel.setCell (p := ⟨p1, n, none⟩) h1 _).setCell (p := ⟨p1, n, none⟩) h1 _⟩
 have h2 := AI (AI h.tab n (I (-1))) n (I (-2))
 rw [Array.setIfInBounds_setIfInBounds] at h2
 have h3 := LU n hn
 rw [if_pos hn2] at h3
 rwa [h3] at h2
theorem NC (w : World) : Y 332 #[] w fun e w' => e = Z (.agg Ba) ∧ Below w w w' := by
 have hz := SX
 have hsz : (DF 0).toArray.size = 150 := by simp [DF]
 have a1 := AE w (.cells (DF 0).toArray 435)
 have a2 := AE (w.alloc (.cells (DF 0).toArray 435)) (.cells (DF 0).toArray 435)
 rw [World.size_alloc] at a2
 obtain ⟨W0, hW0⟩ : ∃ W0, (w.alloc (.cells (DF 0).toArray 435)).alloc (.cells (DF 0).toArray 435) = W0 := ⟨_, rfl⟩
 have HT := Vw (show TI w w.heap.size (w.heap.size + 1) W0 0 from by
  rw [← hW0]
  exact ⟨a2, (Below.heap_alloc _ _ _ (by simp)).trans a1, ((Below.refl _ w).alloc (Nat.le_refl _) _).alloc (by simp) _⟩)
 have hp01 : w.heap.size ≠ w.heap.size + 1 := Nat.ne_of_lt (Nat.lt_succ_self _)
 have hle1 : w.heap.size ≤ w.heap.size + 1 := Nat.le_succ _
 clear a1 a2
 generalize hT : (DF 0).toArray = T0 at *
 go_enter func332, ntmps332
 go_wp2_with fail
 try rw [hW0]
 clear hW0 hz hsz
 generalize w.heap.size + 1 = p1 at *
 go_loopw [4] (fun k W => ∃ j : Nat, j ≤ 15 ∧ k = I j ∧ TI w w.heap.size p1 W (j * 10)) (fun k W => 15 - (intOf k).toNat)
 case atStart => exact ⟨0, by omega, rfl, by rw [Nat.zero_mul]; exact HT.out⟩
 case round =>
  obtain ⟨j, hj, rfl, hti⟩ := hrel
  have HI := Vw hti
  clear hti
  by_cases hlt : (j : Int) < 15
  · have hj0 : (0 : Int) ≤ (j : Int) := Int.natCast_nonneg _
    go_wp2_with fail
    go_loopw [7] (fun k W => ∃ q : Nat, q ≤ 10 ∧ k = I q ∧ TI w w.heap.size p1 W (j * 10 + q)) (fun k W => 10 - (intOf k).toNat)
    case atStart => exact ⟨0, by omega, rfl, HI.out⟩
    case round =>
     obtain ⟨q, hq, rfl, ht⟩ := hrel
     have HQ := Vw ht
     by_cases hlt2 : (q : Int) < 10
     · have hq0 : (0 : Int) ≤ (q : Int) := Int.natCast_nonneg _
       have hn : j * 10 + q < 150 := by omega
       have c0 : wr.cell? ⟨p1, j * 10 + q, none⟩ = some (Bn (j * 10 + q) (j * 10 + q)) := AD ht.tab _ (Au _ _ hn)
       have f0 := Aq ht.tab (j * 10 + q)
       clear ht HI
       by_cases h14 : j = 14
       · subst h14
         have hnx := Vw (show 140 ≤ 14 * 10 + q by omega)
         go_wp2_with fail
         exact ⟨⟨q + 1, by omega, by simp, HQ.out.put2 hn hnx.out hp01 hle1⟩, by simp [intOf]; omega⟩
       · have hne : ¬ ((j : Int) = 14) := by omega
         have hnx := Vw (show ¬ 140 ≤ j * 10 + q by omega)
         go_wp2_with fail
         have := HQ.out.put hn hp01 hle1
         rw [if_neg hnx.out] at this
         exact ⟨⟨q + 1, by omega, by simp, this⟩, by simp [intOf]; omega⟩
     · obtain rfl : q = 10 := by omega
       clear ht HI
       go_wp2_with fail
       refine ⟨⟨j + 1, by omega, by simp, ?_⟩, by simp [intOf]; omega⟩
       rw [Nat.succ_mul]
       exact HQ.out
  · obtain rfl : j = 15 := by omega
    have hI : wr.heap[p1]? = some (.cells (DF 150).toArray 435) := HI.out.tab
    have x84 : wr.cell? ⟨p1, 84, none⟩ = some (Bn 150 84) := AD hI 84 (Au 150 84 (by decide))
    have x94 : wr.cell? ⟨p1, 94, none⟩ = some (Bn 150 94) := AD hI 94 (Au 150 94 (by decide))
    have x105 : wr.cell? ⟨p1, 105, none⟩ = some (Bn 150 105) := AD hI 105 (Au 150 105 (by decide))
    have x106 : wr.cell? ⟨p1, 106, none⟩ = some (Bn 150 106) := AD hI 106 (Au 150 106 (by decide))
    have x117 : wr.cell? ⟨p1, 117, none⟩ = some (Bn 150 117) := AD hI 117 (Au 150 117 (by decide))
    have x118 : wr.cell? ⟨p1, 118, none⟩ = some (Bn 150 118) := AD hI 118 (Au 150 118 (by decide))
    have x119 : wr.cell? ⟨p1, 119, none⟩ = some (Bn 150 119) := AD hI 119 (Au 150 119 (by decide))
    have x120 : wr.cell? ⟨p1, 120, none⟩ = some (Bn 150 120) := AD hI 120 (Au 150 120 (by decide))
    have x121 : wr.cell? ⟨p1, 121, none⟩ = some (Bn 150 121) := AD hI 121 (Au 150 121 (by decide))
    have x122 : wr.cell? ⟨p1, 122, none⟩ = some (Bn 150 122) := AD hI 122 (Au 150 122 (by decide))
    have x123 : wr.cell? ⟨p1, 123, none⟩ = some (Bn 150 123) := AD hI 123 (Au 150 123 (by decide))
    have x124 : wr.cell? ⟨p1, 124, none⟩ = some (Bn 150 124) := AD hI 124 (Au 150 124 (by decide))
    have x125 : wr.cell? ⟨p1, 125, none⟩ = some (Bn 150 125) := AD hI 125 (Au 150 125 (by decide))
    have x126 : wr.cell? ⟨p1, 126, none⟩ = some (Bn 150 126) := AD hI 126 (Au 150 126 (by decide))
    have x127 : wr.cell? ⟨p1, 127, none⟩ = some (Bn 150 127) := AD hI 127 (Au 150 127 (by decide))
    have x128 : wr.cell? ⟨p1, 128, none⟩ = some (Bn 150 128) := AD hI 128 (Au 150 128 (by decide))
    have x129 : wr.cell? ⟨p1, 129, none⟩ = some (Bn 150 129) := AD hI 129 (Au 150 129 (by decide))
    have x130 : wr.cell? ⟨p1, 130, none⟩ = some (Bn 150 130) := AD hI 130 (Au 150 130 (by decide))
    have x131 : wr.cell? ⟨p1, 131, none⟩ = some (Bn 150 131) := AD hI 131 (Au 150 131 (by decide))
    have x132 : wr.cell? ⟨p1, 132, none⟩ = some (Bn 150 132) := AD hI 132 (Au 150 132 (by decide))
    have x133 : wr.cell? ⟨p1, 133, none⟩ = some (Bn 150 133) := AD hI 133 (Au 150 133 (by decide))
    have x134 : wr.cell? ⟨p1, 134, none⟩ = some (Bn 150 134) := AD hI 134 (Au 150 134 (by decide))
    have x135 : wr.cell? ⟨p1, 135, none⟩ = some (Bn 150 135) := AD hI 135 (Au 150 135 (by decide))
    have x136 : wr.cell? ⟨p1, 136, none⟩ = some (Bn 150 136) := AD hI 136 (Au 150 136 (by decide))
    have x137 : wr.cell? ⟨p1, 137, none⟩ = some (Bn 150 137) := AD hI 137 (Au 150 137 (by decide))
    have x138 : wr.cell? ⟨p1, 138, none⟩ = some (Bn 150 138) := AD hI 138 (Au 150 138 (by decide))
    have x139 : wr.cell? ⟨p1, 139, none⟩ = some (Bn 150 139) := AD hI 139 (Au 150 139 (by decide))
    have f1 := AJ hI
    obtain ⟨Wf, hWf⟩ : ∃ Wf, (((((((((((((((((((((((((((wr.setCell ⟨p1, 84, none⟩ (I 1)).setCell ⟨p1, 94, none⟩ (I 2)).setCell ⟨p1, 105, none⟩ (I 2)).setCell ⟨p1, 106, none⟩ (I 2)).setCell ⟨p1, 117, none⟩ (I 0)).setCell ⟨p1, 119, none⟩ (I 0)).setCell ⟨p1, 118, none⟩ (I 0)).setCell ⟨p1, 120, none⟩ (I (-1))).setCell ⟨p1, 121, none⟩ (I 0)).setCell ⟨p1, 122, none⟩ (I 0)).setCell ⟨p1, 123, none⟩ (I 0)).setCell ⟨p1, 124, none⟩ (I (-1))).setCell ⟨p1, 125, none⟩ (I (-1))).setCell ⟨p1, 126, none⟩ (I 5)).setCell ⟨p1, 127, none⟩ (I 8)).setCell ⟨p1, 128, none⟩ (I (-1))).setCell ⟨p1, 129, none⟩ (I 8)).setCell ⟨p1, 130, none⟩ (I (-1))).setCell ⟨p1, 131, none⟩ (I (-1))).setCell ⟨p1, 132, none⟩ (I 1)).setCell ⟨p1, 133, none⟩ (I 1)).setCell ⟨p1, 134, none⟩ (I (-1))).setCell ⟨p1, 135, none⟩ (I (-1))).setCell ⟨p1, 136, none⟩ (I (-1))).setCell ⟨p1, 137, none⟩ (I 8)).setCell ⟨p1, 138, none⟩ (I (-1))).setCell ⟨p1, 139, none⟩ (I 8)) = Wf := ⟨_, rfl⟩
    have hIf : Wf.heap[p1]? = some (.cells Ba 435) := by rw [← hWf, ← Pk]; exact (AI (AI (AI (AI (AI (AI (AI (AI (AI (AI (AI (AI (AI (AI (AI (AI (AI (AI (AI (AI (AI (AI (AI (AI (AI (AI (AI hI 84 (I 1)) 94 (I 2)) 105 (I 2)) 106 (I 2)) 117 (I 0)) 119 (I 0)) 118 (I 0)) 120 (I (-1))) 121 (I 0)) 122 (I 0)) 123 (I 0)) 124 (I (-1))) 125 (I (-1))) 126 (I 5)) 127 (I 8)) 128 (I (-1))) 129 (I 8)) 130 (I (-1))) 131 (I (-1))) 132 (I 1)) 133 (I 1)) 134 (I (-1))) 135 (I (-1))) 136 (I (-1))) 137 (I 8)) 138 (I (-1))) 139 (I 8))
    have hbf : Below w w Wf := by rw [← hWf]; exact (((((((((((((((((((((((((((HI.out.bel.setCell (p := ⟨p1, 84, none⟩) hle1 (I 1)).setCell (p := ⟨p1, 94, none⟩) hle1 (I 2)).setCell (p := ⟨p1, 105, none⟩) hle1 (I 2)).setCell (p := ⟨p1, 106, none⟩) hle1 (I 2)).setCell (p := ⟨p1, 117, none⟩) hle1 (I 0)).setCell (p := ⟨p1, 119, none⟩) hle1 (I 0)).setCell (p := ⟨p1, 118, none⟩) hle1 (I 0)).setCell (p := ⟨p1, 120, none⟩) hle1 (I (-1))).setCell (p := ⟨p1, 121, none⟩) hle1 (I 0)).setCell (p := ⟨p1, 122, none⟩) hle1 (I 0)).setCell (p := ⟨p1, 123, none⟩) hle1 (I 0)).setCell (p := ⟨p1, 124, none⟩) hle1 (I (-1))).setCell (p := ⟨p1, 125, none⟩) hle1 (I (-1))).setCell (p := ⟨p1, 126, none⟩) hle1 (I 5)).setCell (p := ⟨p1, 127, none⟩) hle1 (I 8)).setCell (p := ⟨p1, 128, none⟩) hle1 (I (-1))).setCell (p := ⟨p1, 129, none⟩) hle1 (I 8)).setCell (p := ⟨p1, 130, none⟩) hle1 (I (-1))).setCell (p := ⟨p1, 131, none⟩) hle1 (I (-1))).setCell (p := ⟨p1, 132, none⟩) hle1 (I 1)).setCell (p := ⟨p1, 133, none⟩) hle1 (I 1)).setCell (p := ⟨p1, 134, none⟩) hle1 (I (-1))).setCell (p := ⟨p1, 135, none⟩) hle1 (I (-1))).setCell (p := ⟨p1, 136, none⟩) hle1 (I (-1))).setCell (p := ⟨p1, 137, none⟩) hle1 (I 8)).setCell (p := ⟨p1, 138, none⟩) hle1 (I (-1))).setCell (p := ⟨p1, 139, none⟩) hle1 (I 8))
    have h0f : Wf.heap[w.heap.size]? = some (.cells T0 435) := by
     rw [← hWf]
     iterate 27 (refine (Vz _ _ _ _ hp01).trans ?_)
     rw [← hT]; exact HI.out.out
    have hld : (loadVar 435 p1).run prog Wf = .ok (.agg Ba) Wf := run_loadVar_row Wf p1 435 435 Ba (0, 0) _ hIf underlying435 rfl (by kernel_rfl)
    have hc0 := AA h0f
    have hst : (storeCells w Ba.toList).run prog Wf = .ok () (Wf.setCells w.heap.size 0 DT) := by
     show (storeCells w DT).run prog Wf = .ok () (Wf.setCells w.heap.size 0 DT)
     have := run_storeCells_cells (P := prog) w.heap.size 0 DT 0 Wf (fun j hj => by rw [Nat.add_zero, Nat.zero_add, hc0, ← hT, Au _ _ (by simpa [DT] using hj)]; rfl) (fun j hj => Aq h0f _) Pl
     simpa using this
    have hfin : (Wf.setCells w.heap.size 0 DT).heap[w.heap.size]? = some (.cells Ba 435) := AT DT h0f 0 _ (by rw [← hT]; kernel_rfl)
    have hbn := Ac (Nat.le_refl _) DT hbf 0
    obtain ⟨Wn, hWn⟩ := ex_ (Wf.setCells w.heap.size 0 DT)
    rw [hWn] at hst hfin hbn
    have hl2 : (loadVar 435 w).run prog Wn = .ok (.agg Ba) Wn := run_loadVar_row Wn w.heap.size 435 435 Ba (0, 0) _ hfin underlying435 rfl (by kernel_rfl)
    have hszT : Ba.size = 150 := rfl
    have HR := Vw hbn
    have HIf := Vw hIf
    clear hbn hfin hWn hc0 h0f hbf hIf hI
    go_wp2_with fail
    refine wp_load_row 435 (.tmp 1) rfl p1 rfl 435 Ba (0, 0) _ HIf.out underlying435 rfl (by kernel_rfl) ?_
    go_wp2_with fail
    trace_state
    refine bodyPost_ret (v := .agg Ba) (by simp [results, results332, asAddr, hl2]) rfl ⟨rfl, HR.out⟩
theorem ghearX :
  (∀ (gb ab sb : Nat) (a : Arr) (m : Msg) (hm : BJ m = true) (hk8 : 8 ≤ m.kind) (hk14 : m.kind ≤ 14) (h0 : 0 ≤ m.line) (s : Slot) (hs : a.find m.line = s) (R : Array Value) (hix1 : ∀ w : World, (Instr.index 435 (.agg Ba) (I m.kind)).run prog w = .ok (.agg R) w) (hix2 : ∀ w : World, (Instr.index 434 (.agg R) (I s.st)).run prog w = .ok (I (-2)) w) (w : World) (h : Ag w gb ab sb a), Y 273 #[gb, .agg m] w fun e w' => ∃ S, e = Z (.tuple #[S, I 0]) ∧ Ar gb ab sb w a [] S w') ∧
  (∀ (gb ab sb : Nat) (a : Arr) (m : Msg) (hm : BJ m = true) (hk8 : 8 ≤ m.kind) (hk14 : m.kind ≤ 14) (h0 : 0 ≤ m.line) (s : Slot) (hs : a.find m.line = s) (R : Array Value) (hix1 : ∀ w : World, (Instr.index 435 (.agg Ba) (I m.kind)).run prog w = .ok (.agg R) w) (hix2 : ∀ w : World, (Instr.index 434 (.agg R) (I s.st)).run prog w = .ok (I 0) w) (l : List Msg) (hans : ∀ w : World, Y 334 #[.agg m, .agg s, I 0] w fun e w' => ∃ S, e = Z S ∧ AH w' 253 12 S l.length (Ao l) ∧ (∀ k, S.ownBlock = some k → w.heap.size ≤ k) ∧ Below w w w') (w : World) (h : Ag w gb ab sb a), Y 273 #[gb, .agg m] w fun e w' => ∃ S, e = Z (.tuple #[S, I 0]) ∧ Ar gb ab sb w (a.drop m.line) l S w') ∧
  (∀ (gb ab sb : Nat) (a : Arr) (m : Msg) (hm : BJ m = true) (hk8 : 8 ≤ m.kind) (hk14 : m.kind ≤ 14) (h0 : 0 ≤ m.line) (s : Slot) (hs : a.find m.line = s) (R : Array Value) (hix1 : ∀ w : World, (Instr.index 435 (.agg Ba) (I m.kind)).run prog w = .ok (.agg R) w) (hix2 : ∀ w : World, (Instr.index 434 (.agg R) (I s.st)).run prog w = .ok (I 1) w) (l : List Msg) (hans : ∀ w : World, Y 334 #[.agg m, .agg s, I 1] w fun e w' => ∃ S, e = Z S ∧ AH w' 253 12 S l.length (Ao l) ∧ (∀ k, S.ownBlock = some k → w.heap.size ≤ k) ∧ Below w w w') (hkf : ¬ m.kind = 8 ∧ ¬ m.kind = 9 ∧ ¬ m.kind = 10) (a' : Arr) (hp : a.put m.line 1 s.data = some a') (w : World) (h : Ag w gb ab sb a), Y 273 #[gb, .agg m] w fun e w' => ∃ S, e = Z (.tuple #[S, I 0]) ∧ Ar gb ab sb w a' l S w') ∧
  (∀ (gb ab sb : Nat) (a : Arr) (m : Msg) (hm : BJ m = true) (hk8 : 8 ≤ m.kind) (hk14 : m.kind ≤ 14) (h0 : 0 ≤ m.line) (s : Slot) (hs : a.find m.line = s) (R : Array Value) (hix1 : ∀ w : World, (Instr.index 435 (.agg Ba) (I m.kind)).run prog w = .ok (.agg R) w) (hix2 : ∀ w : World, (Instr.index 434 (.agg R) (I s.st)).run prog w = .ok (I 2) w) (l : List Msg) (hans : ∀ w : World, Y 334 #[.agg m, .agg s, I 2] w fun e w' => ∃ S, e = Z S ∧ AH w' 253 12 S l.length (Ao l) ∧ (∀ k, S.ownBlock = some k → w.heap.size ≤ k) ∧ Below w w w') (hkf : ¬ m.kind = 8 ∧ m.kind = 9) (a' : Arr) (hp : a.put m.line 2 m.data = some a') (w : World) (h : Ag w gb ab sb a), Y 273 #[gb, .agg m] w fun e w' => ∃ S, e = Z (.tuple #[S, I 0]) ∧ Ar gb ab sb w a' l S w') ∧
  (∀ (gb ab sb : Nat) (a : Arr) (m : Msg) (hm : BJ m = true) (hk8 : 8 ≤ m.kind) (hk14 : m.kind ≤ 14) (h0 : 0 ≤ m.line) (s : Slot) (hs : a.find m.line = s) (R : Array Value) (hix1 : ∀ w : World, (Instr.index 435 (.agg Ba) (I m.kind)).run prog w = .ok (.agg R) w) (hix2 : ∀ w : World, (Instr.index 434 (.agg R) (I s.st)).run prog w = .ok (I 2) w) (l : List Msg) (hans : ∀ w : World, Y 334 #[.agg m, .agg s, I 2] w fun e w' => ∃ S, e = Z S ∧ AH w' 253 12 S l.length (Ao l) ∧ (∀ k, S.ownBlock = some k → w.heap.size ≤ k) ∧ Below w w w') (hkf : (¬ m.kind = 8 ∧ ¬ m.kind = 9) ∧ m.kind = 10) (a' : Arr) (hp : a.put m.line 2 m.data = some a') (w : World) (h : Ag w gb ab sb a), Y 273 #[gb, .agg m] w fun e w' => ∃ S, e = Z (.tuple #[S, I 0]) ∧ Ar gb ab sb w a' l S w') := by
 refine ⟨?m0, ?m1, ?m2, ?m3, ?m4⟩
 case' m0 =>
  intro gb ab sb a m hm hk8 hk14 h0 s hs R hix1 hix2 w h
  have mk_0 := trivial
 case' m1 =>
  intro gb ab sb a m hm hk8 hk14 h0 s hs R hix1 hix2 l hans w h
  have mk_1 := trivial
 case' m2 =>
  intro gb ab sb a m hm hk8 hk14 h0 s hs R hix1 hix2 l hans hkf a' hp w h
  have mk_2 := trivial
 case' m3 =>
  intro gb ab sb a m hm hk8 hk14 h0 s hs R hix1 hix2 l hans hkf a' hp w h
  have mk_3 := trivial
 case' m4 =>
  intro gb ab sb a m hm hk8 hk14 h0 s hs R hix1 hix2 l hans hkf a' hp w h
  have mk_4 := trivial
 all_goals
  first
   | guard_hyp mk_0
   | guard_hyp mk_1
     have hans := Vw hans
   | have hans := Vw hans
     have HKF := Vw hkf
     clear hkf
  obtain ⟨W1, hE1, hb1, hI1⟩ := alloc_new w (.cells m 253)
  have HI1 := Vw hI1
  have hgd := Vw (fun w => CB m hm w)
  have htl := Vw (fun w => ND m.kind hk8 hk14 w)
  have htu := Vw (fun w => NC w)
  have hf := Vw (fun w h => Ce gb ab sb a m.line h0 w h)
  rw [hs] at hf
  simp only [Slot.cells, Msg.cells] at hf hgd
  have H1 := Vw (h.below hb1)
  have HB1 := Vw hb1
  have c1 := AA hI1
  clear h hb1 hI1
  go_enter func273, ntmps273
  go_wp2_with fail
  refine (hgd.out _).mono ?_
  rintro e w2 ⟨rfl, hb2⟩
  have HI2 := Vw (AB hb2 HI1.out)
  have H2 := Vw (H1.out.below hb2)
  have HB2 := Vw (HB1.out.trans (hb2.mono HB1.out.size))
  replace c1 := AA HI2.out
  clear hb2
  go_wp2_with fail
  refine (htl.out _).mono ?_
  rintro e w3 ⟨rfl, rfl⟩
  go_wp2_with fail
  refine (hf.out _ H2.out).mono ?_
  rintro e w3 ⟨rfl, hb3⟩
  obtain ⟨W4, hE4, -, hI4⟩ := alloc_new w3 (.cells s 111)
  have hb4 : Below w2 w2 W4 := hb3.trans ((hE4 ▸ AC w3 _ : Below w3 w3 W4).mono hb3.size)
  have HI4 := Vw (WA (AB hb4 HI2.out) hI4)
  have H4 := Vw (H2.out.below hb4)
  have HB4 := Vw (HB2.out.trans (hb4.mono HB2.out.size))
  have HS := Vw (show ∀ w' : World, Below W4 W4 w' → w'.cell? w = I m.kind ∧ w'.cell? w3 = I s.st from fun w' hb => ⟨AD (AB hb HI4.out.1) 0 rfl, AD (AB hb HI4.out.2) 0 rfl⟩)
  have hd0 : Below W4 W4 W4.drew := (Below.refl _ _).drew
  replace c1 := AA HI4.out.1
  have c4 := AA hI4
  have hsb : sb < w3.heap.size := Vy (AF H2.out.2.row) hb3.size
  clear hb3 hb4 hI4
  go_wp2_with fail
  go_region_held3 (fun w' => w'.cell? w = I m.kind ∧ w'.cell? w3 = I s.st) (first | with_reducible exact HS.out _ hd0 | with_reducible exact HS.out _ hk5)
   (first | (go_at_call 332; refine (htu.out _).mono ?_; rintro e w5 ⟨rfl, hb5⟩; have hk5 : Below W4 W4 w5 := hd0.trans hb5))
  have HI5 := Vw (WA (AB hk5 HI4.out.1) (AB hk5 HI4.out.2))
  have H5 := Vw (H4.out.below hk5)
  have HB5 := Vw (HB4.out.trans (hk5.mono HB4.out.size))
  obtain ⟨W6, hE6, hb6, hI6⟩ := alloc_new w5 (.cells s.data 109)
  have HI6 := Vw (WA (AB hb6 HI5.out.1) (WA (AB hb6 HI5.out.2) hI6))
  have H6 := Vw (H5.out.below hb6)
  have HB6 := Vw (HB5.out.trans (hb6.mono HB5.out.size))
  have hle5 := Vw (show w3.heap.size ≤ w5.heap.size from Nat.le_of_lt (AF HI5.out.2))
  clear c1 c4
  have c5 := AA HI5.out.2
  have c1 := AA HI6.out.1
  have cs := AA HI6.out.2.1
  have cd := AA HI6.out.2.2
  have fd := AJ HI6.out.2.2
  have ca := AA H6.out.1
  clear hk5 hb5 hd0 hb6 hI6
  first
   | guard_hyp mk_2
     have hkf := HKF.out
     obtain ⟨hk8', hk9', hk10'⟩ := hkf
     have H7 := H6
     have HI7 := HI6
     have HB7 := HB6
     go_wp2_with fail
     clear c5 c1 cs cd fd ca
     have c1 := AA HI7.out.1
     have cd := AA HI7.out.2.2
     have ca := AA H7.out.1
     go_still_tail 8, (by kernel_rfl)
     have H7d := Vw (H7.out.below (Below.refl W6.heap.size W6).drew)
     have HP7 := Vw ((Pres.of_below (Av := fun k => k ≠ ab ∧ k ≠ sb) HB7.out).drew)
     have HI7d := Vw (WA (show W6.drew.heap[w.heap.size]? = _ from HI7.out.1) (show W6.drew.heap[w3.heap.size]? = _ from HI7.out.2.1))
     change wpList _ _ _ _ _ W6.drew
     generalize W6.drew = W8 at *
     clear c1 cd ca
     go_wp2_with fail
     refine (Gy ab sb a a' m.line 1 s.data hp _ H7d.out.2).mono ?_
     rintro e w8 ⟨rfl, g1, g2⟩
     have H8 := Vw (H7d.out.pres g2 g1)
     have HP8 := Vw (HP7.out.trans g2)
     have hn1 := AG HI7d.out.1 H7d.out.2.head (by decide)
     have hn2 := AG HI7d.out.1 H7d.out.2.row (by decide)
     have c8 := AA ((g2.block w.heap.size (AF HI7d.out.1) ⟨hn1, hn2⟩).trans HI7d.out.1)
     have hn3 := AG HI7d.out.2 H7d.out.2.head (by decide)
     have hsz := Vw (show w3.heap.size ≠ sb from Nat.ne_of_gt hsb)
     have d8 := AA ((g2.block w3.heap.size (AF HI7d.out.2) ⟨hn3, hsz.out⟩).trans HI7d.out.2)
     clear g1 g2 hn1 hn2 hn3
     go_wp2_with fail
     refine (hans.out _).mono ?_
     rintro e w9 ⟨S, rfl, hr9, hS9, hb9⟩
     have H9 := Vw (WA hr9 (WA hS9 hb9))
     clear hr9 hS9 hb9
   | guard_hyp mk_3
     have hkf := HKF.out
     obtain ⟨hk8', hk9'⟩ := hkf
     go_wp2_with fail
     generalize hW : World.setCell _ ⟨w5, 7, none⟩ _ = W7
     have hI7 : W7.heap[w5.heap.size]? = some (.cells m.data 109) := by rw [← hW]; exact AT [U m.data.a, U m.data.b, U m.data.c, U m.data.d, U m.data.e, U m.data.f, U m.data.g, U m.data.h] HI6.out.2.2 0 _ (by kernel_rfl)
     have hoth : ∀ k, k ≠ w5.heap.size → W7.heap[k]? = W6.heap[k]? := fun k hk => by rw [← hW]; exact AR hk [U m.data.a, U m.data.b, U m.data.c, U m.data.d, U m.data.e, U m.data.f, U m.data.g, U m.data.h] W6 0
     have hb7 : Below w w W7 := by rw [← hW]; exact Ac HB5.out.size [U m.data.a, U m.data.b, U m.data.c, U m.data.d, U m.data.e, U m.data.f, U m.data.g, U m.data.h] HB6.out 0
     have hq1 : w.heap.size ≠ w5.heap.size := AG HI6.out.1 HI6.out.2.2 (by decide)
     have hq3 : w3.heap.size ≠ w5.heap.size := AG HI6.out.2.1 HI6.out.2.2 (by decide)
     have hqg : gb ≠ w5.heap.size := AG H6.out.1 HI6.out.2.2 (by decide)
     have hqa : ab ≠ w5.heap.size := AG H6.out.2.head HI6.out.2.2 (by decide)
     have hqb : sb ≠ w5.heap.size := Nat.ne_of_lt (Vy hsb hle5.out)
     have H7 := Vw (show Ag W7 gb ab sb a from ⟨(hoth _ hqg).trans H6.out.1, H6.out.2.kept (hoth _ hqa) (hoth _ hqb)⟩)
     have HI7 := Vw (WA ((hoth _ hq1).trans HI6.out.1) (WA ((hoth _ hq3).trans HI6.out.2.1) hI7))
     have HB7 := Vw hb7
     clear hW hI7 hoth hb7 hq1 hq3 hqg hqa hqb c5 c1 cs cd fd ca
     have c1 := AA HI7.out.1
     have cd := AA HI7.out.2.2
     have ca := AA H7.out.1
     go_still_tail 8, (by kernel_rfl)
     have H7d := Vw (H7.out.below (Below.refl W7.heap.size W7).drew)
     have HP7 := Vw ((Pres.of_below (Av := fun k => k ≠ ab ∧ k ≠ sb) HB7.out).drew)
     have HI7d := Vw (WA (show W7.drew.heap[w.heap.size]? = _ from HI7.out.1) (show W7.drew.heap[w3.heap.size]? = _ from HI7.out.2.1))
     change wpList _ _ _ _ _ W7.drew
     generalize W7.drew = W8 at *
     clear c1 cd ca
     go_wp2_with fail
     refine (Gy ab sb a a' m.line 2 m.data hp _ H7d.out.2).mono ?_
     rintro e w8 ⟨rfl, g1, g2⟩
     have H8 := Vw (H7d.out.pres g2 g1)
     have HP8 := Vw (HP7.out.trans g2)
     have hn1 := AG HI7d.out.1 H7d.out.2.head (by decide)
     have hn2 := AG HI7d.out.1 H7d.out.2.row (by decide)
     have c8 := AA ((g2.block w.heap.size (AF HI7d.out.1) ⟨hn1, hn2⟩).trans HI7d.out.1)
     have hn3 := AG HI7d.out.2 H7d.out.2.head (by decide)
     have hsz := Vw (show w3.heap.size ≠ sb from Nat.ne_of_gt hsb)
     have d8 := AA ((g2.block w3.heap.size (AF HI7d.out.2) ⟨hn3, hsz.out⟩).trans HI7d.out.2)
     clear g1 g2 hn1 hn2 hn3
     go_wp2_with fail
     rw [hk9'] at hans
     refine (hans.out _).mono ?_
     rintro e w9 ⟨S, rfl, hr9, hS9, hb9⟩
     have H9 := Vw (WA hr9 (WA hS9 hb9))
     clear hr9 hS9 hb9
   | guard_hyp mk_4
     have hkf := HKF.out
     obtain ⟨⟨hk8', hk9'⟩, hk10'⟩ := hkf
     go_wp2_with fail
     generalize hW : World.setCell _ ⟨w5, 7, none⟩ _ = W7
     have hI7 : W7.heap[w5.heap.size]? = some (.cells m.data 109) := by rw [← hW]; exact AT [U m.data.a, U m.data.b, U m.data.c, U m.data.d, U m.data.e, U m.data.f, U m.data.g, U m.data.h] HI6.out.2.2 0 _ (by kernel_rfl)
     have hoth : ∀ k, k ≠ w5.heap.size → W7.heap[k]? = W6.heap[k]? := fun k hk => by rw [← hW]; exact AR hk [U m.data.a, U m.data.b, U m.data.c, U m.data.d, U m.data.e, U m.data.f, U m.data.g, U m.data.h] W6 0
     have hb7 : Below w w W7 := by rw [← hW]; exact Ac HB5.out.size [U m.data.a, U m.data.b, U m.data.c, U m.data.d, U m.data.e, U m.data.f, U m.data.g, U m.data.h] HB6.out 0
     have hq1 : w.heap.size ≠ w5.heap.size := AG HI6.out.1 HI6.out.2.2 (by decide)
     have hq3 : w3.heap.size ≠ w5.heap.size := AG HI6.out.2.1 HI6.out.2.2 (by decide)
     have hqg : gb ≠ w5.heap.size := AG H6.out.1 HI6.out.2.2 (by decide)
     have hqa : ab ≠ w5.heap.size := AG H6.out.2.head HI6.out.2.2 (by decide)
     have hqb : sb ≠ w5.heap.size := Nat.ne_of_lt (Vy hsb hle5.out)
     have H7 := Vw (show Ag W7 gb ab sb a from ⟨(hoth _ hqg).trans H6.out.1, H6.out.2.kept (hoth _ hqa) (hoth _ hqb)⟩)
     have HI7 := Vw (WA ((hoth _ hq1).trans HI6.out.1) (WA ((hoth _ hq3).trans HI6.out.2.1) hI7))
     have HB7 := Vw hb7
     clear hW hI7 hoth hb7 hq1 hq3 hqg hqa hqb c5 c1 cs cd fd ca
     have c1 := AA HI7.out.1
     have cd := AA HI7.out.2.2
     have ca := AA H7.out.1
     go_still_tail 8, (by kernel_rfl)
     have H7d := Vw (H7.out.below (Below.refl W7.heap.size W7).drew)
     have HP7 := Vw ((Pres.of_below (Av := fun k => k ≠ ab ∧ k ≠ sb) HB7.out).drew)
     have HI7d := Vw (WA (show W7.drew.heap[w.heap.size]? = _ from HI7.out.1) (show W7.drew.heap[w3.heap.size]? = _ from HI7.out.2.1))
     change wpList _ _ _ _ _ W7.drew
     generalize W7.drew = W8 at *
     clear c1 cd ca
     go_wp2_with fail
     refine (Gy ab sb a a' m.line 2 m.data hp _ H7d.out.2).mono ?_
     rintro e w8 ⟨rfl, g1, g2⟩
     have H8 := Vw (H7d.out.pres g2 g1)
     have HP8 := Vw (HP7.out.trans g2)
     have hn1 := AG HI7d.out.1 H7d.out.2.head (by decide)
     have hn2 := AG HI7d.out.1 H7d.out.2.row (by decide)
     have c8 := AA ((g2.block w.heap.size (AF HI7d.out.1) ⟨hn1, hn2⟩).trans HI7d.out.1)
     have hn3 := AG HI7d.out.2 H7d.out.2.head (by decide)
     have hsz := Vw (show w3.heap.size ≠ sb from Nat.ne_of_gt hsb)
     have d8 := AA ((g2.block w3.heap.size (AF HI7d.out.2) ⟨hn3, hsz.out⟩).trans HI7d.out.2)
     clear g1 g2 hn1 hn2 hn3
     go_wp2_with fail
     rw [hk10'] at hans
     refine (hans.out _).mono ?_
     rintro e w9 ⟨S, rfl, hr9, hS9, hb9⟩
     have H9 := Vw (WA hr9 (WA hS9 hb9))
     clear hr9 hS9 hb9
   | skip
  go_wp2_with fail
  first
   | guard_hyp mk_1
     go_still_tail 6, (by kernel_rfl)
     have H7 := Vw (H6.out.below (Below.refl W6.heap.size W6).drew)
     have HP7 := Vw ((Pres.of_below (Av := fun k => k ≠ ab ∧ k ≠ sb) HB6.out).drew)
     have HI7 := Vw (WA (show W6.drew.heap[w.heap.size]? = _ from HI6.out.1) (show W6.drew.heap[w3.heap.size]? = _ from HI6.out.2.1))
     change wpList _ _ _ _ _ W6.drew
     generalize W6.drew = W7 at *
     clear c5 c1 cs cd fd ca
     go_wp2_with fail
     refine (Ns ab sb a m.line h0 _ H7.out.2).mono ?_
     rintro e w8 ⟨rfl, g1, g2⟩
     have H8 := Vw (H7.out.pres g2 g1)
     have HP8 := Vw (HP7.out.trans g2)
     have hn1 := AG HI7.out.1 H7.out.2.head (by decide)
     have hn2 := AG HI7.out.1 H7.out.2.row (by decide)
     have c8 := AA ((g2.block w.heap.size (AF HI7.out.1) ⟨hn1, hn2⟩).trans HI7.out.1)
     have hn3 := AG HI7.out.2 H7.out.2.head (by decide)
     have hsz := Vw (show w3.heap.size ≠ sb from Nat.ne_of_gt hsb)
     have d8 := AA ((g2.block w3.heap.size (AF HI7.out.2) ⟨hn3, hsz.out⟩).trans HI7.out.2)
     clear g1 g2 hn1 hn2 hn3
     go_wp2_with fail
     refine (hans.out _).mono ?_
     rintro e w9 ⟨S, rfl, hr9, hS9, hb9⟩
     have H9 := Vw (WA hr9 (WA hS9 hb9))
     clear hr9 hS9 hb9
     go_wp2_with fail
   | skip
  go_ret2
  first
   | guard_hyp mk_0
     exact ⟨_, rfl, AH.nil _ _ _, by simp [Value.ownBlock], H6.out, Pres.of_below HB6.out⟩
   | exact ⟨S, rfl, H9.out.1, fun k hk => Vx HP8.out.size (H9.out.2.1 k hk), H8.out.below H9.out.2.2, HP8.out.trans (Pres.of_below H9.out.2.2)⟩
def Ow : Array Value := #[I (-1), I (-1), I (-1), I (-1), I 2, I (-1), I (-1), I (-1), I (-1), I (-1)]
theorem Rk (w : World) : (Instr.index 435 (.agg Ba) (I 9)).run prog w = .ok (.agg Ow) w := by kernel_rfl
def IE : Array Value := #[I (-1), I (-1), I (-1), I (-1), I (-1), I 2, I 2, I (-1), I (-1), I (-1)]
theorem Kd (w : World) : (Instr.index 435 (.agg Ba) (I 10)).run prog w = .ok (.agg IE) w := by kernel_rfl
def ID : Array Value := #[I (-1), I (-1), I (-1), I (-1), I (-1), I (-1), I (-1), I 0, I 0, I 0]
theorem Kc (w : World) : (Instr.index 435 (.agg Ba) (I 11)).run prog w = .ok (.agg ID) w := by kernel_rfl
def Fi : Array Value := #[I (-1), I 0, I 0, I 0, I (-1), I (-1), I 5, I 8, I (-1), I 8]
theorem IC (w : World) : (Instr.index 435 (.agg Ba) (I 12)).run prog w = .ok (.agg Fi) w := by kernel_rfl
def MH : Array Value := #[I (-1), I (-1), I 1, I 1, I (-1), I (-1), I (-1), I 8, I (-1), I 8]
theorem QT (w : World) : (Instr.index 435 (.agg Ba) (I 13)).run prog w = .ok (.agg MH) w := by kernel_rfl
def MG : Array Value := #[I (-2), I (-2), I (-2), I (-2), I (-2), I (-2), I (-2), I (-2), I (-2), I (-2)]
theorem QS (w : World) : (Instr.index 435 (.agg Ba) (I 14)).run prog w = .ok (.agg MG) w := by kernel_rfl
theorem QW (w : World) : (Instr.index 434 (.agg MG) (I 1)).run prog w = .ok (I (-2)) w := by kernel_rfl
theorem Qc (w : World) : (Instr.index 434 (.agg ID) (I 7)).run prog w = .ok (I 0) w := by kernel_rfl
theorem Qb (w : World) : (Instr.index 434 (.agg ID) (I 9)).run prog w = .ok (I 0) w := by kernel_rfl
theorem Qa (w : World) : (Instr.index 434 (.agg Fi) (I 1)).run prog w = .ok (I 0) w := by kernel_rfl
theorem QZ (w : World) : (Instr.index 434 (.agg Fi) (I 2)).run prog w = .ok (I 0) w := by kernel_rfl
theorem QY (w : World) : (Instr.index 434 (.agg Fi) (I 3)).run prog w = .ok (I 0) w := by kernel_rfl
theorem QX (w : World) : (Instr.index 434 (.agg MH) (I 3)).run prog w = .ok (I 1) w := by kernel_rfl
theorem Rn (w : World) : (Instr.index 434 (.agg Ow) (I 4)).run prog w = .ok (I 2) w := by kernel_rfl
theorem Qe (w : World) : (Instr.index 434 (.agg IE) (I 5)).run prog w = .ok (I 2) w := by kernel_rfl
theorem Qd (w : World) : (Instr.index 434 (.agg IE) (I 6)).run prog w = .ok (I 2) w := by kernel_rfl
theorem UF (gb ab sb : Nat) (a : Arr) (l : Int) (d kp : Bool) (dat : Ln) (hm : BJ ⟨14, l, d, kp, dat⟩ = true) (h0 : 0 ≤ l) (sl used : Int) (sd : Ln) (hs : a.find l = ⟨1, sl, sd, used⟩) (w : World) (h : Ag w gb ab sb a) : Y 273 #[gb, .agg (Msg.mk 14 l d kp dat).cells] w fun e w' => ∃ S, e = Z (.tuple #[S, I 0]) ∧ Ar gb ab sb w a [] S w' :=
 ghearX.1 gb ab sb a ⟨14, l, d, kp, dat⟩ hm (show (8:Int) ≤ 14 by decide) (show (14:Int) ≤ 14 by decide) h0 ⟨1, sl, sd, used⟩ hs MG QS QW w h
theorem UL (gb ab sb : Nat) (a : Arr) (l : Int) (d kp : Bool) (dat : Ln) (hm : BJ ⟨11, l, d, kp, dat⟩ = true) (h0 : 0 ≤ l) (sl used : Int) (sd : Ln) (hs : a.find l = ⟨7, sl, sd, used⟩) (w : World) (h : Ag w gb ab sb a) : Y 273 #[gb, .agg (Msg.mk 11 l d kp dat).cells] w fun e w' => ∃ S, e = Z (.tuple #[S, I 0]) ∧ Ar gb ab sb w (a.drop l) [] S w' :=
 ghearX.2.1 gb ab sb a ⟨11, l, d, kp, dat⟩ hm (show (8:Int) ≤ 11 by decide) (show (11:Int) ≤ 14 by decide) h0 ⟨7, sl, sd, used⟩ hs ID Kc Qc [] (fun w => FK 11 l d kp dat 7 sl used sd 0 (by decide) (by decide) w) w h
theorem UK (gb ab sb : Nat) (a : Arr) (l : Int) (d kp : Bool) (dat : Ln) (hm : BJ ⟨11, l, d, kp, dat⟩ = true) (h0 : 0 ≤ l) (sl used : Int) (sd : Ln) (hs : a.find l = ⟨9, sl, sd, used⟩) (w : World) (h : Ag w gb ab sb a) : Y 273 #[gb, .agg (Msg.mk 11 l d kp dat).cells] w fun e w' => ∃ S, e = Z (.tuple #[S, I 0]) ∧ Ar gb ab sb w (a.drop l) [] S w' :=
 ghearX.2.1 gb ab sb a ⟨11, l, d, kp, dat⟩ hm (show (8:Int) ≤ 11 by decide) (show (11:Int) ≤ 14 by decide) h0 ⟨9, sl, sd, used⟩ hs ID Kc Qb [] (fun w => FK 11 l d kp dat 9 sl used sd 0 (by decide) (by decide) w) w h
theorem UJ (gb ab sb : Nat) (a : Arr) (l : Int) (d kp : Bool) (dat : Ln) (hm : BJ ⟨12, l, d, kp, dat⟩ = true) (h0 : 0 ≤ l) (sl used : Int) (sd : Ln) (hs : a.find l = ⟨1, sl, sd, used⟩) (w : World) (h : Ag w gb ab sb a) : Y 273 #[gb, .agg (Msg.mk 12 l d kp dat).cells] w fun e w' => ∃ S, e = Z (.tuple #[S, I 0]) ∧ Ar gb ab sb w (a.drop l) [Bu 6 l] S w' :=
 ghearX.2.1 gb ab sb a ⟨12, l, d, kp, dat⟩ hm (show (8:Int) ≤ 12 by decide) (show (12:Int) ≤ 14 by decide) h0 ⟨1, sl, sd, used⟩ hs Fi IC Qa [Bu 6 l] (fun w => MO l d kp dat 1 sl used sd 0 (by decide) (by decide) w) w h
theorem UI (gb ab sb : Nat) (a : Arr) (l : Int) (d kp : Bool) (dat : Ln) (hm : BJ ⟨12, l, d, kp, dat⟩ = true) (h0 : 0 ≤ l) (sl used : Int) (sd : Ln) (hs : a.find l = ⟨2, sl, sd, used⟩) (w : World) (h : Ag w gb ab sb a) : Y 273 #[gb, .agg (Msg.mk 12 l d kp dat).cells] w fun e w' => ∃ S, e = Z (.tuple #[S, I 0]) ∧ Ar gb ab sb w (a.drop l) [Bu 6 l] S w' :=
 ghearX.2.1 gb ab sb a ⟨12, l, d, kp, dat⟩ hm (show (8:Int) ≤ 12 by decide) (show (12:Int) ≤ 14 by decide) h0 ⟨2, sl, sd, used⟩ hs Fi IC QZ [Bu 6 l] (fun w => MO l d kp dat 2 sl used sd 0 (by decide) (by decide) w) w h
theorem UH (gb ab sb : Nat) (a : Arr) (l : Int) (d kp : Bool) (dat : Ln) (hm : BJ ⟨12, l, d, kp, dat⟩ = true) (h0 : 0 ≤ l) (sl used : Int) (sd : Ln) (hs : a.find l = ⟨3, sl, sd, used⟩) (w : World) (h : Ag w gb ab sb a) : Y 273 #[gb, .agg (Msg.mk 12 l d kp dat).cells] w fun e w' => ∃ S, e = Z (.tuple #[S, I 0]) ∧ Ar gb ab sb w (a.drop l) [⟨6, l, true, false, sd⟩] S w' :=
 ghearX.2.1 gb ab sb a ⟨12, l, d, kp, dat⟩ hm (show (8:Int) ≤ 12 by decide) (show (12:Int) ≤ 14 by decide) h0 ⟨3, sl, sd, used⟩ hs Fi IC QY [⟨6, l, true, false, sd⟩] (fun w => PF l d kp dat sl used sd 0 w) w h
theorem UG (gb ab sb : Nat) (a : Arr) (l : Int) (d kp : Bool) (dat : Ln) (hm : BJ ⟨13, l, d, kp, dat⟩ = true) (h0 : 0 ≤ l) (sl used : Int) (sd : Ln) (hs : a.find l = ⟨3, sl, sd, used⟩) (w : World) (h : Ag w gb ab sb a) (a' : Arr) (hp : a.put l 1 sd = some a') : Y 273 #[gb, .agg (Msg.mk 13 l d kp dat).cells] w fun e w' => ∃ S, e = Z (.tuple #[S, I 0]) ∧ Ar gb ab sb w a' [⟨7, l, true, true, sd⟩] S w' :=
 ghearX.2.2.1 gb ab sb a ⟨13, l, d, kp, dat⟩ hm (show (8:Int) ≤ 13 by decide) (show (13:Int) ≤ 14 by decide) h0 ⟨3, sl, sd, used⟩ hs MH QT QX [⟨7, l, true, true, sd⟩] (fun w => Qm l d kp dat sl used sd w) ⟨(show ¬ (13:Int) = 8 by decide), (show ¬ (13:Int) = 9 by decide), (show ¬ (13:Int) = 10 by decide)⟩ a' hp w h
theorem Uw (gb ab sb : Nat) (a : Arr) (l : Int) (d kp : Bool) (dat : Ln) (hm : BJ ⟨9, l, d, kp, dat⟩ = true) (h0 : 0 ≤ l) (sl used : Int) (sd : Ln) (hs : a.find l = ⟨4, sl, sd, used⟩) (w : World) (h : Ag w gb ab sb a) (a' : Arr) (hp : a.put l 2 dat = some a') : Y 273 #[gb, .agg (Msg.mk 9 l d kp dat).cells] w fun e w' => ∃ S, e = Z (.tuple #[S, I 0]) ∧ Ar gb ab sb w a' [] S w' :=
 ghearX.2.2.2.1 gb ab sb a ⟨9, l, d, kp, dat⟩ hm (show (8:Int) ≤ 9 by decide) (show (9:Int) ≤ 14 by decide) h0 ⟨4, sl, sd, used⟩ hs Ow Rk Rn [] (fun w => FK 9 l d kp dat 4 sl used sd 2 (by decide) (by decide) w) ⟨(show ¬ (9:Int) = 8 by decide), rfl⟩ a' hp w h
theorem UN (gb ab sb : Nat) (a : Arr) (l : Int) (d kp : Bool) (dat : Ln) (hm : BJ ⟨10, l, d, kp, dat⟩ = true) (h0 : 0 ≤ l) (sl used : Int) (sd : Ln) (hs : a.find l = ⟨5, sl, sd, used⟩) (w : World) (h : Ag w gb ab sb a) (a' : Arr) (hp : a.put l 2 dat = some a') : Y 273 #[gb, .agg (Msg.mk 10 l d kp dat).cells] w fun e w' => ∃ S, e = Z (.tuple #[S, I 0]) ∧ Ar gb ab sb w a' [] S w' :=
 ghearX.2.2.2.2 gb ab sb a ⟨10, l, d, kp, dat⟩ hm (show (8:Int) ≤ 10 by decide) (show (10:Int) ≤ 14 by decide) h0 ⟨5, sl, sd, used⟩ hs IE Kd Qe [] (fun w => FK 10 l d kp dat 5 sl used sd 2 (by decide) (by decide) w) ⟨⟨(show ¬ (10:Int) = 8 by decide), (show ¬ (10:Int) = 9 by decide)⟩, rfl⟩ a' hp w h
theorem UM (gb ab sb : Nat) (a : Arr) (l : Int) (d kp : Bool) (dat : Ln) (hm : BJ ⟨10, l, d, kp, dat⟩ = true) (h0 : 0 ≤ l) (sl used : Int) (sd : Ln) (hs : a.find l = ⟨6, sl, sd, used⟩) (w : World) (h : Ag w gb ab sb a) (a' : Arr) (hp : a.put l 2 dat = some a') : Y 273 #[gb, .agg (Msg.mk 10 l d kp dat).cells] w fun e w' => ∃ S, e = Z (.tuple #[S, I 0]) ∧ Ar gb ab sb w a' [] S w' :=
 ghearX.2.2.2.2 gb ab sb a ⟨10, l, d, kp, dat⟩ hm (show (8:Int) ≤ 10 by decide) (show (10:Int) ≤ 14 by decide) h0 ⟨6, sl, sd, used⟩ hs IE Kd Qd [] (fun w => FK 10 l d kp dat 6 sl used sd 2 (by decide) (by decide) w) ⟨⟨(show ¬ (10:Int) = 8 by decide), (show ¬ (10:Int) = 9 by decide)⟩, rfl⟩ a' hp w h
theorem Il (gb ab sb : Nat) (a : Arr) (m : Msg) (r : Arr × List Msg) (hr : Fy a m = some r) (w : World) (h : Ag w gb ab sb a) : Y 273 #[gb, .agg m.cells] w fun e w' => ∃ S, e = Z (.tuple #[S, I 0]) ∧ Ar gb ab sb w r.1 r.2 S w' := by
 obtain ⟨k, l, d, kp, dat⟩ := m
 unfold Fy at hr
 split at hr
 case isFalse => cases hr
 rename_i hg
 simp only [Bool.and_eq_true] at hg
 obtain ⟨⟨hm, _⟩, _⟩ := hg
 have h0 : 0 ≤ l := by
  unfold BJ at hm
  simp only [Bool.and_eq_true, decide_eq_true_eq] at hm
  exact hm.1.1
 generalize hs : a.find l = s at hr
 obtain ⟨st, sl, sd, used⟩ := s
 dsimp only at hr hs
 split at hr
 · rename_i hc
   simp only [Bool.and_eq_true, beq_iff_eq] at hc
   obtain ⟨rfl, rfl⟩ := hc
   cases hr
   exact UF gb ab sb a l d kp dat hm h0 sl used sd hs w h
 split at hr
 · rename_i hc
   simp only [Bool.and_eq_true, Bool.or_eq_true, beq_iff_eq] at hc
   obtain ⟨rfl, rfl | rfl⟩ := hc
   · cases hr; exact UL gb ab sb a l d kp dat hm h0 sl used sd hs w h
   · cases hr; exact UK gb ab sb a l d kp dat hm h0 sl used sd hs w h
 split at hr
 · rename_i hc
   simp only [Bool.and_eq_true, Bool.or_eq_true, beq_iff_eq] at hc
   obtain ⟨rfl, rfl | rfl⟩ := hc
   · cases hr; exact UJ gb ab sb a l d kp dat hm h0 sl used sd hs w h
   · cases hr; exact UI gb ab sb a l d kp dat hm h0 sl used sd hs w h
 split at hr
 · rename_i hc
   simp only [Bool.and_eq_true, beq_iff_eq] at hc
   obtain ⟨rfl, rfl⟩ := hc
   cases hr
   exact UH gb ab sb a l d kp dat hm h0 sl used sd hs w h
 split at hr
 · rename_i hc
   simp only [Bool.and_eq_true, beq_iff_eq] at hc
   obtain ⟨rfl, rfl⟩ := hc
   obtain ⟨a', hp, rfl⟩ := Option.map_eq_some_iff.1 hr
   exact UG gb ab sb a l d kp dat hm h0 sl used sd hs w h a' hp
 split at hr
 · rename_i hc
   simp only [Bool.and_eq_true, Bool.or_eq_true, beq_iff_eq] at hc
   obtain ⟨a', hp, rfl⟩ := Option.map_eq_some_iff.1 hr
   rcases hc with ⟨rfl, rfl⟩ | ⟨rfl, rfl | rfl⟩
   · exact Uw gb ab sb a l d kp dat hm h0 sl used sd hs w h a' hp
   · exact UN gb ab sb a l d kp dat hm h0 sl used sd hs w h a' hp
   · exact UM gb ab sb a l d kp dat hm h0 sl used sd hs w h a' hp
 · cases hr
theorem QV {a : Arr} {m : Msg} {r : Arr × List Msg} (hr : Fy a m = some r) : r.2.length ≤ 1 := by
 unfold Fy at hr
 repeat' split at hr
 all_goals first | (cases hr; done) | (cases hr; exact Nat.zero_le 1) | (cases hr; exact Nat.le_refl 1) | (obtain ⟨a', hp, rfl⟩ := Option.map_eq_some_iff.1 hr; first | exact Nat.le_refl 1 | exact Nat.zero_le 1) | (cases hr; done)
end Go.Proofs.YtkoplblbeapfgaaGreatDoor
