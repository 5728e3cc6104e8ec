/-
Parts of the walk of TopEnds. Conditions stand in each statement.
-/
import Derived.Test.YtkoplblbeapfgaaGreatDoorX23
namespace Go.Proofs.YtkoplblbeapfgaaGreatDoor
open Go.RowKit
open Tryz
set_option linter.all false
set_option maxRecDepth 100000
set_option maxHeartbeats 8000000
theorem MB (x : Ln) (S : Value) (w : World) (hr : AH w 27 1 S 8 (Ln.cells x)) : Y 28 #[Ai, S] w fun e w' => ∃ v, e = Z (.tuple #[v, I 0]) ∧ AH w' 109 8 v 5 ([Ln.zero, Ln.zero, Ln.zero, Ln.zero, x].flatMap Ln.cells) ∧ (∀ k, v.ownBlock = some k → w.heap.size ≤ k) ∧ Below w w w' := by
 have hof := Vw (fun w => JD w)
 have hwd := Vw (fun w => DI w)
 unfold Ai at *
 have hmk : ∀ w : World, (Instr.makeSlice 76 (I 5) (I 5)).run prog w = .ok (.slice (some ⟨w.heap.size, 0, none⟩) 5 5) (w.alloc (.cells #[U 0, U 0, U 0, U 0, U 0, U 0, U 0, U 0, U 0, U 0, U 0, U 0, U 0, U 0, U 0, U 0, U 0, U 0, U 0, U 0, U 0, U 0, U 0, U 0, U 0, U 0, U 0, U 0, U 0, U 0, U 0, U 0, U 0, U 0, U 0, U 0, U 0, U 0, U 0, U 0] 109)) := fun w => by kernel_rfl
 obtain ⟨mg, off, AV, cs, rfl, hg, hcap, _, hc⟩ := hr.lies (by decide)
 obtain ⟨W1, hE, hb1, hI1⟩ := alloc_new w (.cells KA 25)
 have c1 := AA hI1
 have HB1 := Vw hb1
 have HI1 := Vw hI1
 have HG := Vw (WA hg hc)
 have hltg := AF hg
 clear hr hg hc hb1 hI1
 go_enter func28, ntmps28
 go_wp2_with fail
 refine (hof.out _).mono ?_
 rintro r w2 ⟨b, rfl, hp, hb2⟩
 have HB2 := Vw (HB1.out.trans (hb2.mono HB1.out.size))
 have HI2 := Vw (AB hb2 HI1.out)
 have HP := Vw hp
 have c2 := AA HI2.out
 unfold Ms Cr at hp
 have cp := AA hp
 clear hb2 hp c1
 go_wp2_with fail
 refine (hwd.out _).mono ?_
 rintro r w3 ⟨rfl, hb3⟩
 have HB3 := Vw (HB2.out.trans (hb3.mono HB2.out.size))
 have hp3 := AB hb3 HP.out
 obtain ⟨W4, hE4, hb4, hI4⟩ := alloc_new w3 (.cells #[U 0, U 0, U 0, U 0, U 0, U 0, U 0, U 0, U 0, U 0, U 0, U 0, U 0, U 0, U 0, U 0, U 0, U 0, U 0, U 0, U 0, U 0, U 0, U 0, U 0, U 0, U 0, U 0, U 0, U 0, U 0, U 0, U 0, U 0, U 0, U 0, U 0, U 0, U 0, U 0] 109)
 have c3 := AA (AB hb3 HI2.out)
 unfold Cr at hp3
 have cp4 := AA (AB hb4 hp3)
 have cp3 := AA hp3
 have c4 := AA hI4
 have f4 := AJ hI4
 have HB4 := Vw (HB3.out.trans (hb4.mono HB3.out.size))
 have HI4 := Vw hI4
 have hs34 := Vw HB3.out.size
 have hgw := (HB4.out.block mg hltg).trans HG.out.1
 have e0 : W4.cell? ⟨mg, off, none⟩ = U x.a := AD hgw _ (HG.out.2 0 _ rfl)
 have e1 : W4.cell? ⟨mg, off + 1, none⟩ = U x.b := AD hgw _ (HG.out.2 1 _ rfl)
 have e2 : W4.cell? ⟨mg, off + 2, none⟩ = U x.c := AD hgw _ (HG.out.2 2 _ rfl)
 have e3 : W4.cell? ⟨mg, off + 3, none⟩ = U x.d := AD hgw _ (HG.out.2 3 _ rfl)
 have e4 : W4.cell? ⟨mg, off + 4, none⟩ = U x.e := AD hgw _ (HG.out.2 4 _ rfl)
 have e5 : W4.cell? ⟨mg, off + 5, none⟩ = U x.f := AD hgw _ (HG.out.2 5 _ rfl)
 have e6 : W4.cell? ⟨mg, off + 6, none⟩ = U x.g := AD hgw _ (HG.out.2 6 _ rfl)
 have e7 : W4.cell? ⟨mg, off + 7, none⟩ = U x.h := AD hgw _ (HG.out.2 7 _ rfl)
 have hn1 : mg ≠ w3.heap.size := by have := HB3.out.size; omega
 have hn2 : b ≠ w3.heap.size := Nat.ne_of_lt (AF hp3)
 clear hb3 hp3 hb4 hI4 c2 cp hgw
 go_wp2_with fail
 refine wp_loop_rounds 9 ?_
 rw [rounds_succ]
 go_wp2_with fail
 rw [rounds_succ]
 go_wp2_with fail
 rw [rounds_succ]
 go_wp2_with fail
 rw [rounds_succ]
 go_wp2_with fail
 rw [rounds_succ]
 go_wp2_with fail
 rw [rounds_succ]
 go_wp2_with fail
 rw [rounds_succ]
 go_wp2_with fail
 rw [rounds_succ]
 go_wp2_with fail
 rw [rounds_succ]
 go_wp2_with fail
 go_ret2
 generalize hW : World.setCell _ ⟨w3, 39, none⟩ _ = W9
 have hW' : World.setCells W4 w3.heap.size 32 (Ln.cells x) = W9 := hW
 have hr9 : W9.heap[w3.heap.size]? = some (.cells ([Ln.zero, Ln.zero, Ln.zero, Ln.zero, x].flatMap Ln.cells).toArray 109) := by rw [← hW']; exact AT _ HI4.out 32 _ (by kernel_rfl)
 have hb9 : Below w w W9 := by rw [← hW']; exact Ac hs34.out _ HB4.out 32
 refine ⟨.slice (some w3) 5 5, rfl, by simpa using AH.made (size := 8) (m := 5) hr9 rfl, fun k hk => ?_, hb9⟩
 cases hk
 exact hs34.out
structure ActI where
 kind : Int
 core : Int
 line : Int
def ActI.l (a : ActI) : List Value := [I a.kind, I a.core, I a.line]
def Br (l : List ActI) : List Value := l.flatMap ActI.l
theorem VI : ET prog 55 58 3 24 := ET.of underlying55 (z := .agg #[I 0, I 0, I 0]) (by kernel_rfl) rfl
def DD (c : Nat) (n : Nat) : List ActI := ([1, 2, 3, 4, 5].take n).map fun k => ⟨k, c, 0⟩
def BL : Nat → List ActI
 | 0 => []
 | n + 1 => BL n ++ DD n 5
def Ci : Nat → List ActI
 | 0 => []
 | n + 1 => Ci n ++ [⟨6, 0, n⟩, ⟨9, 0, n⟩]
def BP : List ActI := BL 2 ++ Ci 5
theorem Pe (a b : List ActI) : Br (a ++ b) = Br a ++ Br b := by simp [Br]
theorem JP (c n : Nat) (h : n ≤ 5) : (DD c n).length = n := by simp [DD]; omega
theorem Fo : ∀ n, (BL n).length = n * 5
 | 0 => rfl
 | n + 1 => by rw [BL, List.length_append, Fo n, JP n 5 (by decide)]; omega
theorem Ig : ∀ n, (Ci n).length = n * 2
 | 0 => rfl
 | n + 1 => by rw [Ci, List.length_append, Ig n]; simp; omega
theorem OI (c n : Nat) (h : n < 5) : DD c (n + 1) = DD c n ++ [⟨n + 1, c, 0⟩] := by
 rcases (by omega : n = 0 ∨ n = 1 ∨ n = 2 ∨ n = 3 ∨ n = 4) with rfl | rfl | rfl | rfl | rfl <;> rfl
theorem Nu (l : List ActI) (a : List ActI) (cs : Array Value) (h : cs.toList = Br a) (n : Nat) (hn : n = a.length) {w : World} {v : Value} (hr : AH w 58 3 v (l.length + n) (Br l ++ cs.toList)) : AH w 58 3 v (l ++ a).length (Br (l ++ a)) := by
 subst hn
 rw [List.length_append, Pe, ← h]
 exact hr
theorem LY (w : World) : Y 31 #[Dv] w fun e w' => ∃ S, e = Z S ∧ AH w' 58 3 S BP.length (Br BP) ∧ (∀ k, S.ownBlock = some k → w.heap.size ≤ k) ∧ Below w w w' := by
 unfold Dv
 obtain ⟨W1, hE, hb1, hI1⟩ := alloc_new w (.cells KE 23)
 have c1 := AA hI1
 have HB1 := Vw hb1
 have HI1 := Vw hI1
 clear hb1 hI1
 have hix : ∀ (k : Nat) (hk : k < 5) (w : World), (Instr.index 176 (.agg #[I 1, I 2, I 3, I 4, I 5]) (I k)).run prog w = .ok (I (k + 1)) w := fun k hk w => by
  rcases (by omega : k = 0 ∨ k = 1 ∨ k = 2 ∨ k = 3 ∨ k = 4) with rfl | rfl | rfl | rfl | rfl <;> kernel_rfl
 have HX := Vw hix
 clear hix
 go_enter func31, ntmps31
 go_wp2_with fail
 go_loopw [3, 28] (fun v i W => ∃ j : Nat, j ≤ 2 ∧ i = I j ∧ AH W 58 3 v (BL j).length (Br (BL j)) ∧ (∀ k, v.ownBlock = some k → w.heap.size ≤ k) ∧ Below w w W ∧ W.heap[w.heap.size]? = some (.cells KE 23)) (fun v i W => 2 - (intOf i).toNat)
 case atStart => exact ⟨0, by omega, rfl, by simpa [BL, Br] using AH.nil _ 58 3, by simp [Value.ownBlock], HB1.out, HI1.out⟩
 case round =>
  obtain ⟨j, hj, rfl, hv, ho, hb, hi⟩ := hrel
  have HI := Vw hi
  have c3 := AA hi
  clear hi
  by_cases hlt : j < 2
  · obtain ⟨A1, cap1, hvf⟩ := hv.form
    have HR0 := Vw hv
    have HO0 := Vw ho
    have HB0 := Vw hb
    have hj1 : (j : Int) < 2 := by omega
    have hj0 : (0 : Int) ≤ (j : Int) := by omega
    clear hv ho hb
    subst hvf
    go_wp2_with fail
    go_loopw [3, 32] (fun v i W => ∃ n : Nat, n ≤ 5 ∧ i = I n ∧ AH W 58 3 v (BL j ++ DD j n).length (Br (BL j ++ DD j n)) ∧ (∀ k, v.ownBlock = some k → w.heap.size ≤ k) ∧ Below w w W ∧ W.heap[w.heap.size]? = some (.cells KE 23)) (fun v i W => 5 - (intOf i).toNat)
    case atStart => exact ⟨0, by omega, rfl, by simpa [DD] using HR0.out, HO0.out, HB0.out, HI.out⟩
    case round =>
     obtain ⟨n, hn, rfl, hv, ho, hb, hi⟩ := hrel
     have HI := Vw hi
     clear hi
     by_cases hltn : n < 5
     · have hn1 : (n : Int) < 5 := by omega
       have hn0 : (0 : Int) ≤ (n : Int) := by omega
       have hix := HX.out n hltn
       obtain ⟨A2, cap2, hvf⟩ := hv.form
       have HN := Vw (show (BL j ++ DD j n).length ≤ 100 by rw [List.length_append, Fo, JP j n hn]; omega)
       obtain ⟨Ls, hLs⟩ := ex_ (BL j ++ DD j n)
       rw [hLs] at hv hvf HN
       have HL := Vw hLs
       clear hLs
       have HR := Vw hv
       have HO := Vw ho
       have HB := Vw hb
       clear hv ho hb
       subst hvf
       have HA := Vw (AC wr (.cells #[I (n + 1), I j, I 0] 58))
       go_wp2_with (at_builtin; refine Ab rfl _ _ _ _ rfl VI _ _ _ rfl (HR.out.below HA.out) _ 1 _ rfl ((AH.made (size := 3) (m := 1) (AE wr (.cells #[I (n + 1), I j, I 0] 58)) rfl).src underlying55 (by simp [Value.oneCell'])) ?c1 ?c2 ?_)
       case c1 => have := HN.out; omega
       case c2 => have := HN.out; omega
       intro A3 cap3 w5 hr5 hg5 hm5
       have HF := Vw (WA hr5 (WA hg5 hm5))
       clear hr5 hg5 hm5
       go_wp2_with fail
       have HFR := Vw (show AH w5 58 3 (.slice A3 (Ls.length + 1) cap3) (BL j ++ DD j (n + 1)).length (Br (BL j ++ DD j (n + 1))) by
        have := Nu _ [⟨n + 1, j, 0⟩] #[I (n + 1), I j, I 0] rfl 1 rfl HF.out.1
        rw [OI j n hltn, ← List.append_assoc, HL.out]
        exact this)
       refine ⟨⟨n + 1, by omega, by simp, HFR.out, ?_, ?_, ?_⟩, by simp [intOf]; omega⟩
       · intro k hk
         rcases HF.out.2.2 with e | ⟨g, e, hg⟩
         · exact HO.out k (e ▸ hk)
         · rw [e] at hk
           cases hk
           exact Vx HB.out.size (Vx HA.out.size hg)
       · exact (HB.out.trans (HA.out.mono HB.out.size)).grown HF.out.2.1 (Vx HB.out.size HA.out.size) (fun k hk => HO.out k hk)
       · exact AW (HR.out.below HA.out) HF.out.2.1 (AB HA.out HI.out) (by decide)
     · obtain rfl : n = 5 := by omega
       obtain ⟨A2, cap2, hvf⟩ := hv.form
       have HR := Vw hv
       rw [show BL j ++ DD j 5 = BL (j + 1) from rfl] at hvf
       subst hvf
       go_wp2_with fail
       exact ⟨⟨j + 1, by omega, by simp, HR.out, ho, hb, HI.out⟩, by simp [intOf]; omega⟩
  · obtain rfl : j = 2 := by omega
    obtain ⟨A1, cap1, hvf⟩ := hv.form
    have HR0 := Vw hv
    have HO0 := Vw ho
    have HB0 := Vw hb
    clear hv ho hb
    subst hvf
    go_wp2_with fail
    rw [show ((2 : Nat) : Int) = 2 from rfl]
    go_loopw [3, 45] (fun v i W => ∃ n : Nat, n ≤ 5 ∧ i = I n ∧ AH W 58 3 v (BL 2 ++ Ci n).length (Br (BL 2 ++ Ci n)) ∧ (∀ k, v.ownBlock = some k → w.heap.size ≤ k) ∧ Below w w W) (fun v i W => 5 - (intOf i).toNat)
    case atStart => exact ⟨0, by omega, rfl, by simpa [Ci] using HR0.out, HO0.out, HB0.out⟩
    case round =>
     obtain ⟨n, hn, rfl, hv, ho, hb⟩ := hrel
     by_cases hltn : n < 5
     · have hn1 : (n : Int) < 5 := by omega
       have hn0 : (0 : Int) ≤ (n : Int) := by omega
       obtain ⟨A2, cap2, hvf⟩ := hv.form
       have HN := Vw (show (BL 2 ++ Ci n).length ≤ 100 by rw [List.length_append, Fo, Ig]; omega)
       obtain ⟨Ls, hLs⟩ := ex_ (BL 2 ++ Ci n)
       rw [hLs] at hv hvf HN
       have HL := Vw hLs
       clear hLs
       have HR := Vw hv
       have HO := Vw ho
       have HB := Vw hb
       clear hv ho hb
       subst hvf
       have HA := Vw (AC wr (.cells #[I 6, I 0, I n, I 9, I 0, I n] 58))
       go_wp2_with (at_builtin; refine Ab rfl _ _ _ _ rfl VI _ _ _ rfl (HR.out.below HA.out) _ 2 _ rfl ((AH.made (size := 3) (m := 2) (AE wr (.cells #[I 6, I 0, I n, I 9, I 0, I n] 58)) rfl).src underlying55 (by simp [Value.oneCell'])) ?c1 ?c2 ?_)
       case c1 => have := HN.out; omega
       case c2 => have := HN.out; omega
       intro A3 cap3 w5 hr5 hg5 hm5
       have HF := Vw (WA hr5 (WA hg5 hm5))
       clear hr5 hg5 hm5
       go_wp2_with fail
       have HFR := Vw (show AH w5 58 3 (.slice A3 (Ls.length + 2) cap3) (BL 2 ++ Ci (n + 1)).length (Br (BL 2 ++ Ci (n + 1))) by
        have := Nu _ [⟨6, 0, n⟩, ⟨9, 0, n⟩] #[I 6, I 0, I n, I 9, I 0, I n] rfl 2 rfl HF.out.1
        rw [Ci, ← List.append_assoc, HL.out]
        exact this)
       refine ⟨⟨n + 1, by omega, by simp, HFR.out, ?_, ?_⟩, by simp [intOf]; omega⟩
       · intro k hk
         rcases HF.out.2.2 with e | ⟨g, e, hg⟩
         · exact HO.out k (e ▸ hk)
         · rw [e] at hk
           cases hk
           exact Vx HB.out.size (Vx HA.out.size hg)
       · exact (HB.out.trans (HA.out.mono HB.out.size)).grown HF.out.2.1 (Vx HB.out.size HA.out.size) (fun k hk => HO.out k hk)
     · obtain rfl : n = 5 := by omega
       obtain ⟨A2, cap2, hvf⟩ := hv.form
       rw [show BL 2 ++ Ci 5 = BP from rfl] at hvf
       have HR := Vw hv
       subst hvf
       go_wp2_with fail
       go_ret
       exact ⟨_, rfl, HR.out, ho, hb⟩
theorem On (x0 x1 x2 x3 x4 : Ln) (S : Value) (w : World) (hr : AH w 109 8 S 5 ([x0, x1, x2, x3, x4].flatMap Ln.cells)) : Y 42 #[Ai, S] w fun r w' => ∃ v, r = Z v ∧ AH w' 27 1 v 8 (Ln.cells x4) ∧ (∀ k, v.ownBlock = some k → w.heap.size ≤ k) ∧ Below w w w' := by
 have hof := Vw (fun w => JD w)
 unfold Ai at *
 obtain ⟨g, off, AV, cs, rfl, hg, hcap, _, hc⟩ := hr.lies (by decide)
 obtain ⟨W1, hE, hb1, hI1⟩ := alloc_new w (.cells KA 25)
 have c1 := AA hI1
 have HB1 := Vw hb1
 have HI1 := Vw hI1
 have hcap' : (5 : Int) ≤ (AV : Int) := by omega
 have HG := Vw (WA hg hc)
 clear hr hg hc hb1 hI1
 go_enter func42, ntmps42
 go_wp2_with fail
 refine (hof.out _).mono ?_
 rintro r w2 ⟨b, rfl, hp, hb2⟩
 have HB2 := Vw (HB1.out.trans (hb2.mono HB1.out.size))
 have HI2 := AB hb2 HI1.out
 have c2 := AA HI2
 unfold Ms Cr at hp
 have cp := AA hp
 clear hb2 HI2 hp c1
 go_wp2_with fail
 go_quiet (fail)
 have HB3 := Vw (show Below w w (w2.drewN nq) from HB2.out.trans ⟨rfl, rfl, rfl, Nat.le_refl _, fun _ _ => rfl⟩)
 generalize w2.drewN nq = W3 at *
 clear c2 cp
 have hg3 := HB3.out.block g (AF HG.out.1)
 have hcell : ∀ k u, (Ln.cells x4)[k]? = some u → W3.cell? ⟨g, off + 32 + k, none⟩ = some u := fun k u hu => by
  have hk : k < 8 := (List.getElem?_eq_some_iff.1 hu).1
  have h2 : ([x0, x1, x2, x3, x4].flatMap Ln.cells)[32 + k]? = some u := by
   rcases (by omega : k = 0 ∨ k = 1 ∨ k = 2 ∨ k = 3 ∨ k = 4 ∨ k = 5 ∨ k = 6 ∨ k = 7) with rfl | rfl | rfl | rfl | rfl | rfl | rfl | rfl <;> exact hu
  have := AD (hg3.trans HG.out.1) _ (HG.out.2 (32 + k) u h2)
  rwa [← Nat.add_assoc] at this
 have e0 : W3.cell? ⟨g, off + 32, none⟩ = U x4.a := hcell 0 _ rfl
 have e1 : W3.cell? ⟨g, off + 32 + 1, none⟩ = U x4.b := hcell 1 _ rfl
 have e2 : W3.cell? ⟨g, off + 32 + 2, none⟩ = U x4.c := hcell 2 _ rfl
 have e3 : W3.cell? ⟨g, off + 32 + 3, none⟩ = U x4.d := hcell 3 _ rfl
 have e4 : W3.cell? ⟨g, off + 32 + 4, none⟩ = U x4.e := hcell 4 _ rfl
 have e5 : W3.cell? ⟨g, off + 32 + 5, none⟩ = U x4.f := hcell 5 _ rfl
 have e6 : W3.cell? ⟨g, off + 32 + 6, none⟩ = U x4.g := hcell 6 _ rfl
 have e7 : W3.cell? ⟨g, off + 32 + 7, none⟩ = U x4.h := hcell 7 _ rfl
 obtain ⟨W4, hE4, hb4, hI4⟩ := alloc_new W3 (.cells x4 109)
 have HB4 := Vw (HB3.out.trans (hb4.mono HB3.out.size))
 have HI4 := Vw hI4
 have hs34 := Vw (show w.heap.size ≤ W4.heap.size from (HB3.out.trans (hb4.mono HB3.out.size)).size)
 have HSR := Vw (show Go.Src prog 1 28 (.slice (some W3) 8 8) 8 (Ln.cells x4) W4 from Go.Src.ofSlice W4 underlying28 _ 8 8 (Ln.cells x4) rfl (fun j u hu => by rw [Fp, Nat.zero_add]; exact AD hI4 j (by simpa [Ln.cells] using hu)) (fun u hu => Hz [x4] u (by simpa using hu)))
 clear hcell hg3 hb4 hI4
 go_wp2_with fail
 refine wp_loop_rounds 2 ?_
 rw [rounds_succ]
 go_wp2_with (at_builtin; refine Ab rfl _ _ _ _ rfl GX (.slice none 0 0) 0 [] rfl (AH.nil _ _ _) (.slice (some W3) 8 8) 8 (Ln.cells x4) rfl HSR.out (by omega) (by omega) ?_)
 intro A5 cap5 w5 hr5 hg5 hm5
 have HF := Vw (WA hr5 (WA hg5 hm5))
 clear hr5 hg5 hm5 e0 e1 e2 e3 e4 e5 e6 e7
 go_wp2_with fail
 rw [rounds_succ]
 go_wp2_with fail
 go_ret
 refine ⟨.slice A5 8 cap5, rfl, by simpa using HF.out.1, fun k hk => ?_, HB4.out.grown HF.out.2.1 hs34.out (fun k hk => by simp [Value.ownBlock] at hk)⟩
 rcases HF.out.2.2 with e | ⟨g5, e, hg'⟩
 · rw [e] at hk
   simp [Value.ownBlock] at hk
 · rw [e] at hk
   cases hk
   exact Vx hs34.out hg'
theorem OK (e : Ev) (w : World) : Y 34 #[.agg e] w fun r w' => r = Z (U e.val) ∧ Below w w w' := by
 obtain ⟨W1, hE, hb, hI⟩ := alloc_new w (.cells e 92)
 have HB := Vw hb
 have c1 := AA hI
 clear hb hI
 go_enter func34, ntmps34
 go_wp2_with fail
 go_ret
 exact ⟨rfl, HB.out⟩
theorem Kl (e : Ev) (w : World) : Y 194 #[.agg e] w fun r w' => r = Z (.agg e) ∧ Below w w w' := by
 go_enter func194, ntmps194
 go_wp2_with fail
 refine bodyPost_ret (v := .agg e) (by simp [results, results194, go_sem]) rfl ⟨rfl, (AC w _).trans ((AC _ _).mono (by simp))⟩
theorem Kj (e : Ev) (k : Int) (b : Nat) (T : TypeId) (w : World) (h : w.heap[b]? = some (.cells #[I k] T)) : Y 33 #[.agg e, b] w fun r w' => r = Z (.bool (e.kind == 8 && e.core == k)) ∧ Below w w w' := by
 obtain ⟨W1, hE, hb, hI⟩ := alloc_new w (.cells e 92)
 have HB := Vw hb
 have c1 := AA hI
 have c2 := AA (AB hb h)
 clear hb hI h
 cases h8 : (e.kind == 8)
 · go_enter func33, ntmps33
   go_wp2_with fail
   go_ret
   exact ⟨rfl, HB.out⟩
 · go_enter func33, ntmps33
   go_wp2_with fail
   go_ret
   exact ⟨rfl, HB.out⟩
theorem OL (e : Ev) (k c : Int) (b1 b2 : Nat) (T1 T2 : TypeId) (w : World) (h1 : w.heap[b1]? = some (.cells #[I k] T1)) (h2 : w.heap[b2]? = some (.cells #[I c] T2)) : Y 193 #[.agg e, b1, b2] w fun r w' => r = Z (.bool ((k == 0 || e.kind == k) && (c == -1 || e.core == c))) ∧ Below w w w' := by
 obtain ⟨W1, hE, hb, hI⟩ := alloc_new w (.cells e 92)
 have HB := Vw hb
 have c1 := AA hI
 have c2 := AA (AB hb h1)
 have c3 := AA (AB hb h2)
 clear hb hI h1 h2
 cases hk : (k == 0) <;> cases he : (e.kind == k) <;> cases hc : (c == -1) <;>
  (go_enter func193, ntmps193
   go_wp2_with fail
   go_ret
   exact ⟨rfl, HB.out⟩)
theorem Hc (e : Ev) (w : World) : Y 57 #[.agg e] w fun r w' => r = Z (.bool (e.kind == 4 && e.line == 0 && e.word == 0 && e.val == 0)) ∧ Below w w w' := by
 obtain ⟨W1, hE, hb, hI⟩ := alloc_new w (.cells e 92)
 have HB := Vw hb
 have c1 := AA hI
 clear hb hI
 cases h4 : (e.kind == 4) <;> cases h0 : (e.line == 0) <;> cases h1 : (e.word == 0) <;>
  (go_enter func57, ntmps57
   go_wp2_with fail
   go_ret
   exact ⟨rfl, HB.out⟩)
theorem Ie (w : World) : Y 6 #[] w fun r w' => r = Z (.agg KA) ∧ Below w w w' := by
 go_enter func6, ntmps6
 go_wp2_with fail
 refine bodyPost_ret (v := .agg KA) (by simp [results, results6, go_sem]) rfl ⟨rfl, AC w _⟩
theorem Hm (k : Int) : ∀ (l : List Ev) (e : Ev), BT k (l ++ [e]) = BT k l ++ (if (e.kind == 8 && e.core == k) = true then [e.val] else [])
 | [], e => by
   simp only [List.nil_append, BT]
 | a :: l, e => by
   simp only [List.cons_append, BT]
   split
   · rw [Hm k l e, List.cons_append]
   · exact Hm k l e
theorem OM (k : Int) (l : List Ev) {j : Nat} {x : Ev} (hx : l[j]? = some x) : BT k (l.take (j + 1)) = BT k (l.take j) ++ (if (x.kind == 8 && x.core == k) = true then [x.val] else []) := by
 rw [List.take_add_one, hx]
 exact Hm k _ x
theorem KT (k : Int) : ∀ l : List Ev, (BT k l).length ≤ l.length
 | [] => Nat.le_refl _
 | e :: l => by
   have := KT k l
   simp only [BT]
   split <;> simp <;> omega
theorem IQ {w : World} {v : Value} {l : List Ev} (hr : AH w 92 5 v l.length (AY l)) {j : Nat} {x : Ev} (hx : l[j]? = some x) : ∃ g off AV, v = .slice (some ⟨g, off, none⟩) l.length AV ∧ l.length ≤ AV ∧ ∀ i u, x.l[i]? = some u → w.cell? ⟨g, off + j * 5 + i, none⟩ = some u := by
 obtain ⟨g, off, AV, hv, hc, _, h⟩ := AH.elem (f := Ev.l) (size := 5) (fun _ => rfl) hr hx
 exact ⟨g, off, AV, hv, hc, h⟩
theorem tchosen_calls (l : List Ev) (k : Int) (b : Nat) (T : TypeId) (hlen : l.length < 100000) (S : Value) (w : World) (h : w.heap[b]? = some (.cells #[I k] T)) (hr : AH w 92 5 S l.length (AY l)) : Y 32 #[S, .func (.func 33) #[] #[b], .func (.func 34) #[] #[]] w fun e w' => ∃ S', e = Z S' ∧ AH w' 27 1 S' (BT k l).length (AX (BT k l)) ∧ (∀ k, S'.ownBlock = some k → w.heap.size ≤ k) ∧ Below w w w' := by
 have HK := Vw h
 have H := Vw hr
 have HL := Vw hlen
 obtain ⟨A, AV, rfl⟩ := hr.form
 clear hr h
 go_enter func32, ntmps32
 go_wp2_with fail
 go_loopw [7, 12] (fun v i W => ∃ j : Nat, j ≤ l.length ∧ i = I j ∧ AH W 27 1 v (BT k (l.take j)).length (AX (BT k (l.take j))) ∧ (∀ k, v.ownBlock = some k → w.heap.size ≤ k) ∧ Below w w W) (fun v i W => l.length - (intOf i).toNat)
 case atStart => exact ⟨0, by omega, rfl, by simpa [BT, AX] using AH.nil w 27 1, by simp [Value.ownBlock], Below.refl _ _⟩
 case round =>
  obtain ⟨j, hj, rfl, hv, ho, hb⟩ := hrel
  have HR := Vw hv
  have HO := Vw ho
  have HB := Vw hb
  obtain ⟨A2, cap2, rfl⟩ := hv.form
  clear hv ho hb
  by_cases hlt : j < l.length
  · obtain ⟨x, hx⟩ : ∃ x, l[j]? = some x := ⟨l[j], List.getElem?_eq_getElem hlt⟩
    obtain ⟨g, off, cap', hv, hc1, hcell⟩ := IQ (H.out.below HB.out) hx
    cases hv
    have hlt' : (j : Int) < (l.length : Int) := by omega
    have hj0 : (0 : Int) ≤ (j : Int) := by omega
    have e0 : wr.cell? ⟨g, off + j * 5, none⟩ = I x.kind := hcell 0 _ rfl
    have e1 := hcell 1 _ rfl
    have e2 := hcell 2 _ rfl
    have e3 := hcell 3 _ rfl
    have e4 := hcell 4 _ rfl
    have HS := Vw (OM k l hx)
    have hln := KT k (l.take j)
    have htk : (l.take j).length ≤ l.length := by simp; omega
    clear hcell hx
    obtain ⟨W2, hE, hb2, hI2⟩ := alloc_new wr (.cells x 92)
    have hcall := Kj x k b T W2 (AB hb2 (AB HB.out HK.out))
    have HI2 := Vw hI2
    have HB2 := Vw hb2
    have c2 := AA hI2
    clear hb2 hI2
    go_wp2_with fail
    refine hcall.mono ?_
    rintro e w3 ⟨rfl, hb3⟩
    have HB3 := Vw (HB2.out.trans (hb3.mono HB2.out.size))
    have hI3 := AB hb3 HI2.out
    have HI3 := Vw hI3
    have hc3 := OK x w3
    generalize hq : (x.kind == 8 && x.core == k) = q at HS ⊢
    clear hb3 hq c2 e0 e1 e2 e3 e4
    cases q
    · go_wp2_with fail
      refine ⟨⟨j + 1, by omega, by simp, ?_, HO.out, HB.out.trans (HB3.out.mono HB.out.size)⟩, by simp [intOf]; omega⟩
      have := HS.out
      simp only [Bool.false_eq_true, if_false, List.append_nil] at this
      rw [this]
      exact HR.out.below HB3.out
    · have c3 := AA hI3
      clear hI3
      go_wp2_with fail
      refine hc3.mono ?_
      rintro e w4 ⟨rfl, hb4⟩
      have HB4 := Vw (HB3.out.trans (hb4.mono HB3.out.size))
      have HA := Vw (HB4.out.trans ((AC w4 (.cells #[x.val] 27)).mono HB4.out.size))
      clear hb4 c3
      go_wp2_with (at_builtin; refine Ab rfl _ _ _ _ rfl GX _ _ _ rfl (HR.out.below HA.out) _ 1 _ rfl (Src.one underlying28 (AE w4 _) rfl (by simp [Value.oneCell'])) ?c1 ?c2 ?_)
      case c1 => have := HL.out; omega
      case c2 => have := HL.out; omega
      intro A3 cap3 w5 hr5 hg5 hm5
      have HF := Vw (WA hr5 (WA hg5 hm5))
      clear hr5 hg5 hm5
      go_wp2_with fail
      have hs := HS.out
      simp only [if_true] at hs
      refine ⟨⟨j + 1, by omega, by simp, ?_, ?_, ?_⟩, by simp [intOf]; omega⟩
      · rw [hs, List.length_append]
        simpa [AX] using HF.out.1
      · intro k hk
        rcases HF.out.2.2 with e | ⟨g, e, hg⟩
        · exact HO.out k (e ▸ hk)
        · rw [e] at hk
          cases hk
          exact Vx HB.out.size (Vx HA.out.size hg)
      · exact (HB.out.trans (HA.out.mono HB.out.size)).grown HF.out.2.1 (Vx HB.out.size HA.out.size) (fun k hk => HO.out k hk)
  · obtain rfl : j = l.length := by omega
    go_wp2_with fail
    go_ret
    have hr := HR.out
    rw [List.take_length] at hr
    exact ⟨_, rfl, by simpa using hr, HO.out, HB.out⟩
theorem LR (l : List Ev) (k : Int) (hlen : l.length < 100000) (S : Value) (w : World) (hr : AH w 92 5 S l.length (AY l)) : Y 10 #[S, I k] w fun e w' => ∃ S', e = Z S' ∧ AH w' 27 1 S' (BT k l).length (AX (BT k l)) ∧ (∀ k, S'.ownBlock = some k → w.heap.size ≤ k) ∧ Below w w w' := by
 obtain ⟨W1, hE, hb, hI⟩ := alloc_new w (.cells #[I k] 3)
 have hc := Vw (tchosen_calls l k w.heap.size 3 hlen S W1 hI (hr.below hb))
 have HB := Vw hb
 obtain ⟨A, AV, rfl⟩ := hr.form
 clear hr hI hb
 go_enter func10, ntmps10
 go_wp2_with fail
 refine hc.out.mono ?_
 rintro e w2 ⟨S', rfl, h1, h2, h3⟩
 have H := Vw (show AH w2 27 1 S' (BT k l).length (AX (BT k l)) ∧ (∀ k, S'.ownBlock = some k → w.heap.size ≤ k) ∧ Below w w w2 from ⟨h1, fun k hk => Vx HB.out.size (h2 k hk), HB.out.trans (h3.mono HB.out.size)⟩)
 clear h1 h2 h3
 go_wp2_with fail
 go_ret
 exact ⟨S', rfl, H.out⟩
def KZ (k c : Int) (e : Ev) : Bool := (k == 0 || e.kind == k) && (c == -1 || e.core == c)
def Cc (k c : Int) : List Ev → List Ev
 | [] => []
 | e :: l => if KZ k c e = true then e :: Cc k c l else Cc k c l
theorem Lm (k c : Int) : ∀ (l : List Ev) (e : Ev), Cc k c (l ++ [e]) = Cc k c l ++ (if KZ k c e = true then [e] else [])
 | [], e => by
   simp only [List.nil_append, Cc]
 | a :: l, e => by
   simp only [List.cons_append, Cc]
   split
   · rw [Lm k c l e, List.cons_append]
   · exact Lm k c l e
theorem St (k c : Int) (l : List Ev) {j : Nat} {x : Ev} (hx : l[j]? = some x) : Cc k c (l.take (j + 1)) = Cc k c (l.take j) ++ (if KZ k c x = true then [x] else []) := by
 rw [List.take_add_one, hx]
 exact Lm k c _ x
theorem Ll (k c : Int) : ∀ l : List Ev, (Cc k c l).length ≤ l.length
 | [] => Nat.le_refl _
 | e :: l => by
   have := Ll k c l
   simp only [Cc]
   split <;> simp <;> omega
theorem QC (e : Ev) (k c : Int) (b1 b2 : Nat) (T1 T2 : TypeId) (w : World) (h1 : w.heap[b1]? = some (.cells #[I k] T1)) (h2 : w.heap[b2]? = some (.cells #[I c] T2)) : Y 193 #[.agg e, b1, b2] w fun r w' => r = Z (.bool (KZ k c e)) ∧ Below w w w' := OL e k c b1 b2 T1 T2 w h1 h2
theorem tchosen_ev (l : List Ev) (k c : Int) (b b2 : Nat) (T T2 : TypeId) (hlen : l.length < 100000) (S : Value) (w : World) (h : w.heap[b]? = some (.cells #[I k] T)) (hh : w.heap[b2]? = some (.cells #[I c] T2)) (hr : AH w 92 5 S l.length (AY l)) : Y 192 #[S, .func (.func 193) #[] #[b, b2], .func (.func 194) #[] #[]] w fun e w' => ∃ S', e = Z S' ∧ AH w' 92 5 S' (Cc k c l).length (AY (Cc k c l)) ∧ (∀ k, S'.ownBlock = some k → w.heap.size ≤ k) ∧ Below w w w' := by
 have HK := Vw h
 have HK2 := Vw hh
 have H := Vw hr
 have HL := Vw hlen
 obtain ⟨A, AV, rfl⟩ := hr.form
 clear hr h hh
 go_enter func192, ntmps192
 go_wp2_with fail
 go_loopw [7, 12] (fun v i W => ∃ j : Nat, j ≤ l.length ∧ i = I j ∧ AH W 92 5 v (Cc k c (l.take j)).length (AY (Cc k c (l.take j))) ∧ (∀ k, v.ownBlock = some k → w.heap.size ≤ k) ∧ Below w w W) (fun v i W => l.length - (intOf i).toNat)
 case atStart => exact ⟨0, by omega, rfl, by simpa [Cc, AY] using AH.nil w 92 5, by simp [Value.ownBlock], Below.refl _ _⟩
 case round =>
  obtain ⟨j, hj, rfl, hv, ho, hb⟩ := hrel
  have HR := Vw hv
  have HO := Vw ho
  have HB := Vw hb
  obtain ⟨A2, cap2, rfl⟩ := hv.form
  clear hv ho hb
  by_cases hlt : j < l.length
  · obtain ⟨x, hx⟩ : ∃ x, l[j]? = some x := ⟨l[j], List.getElem?_eq_getElem hlt⟩
    obtain ⟨g, off, cap', hv, hc1, hcell⟩ := IQ (H.out.below HB.out) hx
    cases hv
    have hlt' : (j : Int) < (l.length : Int) := by omega
    have hj0 : (0 : Int) ≤ (j : Int) := by omega
    have e0 : wr.cell? ⟨g, off + j * 5, none⟩ = I x.kind := hcell 0 _ rfl
    have e1 := hcell 1 _ rfl
    have e2 := hcell 2 _ rfl
    have e3 := hcell 3 _ rfl
    have e4 := hcell 4 _ rfl
    have HS := Vw (St k c l hx)
    have hln := Ll k c (l.take j)
    have htk : (l.take j).length ≤ l.length := by simp; omega
    clear hcell hx
    obtain ⟨W2, hE, hb2, hI2⟩ := alloc_new wr (.cells x 92)
    have hcall := QC x k c b b2 T T2 W2 (AB hb2 (AB HB.out HK.out)) (AB hb2 (AB HB.out HK2.out))
    have HI2 := Vw hI2
    have HB2 := Vw hb2
    have c2 := AA hI2
    clear hb2 hI2
    go_wp2_with fail
    refine hcall.mono ?_
    rintro e w3 ⟨rfl, hb3⟩
    have HB3 := Vw (HB2.out.trans (hb3.mono HB2.out.size))
    have hI3 := AB hb3 HI2.out
    have HI3 := Vw hI3
    have hc3 := Kl x w3
    generalize hq : KZ k c x = q at HS ⊢
    clear hb3 hq c2 e0 e1 e2 e3 e4
    cases q
    · go_wp2_with fail
      refine ⟨⟨j + 1, by omega, by simp, ?_, HO.out, HB.out.trans (HB3.out.mono HB.out.size)⟩, by simp [intOf]; omega⟩
      have := HS.out
      simp only [Bool.false_eq_true, if_false, List.append_nil] at this
      rw [this]
      exact HR.out.below HB3.out
    · have c3 := AA hI3
      clear hI3
      go_wp2_with fail
      refine hc3.mono ?_
      rintro e w4 ⟨rfl, hb4⟩
      have HB4 := Vw (HB3.out.trans (hb4.mono HB3.out.size))
      have HA := Vw (HB4.out.trans ((AC w4 (.cells x 92)).mono HB4.out.size))
      clear hb4 c3
      go_wp2_with (at_builtin; refine Ab rfl _ _ _ _ rfl Ki _ _ _ rfl (HR.out.below HA.out) _ 1 _ rfl (Src.one underlying42 (AE w4 _) rfl (EV [x])) ?c1 ?c2 ?_)
      case c1 => have := HL.out; omega
      case c2 => have := HL.out; omega
      intro A3 cap3 w5 hr5 hg5 hm5
      have HF := Vw (WA hr5 (WA hg5 hm5))
      clear hr5 hg5 hm5
      go_wp2_with fail
      have hs := HS.out
      simp only [if_true] at hs
      refine ⟨⟨j + 1, by omega, by simp, ?_, ?_, ?_⟩, by simp [intOf]; omega⟩
      · rw [hs, List.length_append]
        simpa [AY, Ev.l] using HF.out.1
      · intro k hk
        rcases HF.out.2.2 with e | ⟨g, e, hg⟩
        · exact HO.out k (e ▸ hk)
        · rw [e] at hk
          cases hk
          exact Vx HB.out.size (Vx HA.out.size hg)
      · exact (HB.out.trans (HA.out.mono HB.out.size)).grown HF.out.2.1 (Vx HB.out.size HA.out.size) (fun k hk => HO.out k hk)
  · obtain rfl : j = l.length := by omega
    go_wp2_with fail
    go_ret
    have hr := HR.out
    rw [List.take_length] at hr
    exact ⟨_, rfl, by simpa using hr, HO.out, HB.out⟩
theorem Pn (l : List Ev) (k c : Int) (hlen : l.length < 100000) (S : Value) (w : World) (hr : AH w 92 5 S l.length (AY l)) : Y 148 #[S, I k, I c] w fun e w' => ∃ S', e = Z S' ∧ AH w' 92 5 S' (Cc k c l).length (AY (Cc k c l)) ∧ (∀ k, S'.ownBlock = some k → w.heap.size ≤ k) ∧ Below w w w' := by
 obtain ⟨W1, hE, hb, hI⟩ := alloc_new w (.cells #[I k] 3)
 obtain ⟨W2, hE2, hb2, hI2⟩ := alloc_new W1 (.cells #[I c] 3)
 have HB := Vw (hb.trans (hb2.mono hb.size))
 have hc := Vw (tchosen_ev l k c w.heap.size W1.heap.size 3 3 hlen S W2 (AB hb2 hI) hI2 (hr.below HB.out))
 obtain ⟨A, AV, rfl⟩ := hr.form
 clear hr hI hb hb2 hI2
 go_enter func148, ntmps148
 go_wp2_with fail
 refine hc.out.mono ?_
 rintro e w3 ⟨S', rfl, h1, h2, h3⟩
 have H := Vw (show AH w3 92 5 S' (Cc k c l).length (AY (Cc k c l)) ∧ (∀ k, S'.ownBlock = some k → w.heap.size ≤ k) ∧ Below w w w3 from ⟨h1, fun k hk => Vx HB.out.size (h2 k hk), HB.out.trans (h3.mono HB.out.size)⟩)
 clear h1 h2 h3
 go_wp2_with fail
 go_ret
 exact ⟨S', rfl, H.out⟩
theorem UV {B : Nat} {w w' : World} (h : Below B w w') {p : Addr} (hp : B ≤ p.block) (u : Value) : Below B w (w'.setCell p u) :=
 ⟨h.os, h.tape, h.output, by simpa [World.setCell] using h.size, fun k hk => (Vz w' p u k (by omega)).trans (h.block k hk)⟩
theorem JR (l : List Ev) (hk : ∀ e ∈ l, e.kind ≠ 11) (hlen : l.length < 100000) (S : Value) (w : World) (hr : AH w 92 5 S l.length (AY l)) : Y 56 #[S] w fun e w' => ∃ P Q, e = Z P ∧ AH w' 42 1 P 1 [Q] ∧ AH w' 92 5 Q l.length (AY l) ∧ Below w w w' := by
 obtain ⟨A, AV, rfl⟩ := hr.form
 obtain ⟨N, hN⟩ := ex_ l.length
 have H := Vw hr
 have HK := Vw hk
 have HL := Vw hlen
 have HI := Vw (AE w (.cells #[.slice none 0 0] 42))
 have HB := Vw (AC w (.cells #[.slice none 0 0] 42))
 rw [hN] at H
 rw [hN]
 have HN := Vw hN
 clear hr hk hlen hN
 go_enter func56, ntmps56
 go_wp2_with fail
 go_loopw [3, 10] (fun v i W => ∃ j : Nat, j ≤ N ∧ v = .slice (some w) 1 1 ∧ i = I j ∧ ∃ Q, W.heap[w.heap.size]? = some (.cells #[Q] 42) ∧ AH W 92 5 Q j (AY (l.take j)) ∧ (∀ k, Q.ownBlock = some k → w.heap.size ≤ k) ∧ Below w w W) (fun v i W => N - (intOf i).toNat)
 case atStart => exact ⟨0, Nat.zero_le _, rfl, rfl, .slice none 0 0, HI.out, by simpa [AY] using AH.nil _ 92 5, by simp [Value.ownBlock], HB.out⟩
 case round =>
  obtain ⟨j, hj, rfl, rfl, Q, hc, hq, ho, hb⟩ := hrel
  obtain ⟨QA, qc, rfl⟩ := hq.form
  have HC := Vw hc
  have HQ := Vw hq
  have HO := Vw ho
  have HBr := Vw hb
  have HJ := Vw hj
  by_cases hlt : j < N
  · obtain ⟨e, he⟩ : ∃ e, l[j]? = some e := ⟨_, List.getElem?_eq_getElem (by rw [HN.out]; exact hlt)⟩
    have hr' := H.out.below (w' := wr) (hb)
    rw [← HN.out] at hr'
    obtain ⟨g, off, cap', hv, hcap, hcell⟩ := IQ hr' he
    cases hv
    have e0 : wr.cell? ⟨g, off + j * 5, none⟩ = I e.kind := hcell 0 _ rfl
    have e1' : wr.cell? ⟨g, off + j * 5 + 1, none⟩ = I e.core := hcell 1 _ rfl
    have e2 : wr.cell? ⟨g, off + j * 5 + 2, none⟩ = I e.line := hcell 2 _ rfl
    have e3 : wr.cell? ⟨g, off + j * 5 + 3, none⟩ = I e.word := hcell 3 _ rfl
    have e4 : wr.cell? ⟨g, off + j * 5 + 4, none⟩ = U e.val := hcell 4 _ rfl
    have hj0 : (0 : Int) ≤ (j : Int) := by omega
    have hj1 : (j : Int) < (N : Int) := by omega
    have hNc : (N : Int) ≤ (AV : Int) := by rw [HN.out] at hcap; omega
    have hj2 : (j : Int) + 1 ≤ 100000 := by have := HL.out; have := HN.out; omega
    have hkd : (e.kind == 11) = false := by simpa using HK.out e (List.mem_of_getElem? he)
    have htk : l.take (j + 1) = l.take j ++ [e] := by rw [List.take_add_one, he]; rfl
    have HT := Vw htk
    obtain ⟨W1, hE, hb1, hI1⟩ := alloc_new wr (.cells e 92)
    have c1 := AA hI1
    have c2 := AA (show W1.heap[w.heap.size]? = _ from AB hb1 hc)
    have HE := Vw hE
    have HB1 := Vw hb1
    have HI1 := Vw hI1
    clear hE hc hq ho hb hj hr' hcell htk he hb1 hI1 hlt hcap
    go_wp2_with fail
    rw [HE.out]
    clear HE
    have HQ1 := Vw (HQ.out.below HB1.out)
    have HP1 := Vw (AB HB1.out HC.out)
    have HA := Vw (AC W1 (.cells e 92))
    have c3 : (W1.alloc (.cells e 92)).cell? w = some (.slice QA j qc) := AD (AB HA.out HP1.out) 0 rfl
    have hjn : j ≤ 100000 := by omega
    go_region_law
     (first
      | (refine Bb (by rfl) (.tmp 28) (.tmp 30) 42 42 (by rfl) Ki (.slice QA j qc) j (AY (l.take j)) (by rfl) (HQ1.out.below HA.out.drew) _ 1 _ (by rfl) (Src.one underlying42 (AE W1 _) rfl (EV [e])) (by omega) (by omega) ?_; intro A3 cap3 w3 hr3 hg3 hm3; have d3 := AW (HQ1.out.below HA.out.drew) hg3 (AB HA.out.drew HP1.out) (by decide); have d0 := AD d3 0 rfl; have f0 := Aq d3 0))
    all_goals
     have hz1 := Vx HBr.out.size HB1.out.size
     have hbz := (HBr.out.trans (HB1.out.mono HBr.out.size)).trans (HA.out.drew.mono hz1)
     have hb3 := hbz.grown hg3 (Vx hz1 HA.out.drew.size) HO.out
     have HF := Vw (WA (AI d3 0 (.slice A3 (j + 1) cap3)) (WA (hr3.stored d3 (by decide) 0 (.slice A3 (j + 1) cap3)) (WA hm3 (UV hb3 (p := w) (Nat.le_refl _) (.slice A3 (j + 1) cap3)))))
     have HS := Vw (show w.heap.size ≤ (W1.alloc (.cells e 92)).drew.heap.size from Vx hz1 HA.out.drew.size)
     clear hr3 hg3 hm3 d3 d0 f0 hz1 hbz hb3 c1 c2 c3
     go_wp2_with fail
     refine ⟨⟨j + 1, by omega, rfl, by simp, _, HF.out.1, ?_, ?_, HF.out.2.2.2⟩, by simp [intOf]; omega⟩
     · rw [HT.out]
       simpa [AY, Ev.l] using HF.out.2.1
     · intro k hk
       rcases HF.out.2.2.1 with hm | ⟨g', hm, hle⟩
       · exact HO.out k (hm ▸ hk)
       · rw [hm] at hk
         cases hk
         exact Vx HS.out hle
  · obtain rfl : j = N := by omega
    clear hc
    go_wp2_with fail
    go_ret
    refine ⟨.slice (some w) 1 1, _, rfl, AH.one HC.out rfl, ?_, HBr.out⟩
    have h := HQ.out
    rw [← HN.out, List.take_length] at h
    rw [← HN.out]
    exact h
end Go.Proofs.YtkoplblbeapfgaaGreatDoor
