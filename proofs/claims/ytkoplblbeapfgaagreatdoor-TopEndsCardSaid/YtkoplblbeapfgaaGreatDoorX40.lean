/-
Parts of the walk of TopEnds. Conditions stand in each statement.
-/
import Derived.Test.YtkoplblbeapfgaaGreatDoorX39
namespace Go.Proofs.YtkoplblbeapfgaaGreatDoor
open Go.RowKit
open Tryz
set_option linter.all false
set_option maxRecDepth 100000
set_option maxHeartbeats 8000000
theorem NG (w : World) : Y 90 #[.slice none 0 0, I 2] w fun e w' => ∃ S, e = Z S ∧ AH w' 31 2 S 0 [] ∧ (∀ k, S.ownBlock = some k → w.heap.size ≤ k) ∧ Below w w w' := by
 go_enter func90, ntmps90
 go_wp2_with fail
 go_ret
 refine ⟨.slice (some w) 0 ((Question.appendCap 2 0 31).cut (w.tape w.drawn (Question.appendCap 2 0 31))), rfl, ⟨rfl, .inr ⟨w.heap.size, 0, _, _, rfl, AE w _, Nat.zero_le _, ?_, fun j u hu => by simp at hu⟩⟩, fun k hk => by have hk' : w.heap.size = k := (by simpa [Value.ownBlock] using hk); omega, (AC w _).drew⟩
 simp [Builtin.zeroCells]
 omega
theorem VJ : ET prog 38 31 2 32 := ET.of underlying38 (z := .agg #[.slice none 0 0, false]) (by kernel_rfl) rfl
theorem Hn (a : List Int) (ha : a.length < 1000) (S1 S2 : Value) (w : World) (h1 : AH w 27 1 S1 a.length (AX a)) (h2 : AH w 27 1 S2 a.length (AX a)) : Y 55 #[S1, S2] w fun e w' => e = Z (.bool true) ∧ Below w w w' := by
 have H1 := Vw h1
 have H2 := Vw h2
 obtain ⟨A1, cap1, rfl⟩ := h1.form
 obtain ⟨A2, cap2, rfl⟩ := h2.form
 have haI : (a.length : Int) < 1000 := by omega
 clear h1 h2
 go_enter func55, ntmps55
 go_wp2_with fail
 go_loopw [13] (fun i W => ∃ j : Nat, j ≤ a.length ∧ i = I j ∧ Below w w W) (fun i W => a.length - (intOf i).toNat)
 case atStart => exact ⟨0, by omega, rfl, Below.refl _ _⟩
 case round =>
  obtain ⟨j, hj, rfl, hb⟩ := hrel
  have HB := Vw hb
  clear hb
  by_cases hlt : j < a.length
  · obtain ⟨x, hx⟩ : ∃ x, a[j]? = some x := ⟨a[j], List.getElem?_eq_getElem hlt⟩
    obtain ⟨g1, o1, c1, hv1, hc1, e1⟩ := DK (H1.out.below HB.out) hx
    obtain ⟨g2, o2, c2, hv2, hc2, e2⟩ := DK (H2.out.below HB.out) hx
    cases hv1
    cases hv2
    have hlt' : (j : Int) < (a.length : Int) := by omega
    have hj0 : (0 : Int) ≤ (j : Int) := by omega
    clear hx
    go_wp2_with fail
    go_quiet (fail)
    go_wp2_with fail
    exact ⟨⟨j + 1, by omega, by simp, EN HB.out _⟩, by simp [intOf]; omega⟩
  · obtain rfl : j = a.length := by omega
    go_wp2_with fail
    go_ret
    exact ⟨rfl, HB.out⟩
theorem Kn (A0 A1 X0 X1 TS : Value) (w : World) (hT : AH w 38 1 TS 2 [X0, X1]) (h0 : AH w 31 2 X0 1 [A0, .bool false]) (h1 : AH w 31 2 X1 1 [A1, .bool false]) (ha0 : A0.oneCell' = true) (ha1 : A1.oneCell' = true) : Y 50 #[TS] w fun e w' => ∃ S, e = Z S ∧ AH w' 31 2 S 2 [A0, .bool false, A1, .bool false] ∧ (∀ k, S.ownBlock = some k → w.heap.size ≤ k) ∧ Below w w w' := by
 have hgr := NG
 obtain ⟨tg, to, tc, tcs, rfl, htg, htc, _, htx⟩ := hT.lies (by decide)
 obtain ⟨B0, b0, rfl⟩ := h0.form
 obtain ⟨B1, b1, rfl⟩ := h1.form
 have e0 : w.cell? ⟨tg, to, none⟩ = some (.slice B0 1 b0) := AD htg _ (htx 0 _ rfl)
 have e1 : w.cell? ⟨tg, to + 1, none⟩ = some (.slice B1 1 b1) := AD htg _ (htx 1 _ rfl)
 have HTX := Vw (show ∀ W : World, W.heap[tg]? = some (.cells tcs 38 (0, 0)) → W.cell? ⟨tg, to, none⟩ = some (.slice B0 1 b0) ∧ W.cell? ⟨tg, to + 1, none⟩ = some (.slice B1 1 b1) from fun W h => ⟨AD h _ (htx 0 _ rfl), AD h _ (htx 1 _ rfl)⟩)
 have HTG := Vw htg
 have H0 := Vw h0
 have H1 := Vw h1
 have HA := Vw (WA ha0 ha1)
 have htcI : (2 : Int) ≤ (tc : Int) := by omega
 clear hT h0 h1 htg htc htx ha0 ha1
 go_enter func50, ntmps50
 go_wp2_with fail
 refine wp_loop_rounds 3 ?_
 rw [rounds_succ]
 go_wp2_with fail
 rw [rounds_succ]
 go_wp2_with fail
 rw [rounds_succ]
 go_wp2_with fail
 refine (hgr _).mono ?_
 rintro e w2 ⟨S2, rfl, hs2, ho2, hb2⟩
 obtain ⟨C2, c2, rfl⟩ := hs2.form
 have HS2 := Vw hs2
 have HO2 := Vw ho2
 have HB2 := Vw hb2
 have HTG2 := Vw (AB hb2 HTG.out)
 have x2 := HTX.out w2 HTG2.out
 obtain ⟨x20, x21⟩ := x2
 clear hs2 ho2 hb2 e0 e1
 go_wp2_with fail
 refine wp_loop_rounds 3 ?_
 rw [rounds_succ]
 go_wp2_with (at_builtin; refine Ab rfl _ _ _ _ rfl VJ _ 0 [] rfl HS2.out _ 1 _ rfl ((H0.out.below HB2.out).src underlying38 (by intro u hu; simp at hu; rcases hu with rfl | rfl; exact HA.out.1; rfl)) (by omega) (by omega) ?_)
 intro A7 cap7 w7 hr7 hg7 hm7
 have HF7 := Vw (WA hr7 (WA hg7 hm7))
 have HTG7 := Vw (AW HS2.out hg7 HTG2.out (by decide))
 have HO7 := Vw (show ∀ k, (Value.slice A7 1 cap7).ownBlock = some k → w.heap.size ≤ k from fun k hk => by
  rcases hm7 with hm | ⟨g', hm, hle⟩
  · exact HO2.out k (hm ▸ hk)
  · have hm' : (Value.slice A7 1 cap7).ownBlock = some g' := hm
    rw [hm'] at hk
    cases hk
    exact Vx HB2.out.size hle)
 have HB7 := Vw (HB2.out.grown hg7 HB2.out.size HO2.out)
 have HR7 := Vw (show AH w7 31 2 (.slice A7 1 cap7) 1 [A0, .bool false] from hr7)
 obtain ⟨x70, x71⟩ := HTX.out w7 HTG7.out
 clear hr7 hg7 hm7 x20 x21
 go_wp2_with fail
 rw [rounds_succ]
 go_wp2_with (at_builtin; refine Ab rfl _ _ _ _ rfl VJ _ 1 _ rfl HR7.out _ 1 _ rfl ((H1.out.below HB7.out).src underlying38 (by intro u hu; simp at hu; rcases hu with rfl | rfl; exact HA.out.2; rfl)) (by omega) (by omega) ?_)
 intro A8 cap8 w8 hr8 hg8 hm8
 have HO8 := Vw (show ∀ k, (Value.slice A8 2 cap8).ownBlock = some k → w.heap.size ≤ k from fun k hk => by
  rcases hm8 with hm | ⟨g', hm, hle⟩
  · exact HO7.out k (hm ▸ hk)
  · have hm' : (Value.slice A8 2 cap8).ownBlock = some g' := hm
    rw [hm'] at hk
    cases hk
    exact Vx HB7.out.size hle)
 have HB8 := Vw (HB7.out.grown hg8 HB7.out.size HO7.out)
 have HR8 := Vw (show AH w8 31 2 (.slice A8 2 cap8) 2 [A0, .bool false, A1, .bool false] from hr8)
 clear hr8 hg8 hm8 x70 x71
 go_wp2_with fail
 rw [rounds_succ]
 go_wp2_with fail
 go_ret
 exact ⟨.slice A8 2 cap8, rfl, HR8.out, HO8.out, HB8.out⟩
end Go.Proofs.YtkoplblbeapfgaaGreatDoor
