/-
Parts of the walk of TopEnds. Conditions stand in each statement.
-/
import Derived.Maps.OwnOps
import Derived.Maps.RangeWalk
import Derived.Test.YtkoplblbeapfgaaGreatDoorX27
namespace Go.Proofs.YtkoplblbeapfgaaGreatDoor
open Go.RowKit Go.Maps
open Tryz
set_option linter.all false
set_option maxRecDepth 100000
set_option maxHeartbeats 8000000
theorem MC : Keyed prog 27 := int_keyed underlying27
theorem Ue (w : World) : (zeroValue 3).run prog w = .ok (I 0) w := by kernel_rfl
def Fh : Nat → DataW Unit
 | 0 => .map []
 | n + 1 => .map [(.int .u64 256, .lit (.int .i64 ((n + 1 : Nat) : Int)))]
theorem Sv {n : Nat} {c : Int} (h : (Fh n).atKey (.int .u64 256) (.lit (.int .i64 0)) = .lit (.int .i64 c)) : c = n := by
 cases n with
 | zero => simp [Fh, DataW.atKey] at h; omega
 | succ n => simp [Fh, DataW.atKey, Lit.sameKey] at h; omega
theorem Ra {n : Nat} {c : Int} (hc : c = ((n + 1 : Nat) : Int)) : (Fh n).put (.int .u64 256) (.lit (.int .i64 c)) = Fh (n + 1) := by
 subst hc
 cases n <;> rfl
theorem MA {n : Nat} {x : Int} (h : Maps.has (Fh (n + 1)) (.int .u64 x) = true) : x = 256 := by
 simp [Fh, Maps.has, Lit.sameKey] at h
 omega
theorem BR {w w' : World} (hb : Below w w w') : w.grownBy w' none := ⟨hb.os, hb.tape, hb.output, hb.size, fun k hk _ => hb.block k hk⟩
theorem TW (y : Nat) (hy : y < 8) : ∃ v : Int, v = ((256 + y * 8 : Nat) : Int) ∧ 256 ≤ v ∧ v < 320 ∧ v.tdiv 64 = 4 ∧ v / 64 = 4 := ⟨_, rfl, by omega, by omega, by rw [Int.tdiv_eq_ediv_of_nonneg (by omega)]; omega, by omega⟩
theorem MY (Av : Nat → Prop) (bb : Nat) (B : BS) (ws : List Int) (hws : ∀ x ∈ ws, 0 ≤ x ∧ x < 8) (hne : ws ≠ []) (hlen : ws.length ≤ 1000) (S : Value) (w : World) (hS : AH w 3 1 S ws.length (ws.map (I ·))) (h : Ap Av w bb B) (hA : ∀ k, Av k → k < w.heap.size) (hn : B.l.length ≤ 100000) :
 Y 105 #[bb, Ai, S] w fun e w' => e = Z (.tuple #[]) ∧ Ap Av w' bb (CI B ws) ∧ Pres Av w w' := by
 have hli := EL
 have hcl := FV
 have hgo := CA
 have hno := Hw
 have hwo := DI
 have hwd := GG
 have hmm := @run_makeMap prog
 have hso := Vw Tm
 have hpos : 0 < ws.length := List.length_pos_iff.2 hne
 obtain ⟨sg, so, sc, scs, rfl, hsg, hsc, _, hsx⟩ := hS.lies hpos
 obtain ⟨W1, hE, hb1, hI⟩ := alloc_new w (.cells KA 25)
 have HI := Vw hI
 have HB1 := Vw hb1
 have HA := Vw (show ∀ k, (Av k ∨ k = w.heap.size) → k < W1.heap.size from fun k hk => hk.elim (fun h => Vy (hA k h) hb1.size) (fun h => h ▸ AF hI))
 have G := Vw (show At (fun k => Av k ∨ k = w.heap.size) W1 bb B W1 from ⟨hE ▸ h.guard _, Pres.refl _ _⟩)
 have HS := Vw (WA (AB hb1 hsg) hsx)
 have HW := Vw hws
 have HL := Vw hlen
 have c1 := AA hI
 simp only [Ins.v, Ai] at hli hcl hgo hno hwo hwd ⊢
 clear h hA hS hsg hsx hI hb1 hws hne hlen
 go_enter func105, ntmps105
 go_wp2_with fail
 refine (hgo _).mono ?_
 rintro e w2 ⟨rfl, hb2⟩
 have HB2 := Vw hb2
 have c2 := AA (AB hb2 HI.out)
 clear hb2 c1 hE
 go_wp2_with fail
 have hm0 := World.ownsMap_made w2 prog 27 (plainElem (H := Unit) prog 3)
 have hbm := AC w2 (.map #[] 0)
 have hsz2 := HB2.out.size
 go_loopw [23] (fun i W => ∃ j : Nat, j ≤ ws.length ∧ i = I j ∧ W.ownsMap prog 27 (plainElem (H := Unit) prog 3) w2.heap.size j (Fh j) ∧ Below W1 W1 W) (fun i W => ws.length - (intOf i).toNat)
 case atStart => exact ⟨0, by omega, rfl, hm0, HB2.out.trans (hbm.mono hsz2)⟩
 case round =>
  obtain ⟨j, hj, rfl, hown, hb⟩ := hrel
  have HB := Vw hb
  have HO := Vw hown
  have d1 := AA (AB hb HI.out)
  clear hb hown
  by_cases hlt : j < ws.length
  · obtain ⟨x, hx⟩ : ∃ x, ws[j]? = some x := ⟨ws[j], List.getElem?_eq_getElem hlt⟩
    obtain ⟨y, rfl⟩ : ∃ y : Nat, x = y := ⟨x.toNat, by have := HW.out x (List.mem_of_getElem? hx); omega⟩
    have hy : y < 8 := by have := HW.out y (List.mem_of_getElem? hx); omega
    have e0 : wr.cell? ⟨sg, so + j, none⟩ = I (y : Int) := AD (AB HB.out HS.out.1) _ (HS.out.2 j _ (by simp [hx]))
    obtain ⟨v, hv, hv1, hv2, hv3, hv4⟩ := TW y hy
    have hcall := fun w => hwd y hy w
    rw [← hv] at hcall
    have hy0 : (0 : Int) ≤ (y : Int) := by omega
    have hy8 : (y : Int) < 8 := by omega
    have hlt' : (j : Int) < (ws.length : Int) := by omega
    have hj0 : (0 : Int) ≤ (j : Int) := by omega
    clear hwd hx hv
    go_wp2_with fail
    refine (hwo _).mono ?_
    rintro e w3 ⟨rfl, hb3⟩
    have HB3 := Vw (HB.out.trans (hb3.mono HB.out.size))
    have HO3 := Vw (HO.out.kept (BR hb3) (by simp))
    have d3 := AA (AB HB3.out HI.out)
    clear hb3 d1 e0
    go_wp2_with fail
    refine (hcall _).mono ?_
    rintro e w4 ⟨rfl, hb4⟩
    have HB4 := Vw (HB3.out.trans (hb4.mono HB3.out.size))
    have HO4 := Vw (HO3.out.kept (BR hb4) (by simp))
    have HLL := Vw HL.out
    clear hb4 d3 hcall
    have hky : keyOf prog 27 (U 256) = some (.int .u64 256) := keyOf_int_mk underlying27 (by decide)
    have hjl : (j : Int) + 1 < 2000 := by have := HL.out; omega
    go_wp2_with (first
     | (at_lookup; refine wpList_lookup_own_int _ rfl _ _ 284 rfl 27 3 .i64 MC underlying284 underlying3 (Ue _) w2.heap.size j _ rfl HO4.out (.int .u64 256) (.int .u64 256) rfl hky ?_; intro c hat _; obtain rfl := Sv hat; clear hat)
     | (at_mapUpdate; refine wpList_mapUpdate_own _ rfl _ _ _ 284 rfl 27 3 MC underlying284 _ w2.heap.size j _ rfl HO4.out (by unfold maxLen; omega) (.int .u64 256) (.int .i64 ((j : Int) + 1)) (.int .u64 256) rfl rfl hky _ [] (plainElem_int underlying3 (WalkArith.wf_i64 (by omega))) ?_; intro w6 hown6 hgrow6)
     | go_in)
    refine ⟨⟨j + 1, by omega, by simp, (show (Fh j).put (.int .u64 256) (.lit (.int .i64 ((j : Int) + 1))) = Fh (j + 1) from Ra (by simp)) ▸ hown6, HB4.out.grown hgrow6 HB4.out.size (fun k hk => by cases hk; exact HB2.out.size)⟩, by simp [intOf]; omega⟩
  · obtain rfl : j = ws.length := by omega
    go_wp2_with (first
     | (at_range; refine wpList_range_own _ rfl _ 284 rfl 27 3 MC underlying284 _ w2.heap.size ws.length _ rfl HO.out ?_; intro w5 hrg5 hg5 hs5)
     | go_in)
    go_frame
    have HNN := Vw (show ∃ nn, ws.length = nn + 1 from ⟨ws.length - 1, by omega⟩)
    have HR5 := Vw hrg5
    have HB5 := Vw (HB.out.grown (hg5.but (some wr.heap.size)) HB.out.size (fun k hk => by cases hk; exact HB.out.size))
    clear hrg5 hg5 hs5
    refine wp_loop_rounds 2 ?_
    rw [rounds_succ]
    go_wp2_with (first
     | (at_next; refine wpList_next_ranges_ii _ rfl _ rfl 27 3 .u64 .i64 MC underlying27 underlying3 w2.heap.size wr.heap.size ws.length _ _ _ rfl HR5.out ?_ ?_)
     | go_in)
    · intro h0 _
      obtain ⟨nn, hnn⟩ := HNN.out
      rw [hnn] at h0
      exact absurd h0 (by simp [Fh, Maps.size])
    · intro x c w6 cnt6 _ _ hlx _ hrg6 _ hg6 hs6 hen
      obtain rfl : x = 256 := by
       obtain ⟨nn, hnn⟩ := HNN.out
       rw [hnn] at hlx
       exact MA hlx
      have HB6 := Vw (HB5.out.grown hg6 HB5.out.size (fun k hk => by cases hk; exact HB.out.size))
      have HR6 := Vw hrg6
      clear hlx hrg6 hg6 hs6
      go_wp2_with (first
       | (at_builtin; refine Ab rfl _ _ _ _ rfl GX (.slice none 0 0) 0 [] rfl (AH.nil _ 27 1) _ 1 _ rfl (Src.one underlying28 (AE w6 _) rfl (by simp [Value.oneCell'])) (by omega) (by omega) ?_)
       | go_in)
      intro A7 cap7 w7 hr7 hg7 hm7
      have HB7 := Vw ((HB6.out.trans ((AC w6 _).mono HB6.out.size)).grown hg7 (by have := HB6.out.size; simp; omega) (fun k hk => by simp [Value.ownBlock] at hk))
      have HR7 := Vw ((HR6.out.kept (BR (AC w6 _)) (by simp) (by simp)).kept hg7 (by simp [Value.ownBlock]) (by simp [Value.ownBlock]))
      obtain ⟨rg, ro, rc, rcs, hv7, hrg7, _, _, hrx7⟩ := hr7.lies (by omega)
      cases hv7
      have e7 : w7.cell? ⟨rg, ro, none⟩ = U 256 := AD hrg7 _ (hrx7 0 _ rfl)
      clear hr7 hg7 hm7 hen hrg7 hrx7
      go_wp2_with fail
      rw [rounds_succ]
      go_wp2_with (first
       | (at_next; refine wpList_next_ranges_ii _ rfl _ rfl 27 3 .u64 .i64 MC underlying27 underlying3 w2.heap.size wr.heap.size ws.length _ _ _ rfl HR7.out ?_ ?_)
       | go_in)
      · intro _ _
        go_wp2_with fail
        refine (hso.out _ _ _).mono ?_
        rintro e w8 ⟨rfl, rfl⟩
        go_wp2_with fail
        refine wp_loop_rounds 2 ?_
        rw [rounds_succ]
        go_wp2_with fail
        refine (hli _ _ (by omega) (by omega) _).mono ?_
        rintro e w8 ⟨rfl, hb8⟩
        have HB8 := Vw (HB7.out.trans (hb8.mono HB7.out.size))
        clear hb8 e7
        go_wp2_with fail
        refine (hcl _ _).mono ?_
        rintro e w9 ⟨rfl, hb9⟩
        replace G := Vw (G.out.below (HB8.out.trans (hb9.mono HB8.out.size)))
        clear hb9
        go_wp2_with fail
        refine (Dw _ bb B [AN 1 256, CM 1] 2 rfl _ G.out.1 (G.out.in HA.out) (by omega)).mono ?_
        rintro e w10 ⟨rfl, g1, g2⟩
        replace G := Vw (G.out.step (B' := B.add [AN 1 256, CM 1]) g1 g2)
        clear g1 g2
        go_wp2_with fail
        rw [rounds_succ]
        have c10 := AA (G.out.heap (.inr rfl) HI.out)
        go_wp2_with fail
        refine (hno _).mono ?_
        rintro e w11 ⟨X, rfl, hX, hb11⟩
        replace G := Vw (G.out.below hb11)
        have HX := Vw hX
        clear hX hb11 c10
        go_wp2_with fail
        refine (Mn _ bb (B.add [AN 1 256, CM 1]) AO _ _ G.out.1 HX.out (G.out.in HA.out) (by simp [BS.add, AO]; omega)).mono ?_
        rintro e w12 ⟨rfl, g1, g2⟩
        replace G := Vw (show At (fun k => Av k ∨ k = w.heap.size) W1 bb (CI B ws) w12 from by
         have he : CI B ws = (B.add [AN 1 256, CM 1]).add AO := by
          obtain ⟨nn, hnn⟩ := HNN.out
          cases ws with
          | nil => simp at hnn
          | cons a l => rfl
         rw [he]
         exact G.out.step (B' := (B.add [AN 1 256, CM 1]).add AO) g1 g2)
        clear g1 g2
        go_wp2_with fail
        go_end0
        exact ⟨rfl, G.out.unguard' HB1.out⟩
      · intro x c w8 _ _ _ hlx hsk
        exfalso
        obtain ⟨nn, hnn⟩ := HNN.out
        rw [hnn] at hlx
        obtain rfl := MA hlx
        first
         | exact absurd hsk (by decide)
         | simp [Lit.sameKey] at hsk
end Go.Proofs.YtkoplblbeapfgaaGreatDoor
