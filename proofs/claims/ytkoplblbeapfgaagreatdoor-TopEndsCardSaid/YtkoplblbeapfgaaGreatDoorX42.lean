/-
Parts of the walk of TopEnds. Conditions stand in each statement.
-/
import Derived.Test.YtkoplblbeapfgaaGreatDoorX40
import Derived.Test.YtkoplblbeapfgaaGreatDoorX41
namespace Go.Proofs.YtkoplblbeapfgaaGreatDoor
open Go.RowKit Go.Maps
open Tryz
set_option linter.all false
set_option maxRecDepth 100000
set_option maxHeartbeats 8000000
theorem LZ (l : List Ev) (hk : ∀ e ∈ l, e.kind ≠ 11) (hbeg : (l.filter Cs).map Ev.core = [0, 1]) (hk0 : ((Cc 0 0 l).filter CE).map Dr = DR 0 [5, 5, 101]) (hk1 : ((Cc 0 1 l).filter CE).map Dr = DR 1 [0, 101]) (hlen : l.length < 100000) (M TS X0 X1 A0 A1 S : Value) (w : World) (hM : AH w 27 1 M 8 (AX [0, 0, 0, 0, 0, 0, 0, 0])) (hT : AH w 38 1 TS 2 [X0, X1]) (h0 : AH w 31 2 X0 1 [A0, .bool false]) (h1 : AH w 31 2 X1 1 [A1, .bool false]) (ha0 : AH w 33 3 A0 2 (BI [⟨3, 3, 5, false⟩, ⟨1, 3, 0, false⟩])) (ha1 : AH w 33 3 A1 2 (BI [⟨2, 2, 9, false⟩, ⟨4, 3, 1, false⟩])) (hr : AH w 92 5 S l.length (AY l)) : Y 19 #[Ai, M, TS, S] w fun e w' => e = Z (.tuple #[I 2, I 0]) ∧ Below w w w' := by
 have hgo := CA
 have hwo := DI
 have hro := Ij
 have HBG := Vw (fun (S : Value) (w : World) (hr : AH w 92 5 S l.length (AY l)) => Ic l hk hbeg hlen S w hr)
 have HTD := Vw (fun (S : Value) (w : World) (hr : AH w 92 5 S l.length (AY l)) => LX l [5, 5, 101] [0, 101] hk hbeg hk0 hk1 (by decide) (by decide) hlen S w hr)
 simp only [Ai] at hgo hwo hro HBG HTD ⊢
 obtain ⟨sA, sc, rfl⟩ := hr.form
 obtain ⟨mA, mc, rfl⟩ := hM.form
 obtain ⟨a0A, a0c, rfl⟩ := ha0.form
 obtain ⟨a1A, a1c, rfl⟩ := ha1.form
 obtain ⟨g0, o0, c0, cs0, rfl, hg0, hc0, _, hx0⟩ := h0.lies (by decide)
 obtain ⟨g1, o1, c1, cs1, rfl, hg1, hc1, _, hx1⟩ := h1.lies (by decide)
 obtain ⟨tg, to, tcx, tcs, rfl, htg, htc, _, htx⟩ := hT.lies (by decide)
 have HR := Vw hr
 have HM := Vw hM
 have HA0 := Vw ha0
 have HA1 := Vw ha1
 have HTX := Vw (show ∀ W : World, Below w w W → W.cell? ⟨tg, to, none⟩ = some (.slice (some ⟨g0, o0, none⟩) 1 c0) ∧ W.cell? ⟨tg, to + 1, none⟩ = some (.slice (some ⟨g1, o1, none⟩) 1 c1) ∧ W.cell? ⟨g0, o0, none⟩ = some (.slice a0A 2 a0c) ∧ W.cell? ⟨g0, o0 + 1, none⟩ = some (.bool false) ∧ W.cell? ⟨g1, o1, none⟩ = some (.slice a1A 2 a1c) ∧ W.cell? ⟨g1, o1 + 1, none⟩ = some (.bool false) from fun W h => ⟨AD (AB h htg) _ (htx 0 _ rfl), AD (AB h htg) _ (htx 1 _ rfl), AD (AB h hg0) _ (hx0 0 _ rfl), AD (AB h hg0) _ (hx0 1 _ rfl), AD (AB h hg1) _ (hx1 0 _ rfl), AD (AB h hg1) _ (hx1 1 _ rfl)⟩)
 have HCON := Vw (fun (W : World) (h : Below w w W) => Kn (.slice a0A 2 a0c) (.slice a1A 2 a1c) _ _ _ W (hT.below h) (h0.below h) (h1.below h) rfl rfl)
 have htcI : (2 : Int) ≤ (tcx : Int) := by omega
 have hc0I : (1 : Int) ≤ (c0 : Int) := by omega
 have hc1I : (1 : Int) ≤ (c1 : Int) := by omega
 obtain ⟨N, hN⟩ := ex_ l.length
 rw [hN] at HR HBG HTD
 rw [hN]
 obtain ⟨W1, hE1⟩ := ex_ (w.alloc (.cells KA 25))
 have HB1 := Vw (show Below w w W1 from hE1 ▸ AC w _)
 have HI1 := Vw (show W1.heap[w.heap.size]? = some (.cells KA 25) from hE1 ▸ AE w _)
 have b1 := AA HI1.out
 clear hk hbeg hk0 hk1 hlen hM hT h0 h1 ha0 ha1 hr hg0 hc0 hx0 hg1 hc1 hx1 htg htc htx hN
 go_enter func19, ntmps19
 go_wp2_with fail
 refine (hgo _).mono ?_
 rintro e w2 ⟨rfl, hb2⟩
 have HB2 := Vw (HB1.out.trans (hb2.mono HB1.out.size))
 have HI2 := Vw (AB hb2 HI1.out)
 have b2 := AA HI2.out
 clear hb2 b1 hE1 HB1 HI1
 go_wp2_with fail
 refine (hwo _).mono ?_
 rintro e w3 ⟨rfl, hb3⟩
 have HB3 := Vw (HB2.out.trans (hb3.mono HB2.out.size))
 have HI3 := Vw (AB hb3 HI2.out)
 have b3 := AA HI3.out
 clear hb3 b2 HB2 HI2
 go_wp2_with fail
 refine (HCON.out w3 HB3.out).mono ?_
 rintro e w4 ⟨CS, rfl, hcs, hco, hb4⟩
 obtain ⟨cg, co, cc, ccs, rfl, hcg, hcc, _, hcx⟩ := hcs.lies (by decide)
 have HB4 := Vw (HB3.out.trans (hb4.mono HB3.out.size))
 have HI4 := Vw (AB hb4 HI3.out)
 have HCX := Vw (show ∀ W : World, Below w4 w4 W → W.cell? ⟨cg, co, none⟩ = some (.slice a0A 2 a0c) ∧ W.cell? ⟨cg, co + 1, none⟩ = some (.bool false) ∧ W.cell? ⟨cg, co + 2, none⟩ = some (.slice a1A 2 a1c) ∧ W.cell? ⟨cg, co + 3, none⟩ = some (.bool false) from fun W h => ⟨AD (AB h hcg) _ (hcx 0 _ rfl), AD (AB h hcg) _ (hcx 1 _ rfl), AD (AB h hcg) _ (hcx 2 _ rfl), AD (AB h hcg) _ (hcx 3 _ rfl)⟩)
 obtain ⟨x0, x1, x2, x3⟩ := HCX.out w4 (Below.refl _ _)
 have hccI : (2 : Int) ≤ (cc : Int) := by omega
 clear hcs hco hb4 hcg hcc hcx b3
 go_wp2_with fail
 refine wp_loop_rounds 3 ?_
 rw [rounds_succ]
 obtain ⟨V0, hV0⟩ := ex_ (w4.alloc (.cells #[.slice a0A 2 a0c, false] 31))
 have hbv := (show Below w4 w4 V0 from hV0 ▸ AC w4 _)
 have hiv := (show V0.heap[w4.heap.size]? = some (.cells #[.slice a0A 2 a0c, false] 31) from hV0 ▸ AE w4 _)
 have d0 := AA hiv
 have HBv := Vw (HB4.out.trans (hbv.mono HB4.out.size))
 have hgd := BN [⟨3, 3, 5, false⟩, ⟨1, 3, 0, false⟩] false (by decide) (.slice a0A 2 a0c) V0 (HA0.out.below HBv.out)
 rw [show DE [⟨3, 3, 5, false⟩, ⟨1, 3, 0, false⟩] = true by kernel_rfl] at hgd
 have HGD := Vw hgd
 have HIv := Vw (AB hbv HI4.out)
 have HV0 := Vw hbv
 have HVE := Vw hV0
 clear hbv hiv hgd hV0
 go_wp2_with fail
 try rw [HVE.out]
 clear HVE
 go_wp2_with fail
 refine HGD.out.mono ?_
 rintro e w5 ⟨rfl, hb5⟩
 have HB5 := Vw (HBv.out.trans (hb5.mono HBv.out.size))
 have HI5 := Vw (AB hb5 HIv.out)
 have HK5 := Vw (HV0.out.trans (hb5.mono HV0.out.size))
 obtain ⟨x0, x1, x2, x3⟩ := HCX.out w5 HK5.out
 clear hb5 HBv HIv HV0 HGD d0
 go_wp2_with fail
 rw [rounds_succ]
 obtain ⟨V1, hV1⟩ := ex_ (w5.alloc (.cells #[.slice a1A 2 a1c, false] 31))
 have hbv := (show Below w5 w5 V1 from hV1 ▸ AC w5 _)
 have hiv := (show V1.heap[w5.heap.size]? = some (.cells #[.slice a1A 2 a1c, false] 31) from hV1 ▸ AE w5 _)
 have d1 := AA hiv
 have HBv := Vw (HB5.out.trans (hbv.mono HB5.out.size))
 have hgd := BN [⟨2, 2, 9, false⟩, ⟨4, 3, 1, false⟩] false (by decide) (.slice a1A 2 a1c) V1 (HA1.out.below HBv.out)
 rw [show DE [⟨2, 2, 9, false⟩, ⟨4, 3, 1, false⟩] = true by kernel_rfl] at hgd
 have HGD := Vw hgd
 have HIv := Vw (AB hbv HI5.out)
 have HV0 := Vw hbv
 have HVE := Vw hV1
 clear hbv hiv hgd hV1
 go_wp2_with fail
 try rw [HVE.out]
 clear HVE
 go_wp2_with fail
 refine HGD.out.mono ?_
 rintro e w6 ⟨rfl, hb5⟩
 have HB6 := Vw (HBv.out.trans (hb5.mono HBv.out.size))
 have HI6 := Vw (AB hb5 HIv.out)
 have HK6 := Vw ((HK5.out.trans (HV0.out.mono HK5.out.size)).trans (hb5.mono (Vx HK5.out.size HV0.out.size)))
 obtain ⟨x0, x1, x2, x3⟩ := HCX.out w6 HK6.out
 clear hb5 HBv HIv HV0 HGD d1
 go_wp2_with fail
 rw [rounds_succ]
 go_wp2_with fail
 clear x0 x1 x2 x3
 have HSB := Vw (show ∀ W : World, W.heap[w.heap.size]? = some (.cells KA 25) → (fun w' => w'.cell? w = some (I 2) ∧ w'.cell? ⟨w, 1, none⟩ = some (I 5) ∧ w'.cell? ⟨w, 2, none⟩ = some (I 1) ∧ w'.cell? ⟨w, 3, none⟩ = some (I 1) ∧ w'.cell? ⟨w, 4, none⟩ = some (I 2) ∧ w'.cell? ⟨w, 5, none⟩ = some (I 2) ∧ w'.cell? ⟨w, 6, none⟩ = some (I 2) ∧ w'.cell? ⟨w, 7, none⟩ = some (I 2) ∧ w'.cell? ⟨w, 8, none⟩ = some (I 1)) W from fun W b => ⟨AD b 0 rfl, AD b 1 rfl, AD b 2 rfl, AD b 3 rfl, AD b 4 rfl, AD b 5 rfl, AD b 6 rfl, AD b 7 rfl, AD b 8 rfl⟩)
 have hk6 := HSB.out w6.drew HI6.out
 have hbg := Vw (HBG.out _ w6.drew (HR.out.below HB6.out.drew))
 refine wp_region_held_drew (S := fun w' => w'.cell? w = some (I 2) ∧ w'.cell? ⟨w, 1, none⟩ = some (I 5) ∧ w'.cell? ⟨w, 2, none⟩ = some (I 1) ∧ w'.cell? ⟨w, 3, none⟩ = some (I 1) ∧ w'.cell? ⟨w, 4, none⟩ = some (I 2) ∧ w'.cell? ⟨w, 5, none⟩ = some (I 2) ∧ w'.cell? ⟨w, 6, none⟩ = some (I 2) ∧ w'.cell? ⟨w, 7, none⟩ = some (I 2) ∧ w'.cell? ⟨w, 8, none⟩ = some (I 1)) (by kernel_rfl) hk6 (fun hHeld => ?_)
 refine tk 0 52 ?_
 refine tk 1 53 ?_
 refine tk 3 55 ?_
 refine tk 4 56 ?_
 refine tc 2 fun K hK => ?_
 go_simp
 refine hbg.out.mono ?_
 rintro e w7 ⟨BS, rfl, hbs, hbo, hb7⟩
 have HBS := Vw hbs
 have HB7 := Vw (HB6.out.drew.trans (hb7.mono HB6.out.size))
 have HI7 := Vw (AB hb7 (show w6.drew.heap[w.heap.size]? = _ from HI6.out))
 have hk7 := HSB.out w7 HI7.out
 have htd := Vw (HTD.out _ w7 (HR.out.below HB7.out))
 clear hbs hbo hb7
 refine hK.out _ _ hk7 (fun hHeld => ?_)
 clear hK
 refine tc 5 fun K hK => ?_
 go_simp
 refine htd.out.mono ?_
 rintro e w8 ⟨sm, P0, P1, rfl, hsm, hp0, hp1, hsb, hb8⟩
 have HSM := Vw hsm
 have HP0 := Vw hp0
 have HP1 := Vw hp1
 have HBS8 := Vw (HBS.out.below hb8)
 have HB8 := Vw (HB7.out.trans (hb8.mono HB7.out.size))
 have HI8 := Vw (AB hb8 HI7.out)
 have hk8 := HSB.out w8 HI8.out
 clear hsm hp0 hp1 hsb hb8 htd
 refine hK.out _ _ hk8 (fun hHeld => ?_)
 clear hK
 refine tk 6 12 ?_
 refine tk 7 13 ?_
 refine td ?_
 clear hk6 hk7 hk8 hHeld hbg
 obtain ⟨bg, bo, bc, bcs, rfl, hbg, hbc, _, hbx⟩ := HBS8.out.lies (by decide)
 have HBX := Vw (show ∀ W : World, Below w8 w8 W → W.cell? ⟨bg, bo, none⟩ = some (I 0) ∧ W.cell? ⟨bg, bo + 1, none⟩ = some (I 0) ∧ W.cell? ⟨bg, bo + 2, none⟩ = some (I 1) ∧ W.cell? ⟨bg, bo + 3, none⟩ = some (I 0) from fun W h => ⟨AD (AB h hbg) _ (hbx 0 _ rfl), AD (AB h hbg) _ (hbx 1 _ rfl), AD (AB h hbg) _ (hbx 2 _ rfl), AD (AB h hbg) _ (hbx 3 _ rfl)⟩)
 have hbcI : (2 : Int) ≤ (bc : Int) := by omega
 clear hbg hbc hbx
 go_wp2_with fail
 obtain ⟨Q0, y1, y2, _⟩ := HP0.out
 obtain ⟨q0g, q0o, q0c, q0s, rfl, z1, z2, _, z3⟩ := y1.lies (by decide)
 obtain ⟨r0A, r0c, rfl⟩ := y2.form
 have HQ0 := Vw (show ∀ W : World, Below w8 w8 W → W.cell? ⟨q0g, q0o, none⟩ = some (.slice r0A 3 r0c) ∧ AH W 27 1 (.slice r0A 3 r0c) 3 (AX [5, 5, 101]) from fun W h => ⟨AD (AB h z1) _ (z3 0 _ rfl), y2.below h⟩)
 have q0I : (1 : Int) ≤ (q0c : Int) := by omega
 clear y1 y2 z1 z2 z3
 obtain ⟨Q1, y1, y2, _⟩ := HP1.out
 obtain ⟨q1g, q1o, q1c, q1s, rfl, z1, z2, _, z3⟩ := y1.lies (by decide)
 obtain ⟨r1A, r1c, rfl⟩ := y2.form
 have HQ1 := Vw (show ∀ W : World, Below w8 w8 W → W.cell? ⟨q1g, q1o, none⟩ = some (.slice r1A 2 r1c) ∧ AH W 27 1 (.slice r1A 2 r1c) 2 (AX [0, 101]) from fun W h => ⟨AD (AB h z1) _ (z3 0 _ rfl), y2.below h⟩)
 have q1I : (1 : Int) ≤ (q1c : Int) := by omega
 clear y1 y2 z1 z2 z3
 have HMx0 := Vw (HM.out.below HB8.out)
 have HKx0 := Vw (Below.refl w8.heap.size w8)
 generalize hw8 : w8 = Y0 at HMx0 HKx0 ⊢
 have HBx0 := Vw (show Below w w Y0 from hw8 ▸ HB8.out)
 have HKy0 := Vw (show Below w8 w8 Y0 from hw8 ▸ HKx0.out)
 clear hw8 HKx0
 refine wp_loop_rounds 3 ?_
 rw [rounds_succ]
 obtain ⟨x0, x1, x2, x3⟩ := HBX.out Y0 HKy0.out
 obtain ⟨V0, hV0⟩ := ex_ (Y0.alloc (.cells #[I 0, I 0] 64))
 have hbv := (show Below Y0 Y0 V0 from hV0 ▸ AC Y0 _)
 have hiv := (show V0.heap[Y0.heap.size]? = some (.cells #[I 0, I 0] 64) from hV0 ▸ AE Y0 _)
 have v0 := AA (show V0.drew.heap[Y0.heap.size]? = some (.cells #[I 0, I 0] 64) from hiv)
 have hkv := (HKy0.out.trans (hbv.mono HKy0.out.size)).drew
 have hbb := (HBx0.out.trans (hbv.mono HBx0.out.size)).drew
 have HVE := Vw hV0
 have HMv := Vw (show AH V0.drew 27 1 (.slice mA 8 mc) 8 (AX [0, 0, 0, 0, 0, 0, 0, 0]) from HMx0.out.below hbv.drew)
 clear hbv hiv hV0
 go_wp2_with fail
 try rw [HVE.out]
 clear HVE x0 x1 x2 x3
 go_region
 obtain ⟨U0, hU0⟩ := ex_ V0.drew
 rw [hU0] at HMv hkv hbb v0 ⊢
 have HKu := Vw hkv
 have HBu := Vw hbb
 clear hkv hbb v0 hU0
 obtain ⟨x0, x1, x2, x3, x4, x5⟩ := HTX.out U0 HBu.out
 go_wp2_with fail
 clear x0 x1 x2 x3 x4 x5
 have HSD := Vw (show ∀ W : World, Below U0 U0 W → (fun w' => w'.cell? w = some (I 2) ∧ w'.cell? ⟨w, 1, none⟩ = some (I 5) ∧ w'.cell? ⟨w, 2, none⟩ = some (I 1) ∧ w'.cell? ⟨w, 3, none⟩ = some (I 1) ∧ w'.cell? ⟨w, 4, none⟩ = some (I 2) ∧ w'.cell? ⟨w, 5, none⟩ = some (I 2) ∧ w'.cell? ⟨w, 6, none⟩ = some (I 2) ∧ w'.cell? ⟨w, 7, none⟩ = some (I 2) ∧ w'.cell? ⟨w, 8, none⟩ = some (I 1) ∧ w'.cell? ⟨tg, to, none⟩ = some (.slice (some ⟨g0, o0, none⟩) 1 c0) ∧ w'.cell? ⟨g0, o0, none⟩ = some (.slice a0A 2 a0c) ∧ w'.cell? ⟨g0, o0 + 1, none⟩ = some (.bool false)) W from fun W h => by
  have hk := HKu.out.trans (h.mono HKu.out.size)
  have hb := HBu.out.trans (h.mono HBu.out.size)
  have b := AB hk HI8.out
  obtain ⟨x0, x1, x2, x3, x4, x5⟩ := HTX.out W hb
  exact ⟨AD b 0 rfl, AD b 1 rfl, AD b 2 rfl, AD b 3 rfl, AD b 4 rfl, AD b 5 rfl, AD b 6 rfl, AD b 7 rfl, AD b 8 rfl, x0, x2, x3⟩)
 have hk0 := HSD.out U0.drew (Below.refl _ _).drew
 refine wp_region_held_drew (S := fun w' => w'.cell? w = some (I 2) ∧ w'.cell? ⟨w, 1, none⟩ = some (I 5) ∧ w'.cell? ⟨w, 2, none⟩ = some (I 1) ∧ w'.cell? ⟨w, 3, none⟩ = some (I 1) ∧ w'.cell? ⟨w, 4, none⟩ = some (I 2) ∧ w'.cell? ⟨w, 5, none⟩ = some (I 2) ∧ w'.cell? ⟨w, 6, none⟩ = some (I 2) ∧ w'.cell? ⟨w, 7, none⟩ = some (I 2) ∧ w'.cell? ⟨w, 8, none⟩ = some (I 1) ∧ w'.cell? ⟨tg, to, none⟩ = some (.slice (some ⟨g0, o0, none⟩) 1 c0) ∧ w'.cell? ⟨g0, o0, none⟩ = some (.slice a0A 2 a0c) ∧ w'.cell? ⟨g0, o0 + 1, none⟩ = some (.bool false)) (by kernel_rfl) hk0 (fun hHeld => ?_)
 refine tk 0 88 ?_
 refine tk 1 89 ?_
 refine tk 3 91 ?_
 refine tk 4 92 ?_
 refine tk 5 93 ?_
 refine tk 6 94 ?_
 refine tk 7 95 ?_
 refine tk 8 96 ?_
 refine tk 9 97 ?_
 refine tc 2 fun K hK => ?_
 go_simp
 refine (hro _).mono ?_
 rintro e p0 ⟨rfl, hb1⟩
 have HBp := Vw ((Below.refl U0.heap.size U0).drew.trans hb1)
 have hk1 := HSD.out p0 HBp.out
 have hbw := HBu.out.trans (HBp.out.mono HBu.out.size)
 have hrn := Vw (mrunX.1 (.slice mA 8 mc) (.slice a0A 2 a0c) p0 (HMv.out.below HBp.out) (HA0.out.below hbw))
 clear hb1 hbw
 refine hK.out _ _ hk1 (fun hHeld => ?_)
 clear hK
 refine tc 10 fun K hK => ?_
 go_simp
 refine hrn.out.mono ?_
 rintro e s0 ⟨O0, T0, rfl, y1, y2, y3, y4, hb1⟩
 have HBs := Vw (HBp.out.trans (hb1.mono HBp.out.size))
 have hk2 := HSD.out s0 HBs.out
 have HO := Vw y1
 have HT := Vw y2
 clear y1 y2 y3 y4 hb1 hrn
 refine hK.out _ _ hk2 (fun hHeld => ?_)
 clear hK
 refine tk 11 87 ?_
 refine tk 12 99 ?_
 refine tk 13 100 ?_
 refine tk 14 101 ?_
 refine tk 15 18 ?_
 refine tk 16 19 ?_
 refine tk 17 20 ?_
 refine td ?_
 clear hk0 hk1 hk2 hHeld HSD
 obtain ⟨tA0, tcap0, tB0, tD0, rfl, _, htl, _, _⟩ := HT.out.lies (by decide)
 have HKs := Vw (HKu.out.trans (HBs.out.mono HKu.out.size))
 have HBSs := Vw (HBu.out.trans (HBs.out.mono HBu.out.size))
 have hms := HSM.out.kept (BR HKs.out) (by simp)
 have hkw : (Lit.int .i64 0).wf = true := by decide
 have hlk : (Instr.lookup 127 (.map (some sm)) (.int .i64 0) false).run prog s0 = .ok (.slice (some ⟨q0g, q0o, none⟩) 1 q0c) s0 := by
  obtain ⟨v, ps, hrun, hv⟩ := hms.lookup Ed underlying127 (JM s0) (zd := .held (.slice none 0 0)) (zp := []) rfl (keyOf_int_mk underlying3 hkw)
  rw [Gp hv (by rfl)] at hrun
  exact hrun
 obtain ⟨z1, z2⟩ := HQ0.out s0 HKs.out
 have heq := Vw (Hn [5, 5, 101] (by decide) (.slice r0A 3 r0c) (.slice (some ⟨tA0, tcap0, none⟩) 3 tB0) s0 z2 HT.out)
 have htlI : (3 : Int) ≤ (tB0 : Int) := by omega
 clear z2 hms hkw htl
 go_wp2_with fail
 refine heq.out.mono ?_
 rintro e Y1 ⟨rfl, hb9⟩
 have HKy1 := Vw (HKs.out.trans (hb9.mono HKs.out.size))
 have HBx1 := Vw (HBSs.out.trans (hb9.mono HBSs.out.size))
 have HMx1 := Vw (HO.out.below hb9)
 obtain ⟨oA1, oc1, ho1⟩ := HO.out.form
 subst ho1
 clear z1 hlk hb9 heq HBs HKs HBSs HBp HKu HBu HMv HO HT
 go_wp2_with fail
 rw [rounds_succ]
 obtain ⟨x0, x1, x2, x3⟩ := HBX.out Y1 HKy1.out
 obtain ⟨V1, hV1⟩ := ex_ (Y1.alloc (.cells #[I 1, I 0] 64))
 have hbv := (show Below Y1 Y1 V1 from hV1 ▸ AC Y1 _)
 have hiv := (show V1.heap[Y1.heap.size]? = some (.cells #[I 1, I 0] 64) from hV1 ▸ AE Y1 _)
 have v1 := AA (show V1.drew.heap[Y1.heap.size]? = some (.cells #[I 1, I 0] 64) from hiv)
 have hkv := (HKy1.out.trans (hbv.mono HKy1.out.size)).drew
 have hbb := (HBx1.out.trans (hbv.mono HBx1.out.size)).drew
 have HVE := Vw hV1
 have HMv := Vw (show AH V1.drew 27 1 (.slice oA1 8 oc1) 8 (AX [0, 0, 0, 5, 0, 0, 0, 0]) from HMx1.out.below hbv.drew)
 clear hbv hiv hV1
 go_wp2_with fail
 try rw [HVE.out]
 clear HVE x0 x1 x2 x3
 go_region
 obtain ⟨U1, hU1⟩ := ex_ V1.drew
 rw [hU1] at HMv hkv hbb v1 ⊢
 have HKu := Vw hkv
 have HBu := Vw hbb
 clear hkv hbb v1 hU1
 obtain ⟨x0, x1, x2, x3, x4, x5⟩ := HTX.out U1 HBu.out
 go_wp2_with fail
 clear x0 x1 x2 x3 x4 x5
 have HSD := Vw (show ∀ W : World, Below U1 U1 W → (fun w' => w'.cell? w = some (I 2) ∧ w'.cell? ⟨w, 1, none⟩ = some (I 5) ∧ w'.cell? ⟨w, 2, none⟩ = some (I 1) ∧ w'.cell? ⟨w, 3, none⟩ = some (I 1) ∧ w'.cell? ⟨w, 4, none⟩ = some (I 2) ∧ w'.cell? ⟨w, 5, none⟩ = some (I 2) ∧ w'.cell? ⟨w, 6, none⟩ = some (I 2) ∧ w'.cell? ⟨w, 7, none⟩ = some (I 2) ∧ w'.cell? ⟨w, 8, none⟩ = some (I 1) ∧ w'.cell? ⟨tg, to + 1, none⟩ = some (.slice (some ⟨g1, o1, none⟩) 1 c1) ∧ w'.cell? ⟨g1, o1, none⟩ = some (.slice a1A 2 a1c) ∧ w'.cell? ⟨g1, o1 + 1, none⟩ = some (.bool false)) W from fun W h => by
  have hk := HKu.out.trans (h.mono HKu.out.size)
  have hb := HBu.out.trans (h.mono HBu.out.size)
  have b := AB hk HI8.out
  obtain ⟨x0, x1, x2, x3, x4, x5⟩ := HTX.out W hb
  exact ⟨AD b 0 rfl, AD b 1 rfl, AD b 2 rfl, AD b 3 rfl, AD b 4 rfl, AD b 5 rfl, AD b 6 rfl, AD b 7 rfl, AD b 8 rfl, x1, x4, x5⟩)
 have hk0 := HSD.out U1.drew (Below.refl _ _).drew
 refine wp_region_held_drew (S := fun w' => w'.cell? w = some (I 2) ∧ w'.cell? ⟨w, 1, none⟩ = some (I 5) ∧ w'.cell? ⟨w, 2, none⟩ = some (I 1) ∧ w'.cell? ⟨w, 3, none⟩ = some (I 1) ∧ w'.cell? ⟨w, 4, none⟩ = some (I 2) ∧ w'.cell? ⟨w, 5, none⟩ = some (I 2) ∧ w'.cell? ⟨w, 6, none⟩ = some (I 2) ∧ w'.cell? ⟨w, 7, none⟩ = some (I 2) ∧ w'.cell? ⟨w, 8, none⟩ = some (I 1) ∧ w'.cell? ⟨tg, to + 1, none⟩ = some (.slice (some ⟨g1, o1, none⟩) 1 c1) ∧ w'.cell? ⟨g1, o1, none⟩ = some (.slice a1A 2 a1c) ∧ w'.cell? ⟨g1, o1 + 1, none⟩ = some (.bool false)) (by kernel_rfl) hk0 (fun hHeld => ?_)
 refine tk 0 88 ?_
 refine tk 1 89 ?_
 refine tk 3 91 ?_
 refine tk 4 92 ?_
 refine tk 5 93 ?_
 refine tk 6 94 ?_
 refine tk 7 95 ?_
 refine tk 8 96 ?_
 refine tk 9 97 ?_
 refine tc 2 fun K hK => ?_
 go_simp
 refine (hro _).mono ?_
 rintro e p1 ⟨rfl, hb1⟩
 have HBp := Vw ((Below.refl U1.heap.size U1).drew.trans hb1)
 have hk1 := HSD.out p1 HBp.out
 have hbw := HBu.out.trans (HBp.out.mono HBu.out.size)
 have hrn := Vw (mrunX.2 (.slice oA1 8 oc1) (.slice a1A 2 a1c) p1 (HMv.out.below HBp.out) (HA1.out.below hbw))
 clear hb1 hbw
 refine hK.out _ _ hk1 (fun hHeld => ?_)
 clear hK
 refine tc 10 fun K hK => ?_
 go_simp
 refine hrn.out.mono ?_
 rintro e s1 ⟨O1, T1, rfl, y1, y2, y3, y4, hb1⟩
 have HBs := Vw (HBp.out.trans (hb1.mono HBp.out.size))
 have hk2 := HSD.out s1 HBs.out
 have HO := Vw y1
 have HT := Vw y2
 clear y1 y2 y3 y4 hb1 hrn
 refine hK.out _ _ hk2 (fun hHeld => ?_)
 clear hK
 refine tk 11 87 ?_
 refine tk 12 99 ?_
 refine tk 13 100 ?_
 refine tk 14 101 ?_
 refine tk 15 18 ?_
 refine tk 16 19 ?_
 refine tk 17 20 ?_
 refine td ?_
 clear hk0 hk1 hk2 hHeld HSD
 obtain ⟨tA1, tcap1, tB1, tD1, rfl, _, htl, _, _⟩ := HT.out.lies (by decide)
 have HKs := Vw (HKu.out.trans (HBs.out.mono HKu.out.size))
 have HBSs := Vw (HBu.out.trans (HBs.out.mono HBu.out.size))
 have hms := HSM.out.kept (BR HKs.out) (by simp)
 have hkw : (Lit.int .i64 1).wf = true := by decide
 have hlk : (Instr.lookup 127 (.map (some sm)) (.int .i64 1) false).run prog s1 = .ok (.slice (some ⟨q1g, q1o, none⟩) 1 q1c) s1 := by
  obtain ⟨v, ps, hrun, hv⟩ := hms.lookup Ed underlying127 (JM s1) (zd := .held (.slice none 0 0)) (zp := []) rfl (keyOf_int_mk underlying3 hkw)
  rw [Gp hv (by rfl)] at hrun
  exact hrun
 obtain ⟨z1, z2⟩ := HQ1.out s1 HKs.out
 have heq := Vw (Hn [0, 101] (by decide) (.slice r1A 2 r1c) (.slice (some ⟨tA1, tcap1, none⟩) 2 tB1) s1 z2 HT.out)
 have htlI : (2 : Int) ≤ (tB1 : Int) := by omega
 clear z2 hms hkw htl
 go_wp2_with fail
 refine heq.out.mono ?_
 rintro e Y2 ⟨rfl, hb9⟩
 have HKy2 := Vw (HKs.out.trans (hb9.mono HKs.out.size))
 have HBx2 := Vw (HBSs.out.trans (hb9.mono HBSs.out.size))
 have HMx2 := Vw (HO.out.below hb9)
 obtain ⟨oA2, oc2, ho2⟩ := HO.out.form
 subst ho2
 clear z1 hlk hb9 heq HBs HKs HBSs HBp HKu HBu HMv HO HT
 go_wp2_with fail
 rw [rounds_succ]
 go_wp2_with fail
 go_ret2
 exact ⟨rfl, HBx2.out⟩
end Go.Proofs.YtkoplblbeapfgaaGreatDoor
