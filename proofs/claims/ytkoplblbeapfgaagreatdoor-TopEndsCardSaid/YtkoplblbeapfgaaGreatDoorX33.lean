/-
Parts of the walk of TopEnds. Conditions stand in each statement.
-/
import Derived.Test.YtkoplblbeapfgaaGreatDoorX29
namespace Go.Proofs.YtkoplblbeapfgaaGreatDoor
open Go.RowKit
open Tryz
set_option linter.all false
set_option maxRecDepth 100000
set_option maxHeartbeats 8000000
theorem It (B : BS) (ws : List Int) : (CI B ws).l.length ≤ B.l.length + 8 := by
 unfold CI
 split <;> simp [BS.add, AO]
theorem LA (B : BS) (ws : List Int) : (CI B ws).marks = B.marks := by
 unfold CI
 split <;> rfl
theorem LB (B : BS) (ws : List Int) : (CI B ws).jumps = B.jumps := by
 unfold CI
 split <;> rfl
theorem Ix (ops : List OpI) (ab : Bool) (w0 : World) (OPS : Value) (hO : AH w0 33 3 OPS ops.length (BI ops)) (h0 : 0 < ops.length) (hops : ∀ o ∈ ops, IL o = true) (hlen : ops.length ≤ 100) (hne : ab = true ∨ Ay ops ≠ []) : Jz w0 OPS ⟨ops, ab⟩ := by
 unfold Jz
 dsimp only
 intro Av bb wb B f k e w hw0 hAv hA hwb hl hm hj hB hW
 obtain ⟨og, oo, oc, ocs, rfl, hog, hoc, _, _⟩ := hO.lies h0
 have hlk := NX
 have hbk := Ju
 have hcm := MY
 have hwo := DI
 simp only [Ai] at hlk hbk hcm hwo
 obtain ⟨W1, hE, hb1, hI⟩ := alloc_new w (.cells #[.slice (some ⟨og, oo, none⟩) ops.length oc, ab] 31)
 obtain ⟨A2, hA2⟩ : ∃ A : Nat → Prop, (fun i => (Av i ∨ i = wb) ∨ i = w.heap.size) = A := ⟨_, rfl⟩
 have a2f : ∀ i, A2 i → (Av i ∨ i = wb) ∨ i = w.heap.size := fun i h => by rw [← hA2] at h; exact h
 have A2A := Vw (show ∀ i, Av i → A2 i from fun i h => by rw [← hA2]; exact .inl (.inl h))
 have A2W := Vw (show A2 wb by rw [← hA2]; exact .inl (.inr rfl))
 have A2X := Vw (show A2 w.heap.size by rw [← hA2]; exact .inr rfl)
 have HW1 := Vw (show Bw W1 wb bb f k e from AB hb1 hW)
 have HI := Vw hI
 have HB1 := Vw hb1
 have G := Vw (show At A2 W1 bb B W1 from ⟨by rw [← hA2, ← hE]; exact hB.guard _, Pres.refl _ _⟩)
 have HA := Vw (show ∀ i, A2 i → i < W1.heap.size from fun i h => by
  rcases a2f i h with (h | rfl) | rfl
  · exact Vy (hA i h) hb1.size
  · exact Vy (AF hW) hb1.size
  · exact AF hI)
 have hwlt := AF hW
 have HWB := Vw (show ¬ (Av wb ∨ wb = w.heap.size) from fun h => h.elim hwb (fun e => by omega))
 have HRO := Vw (show ∀ w', Pres Av w w' → AH w' 33 3 (.slice (some ⟨og, oo, none⟩) ops.length oc) ops.length (BI ops) from fun w' hp => (hO.below hw0).kept fun i hi => hp.block i ((hO.below hw0).lt i hi) (hAv i (hO.lt i hi)))
 have HT := Vw (Sa B hl hm hj)
 have HBn := Vw (WA hl (WA hm hj))
 have HOPS := Vw hops
 have HLEN := Vw hlen
 have HNE := Vw hne
 obtain ⟨m0, hm0⟩ := ex_ B.marks.length
 obtain ⟨m1, hm1⟩ := ex_ (m0 + 1)
 obtain ⟨m2, hm2⟩ := ex_ (m1 + 1)
 have HM := Vw (WA hm0 (WA hm1 hm2))
 rw [hm0] at HT
 have hocI : (ops.length : Int) ≤ (oc : Int) := by omega
 have h0I : (0 : Int) < (ops.length : Int) := by omega
 have HS1 := Vw (show ∀ (w' : World) (f k e : Nat), Bw w' wb bb f k e → (fun w' => w'.cell? wb = some (.pointer (some bb))) w' from fun w' f k e h => AD h 0 rfl)
 have HS1' := Vw (show ∀ (w' : World) (f k e : Value), w'.heap[wb]? = some (.cells #[bb, I 2, I 5, I 1, I 1, I 2, I 2, I 2, I 2, I 1, f, k, e] 161) → (fun w' => w'.cell? wb = some (.pointer (some bb))) w' from fun w' f k e h => AD h 0 rfl)
 have HS2 := Vw (show ∀ (w' : World) (f k e : Nat), Bw w' wb bb f k e → (fun w' => w'.cell? wb = some (.pointer (some bb)) ∧ w'.cell? ⟨wb, 1, none⟩ = some (I 2) ∧ w'.cell? ⟨wb, 2, none⟩ = some (I 5) ∧ w'.cell? ⟨wb, 3, none⟩ = some (I 1) ∧ w'.cell? ⟨wb, 4, none⟩ = some (I 1) ∧ w'.cell? ⟨wb, 5, none⟩ = some (I 2) ∧ w'.cell? ⟨wb, 6, none⟩ = some (I 2) ∧ w'.cell? ⟨wb, 7, none⟩ = some (I 2) ∧ w'.cell? ⟨wb, 8, none⟩ = some (I 2) ∧ w'.cell? ⟨wb, 9, none⟩ = some (I 1)) w' from fun w' f k e h => ⟨AD h 0 rfl, AD h 1 rfl, AD h 2 rfl, AD h 3 rfl, AD h 4 rfl, AD h 5 rfl, AD h 6 rfl, AD h 7 rfl, AD h 8 rfl, AD h 9 rfl⟩)
 have hk0 := HS1.out W1.drew f k e HW1.out
 have c1 := AA hI
 have c2 := HW1.out.cells
 clear hO h0 hops hlen hne hw0 hAv hA hwb hl hm hj hB hW hog hoc hI hb1 a2f hA2 hwlt hm0 hm1 hm2
 go_enter func61, ntmps61
 go_wp2_with fail
 clear hE c1 c2
 refine wp_region_held_drew (S := fun w' => w'.cell? wb = some (.pointer (some bb))) (by kernel_rfl) hk0 (fun hHeld => ?_)
 refine tk 0 7 ?_
 refine tk 1 8 ?_
 refine tk 2 9 ?_
 refine tk 3 10 ?_
 refine tk 4 11 ?_
 refine tk 5 12 ?_
 refine tk 6 13 ?_
 refine tk 8 15 ?_
 refine tk 9 16 ?_
 refine tk 10 17 ?_
 refine tk 11 18 ?_
 refine tk 13 20 ?_
 refine tk 14 21 ?_
 refine tk 15 22 ?_
 refine tk 16 23 ?_
 refine tc 7 fun K hK => ?_
 go_simp
 replace G := Vw G.out.drew
 refine (Gk A2 bb B m0 (HM.out.1) _ G.out.1 (G.out.in HA.out) (by have := HM.out; have := HBn.out; omega)).mono ?_
 rintro e1 w5 ⟨rfl, g1, g2⟩
 replace G := Vw (G.out.step (B' := B.mark) g1 g2)
 clear g1 g2
 have hkw5 := HS1.out w5 _ _ _ (HW1.out.pres A2W.out G.out.2)
 refine hK.out _ _ hkw5 (fun hHeld => ?_)
 clear hK
 refine tc 12 fun K hK => ?_
 go_simp
 refine (Gk A2 bb B.mark m1 (by have := HM.out; simp [BS.mark]; omega) _ G.out.1 (G.out.in HA.out) (by have := HM.out; have := HBn.out; omega)).mono ?_
 rintro e1 w6 ⟨rfl, g1, g2⟩
 replace G := Vw (G.out.step (B' := B.mark.mark) g1 g2)
 clear g1 g2
 have hkw6 := HS1.out w6 _ _ _ (HW1.out.pres A2W.out G.out.2)
 refine hK.out _ _ hkw6 (fun hHeld => ?_)
 clear hK
 refine tc 17 fun K hK => ?_
 go_simp
 refine (Gk A2 bb B.mark.mark m2 (by have := HM.out; simp [BS.mark]; omega) _ G.out.1 (G.out.in HA.out) (by have := HM.out; have := HBn.out; omega)).mono ?_
 rintro e1 w7 ⟨rfl, g1, g2⟩
 replace G := Vw (G.out.step (B' := B.mark.mark.mark) g1 g2)
 clear g1 g2
 have hkw7 := HS1.out w7 _ _ _ (HW1.out.pres A2W.out G.out.2)
 have hw7 := HW1.out.pres A2W.out G.out.2
 have c7 := hw7.cells
 have f7 := AJ hw7
 have hs1 := HS1'.out (w7.setCell ⟨wb, 10, none⟩ (I m0)) _ _ _ (AI hw7 10 _)
 have hs2 := HS1'.out ((w7.setCell ⟨wb, 10, none⟩ (I m0)).setCell ⟨wb, 11, none⟩ (I m1)) _ _ _ (AI (AI hw7 10 _) 11 _)
 have hs3 := HS1'.out (((w7.setCell ⟨wb, 10, none⟩ (I m0)).setCell ⟨wb, 11, none⟩ (I m1)).setCell ⟨wb, 12, none⟩ (I m2)) _ _ _ (AI (AI (AI hw7 10 _) 11 _) 12 _)
 refine hK.out _ _ hkw7 (fun hHeld => ?_)
 clear hK
 refine tk 18 25 ?_
 refine tk 19 26 ?_
 refine tc 20 fun K hK => ?_
 go_simp
 refine hK.out _ _ hs1 (fun hHeld => ?_)
 clear hK
 refine tk 21 27 ?_
 refine tk 22 28 ?_
 refine tc 23 fun K hK => ?_
 go_simp
 refine hK.out _ _ hs2 (fun hHeld => ?_)
 clear hK
 refine tk 24 29 ?_
 refine tk 25 30 ?_
 refine tc 26 fun K hK => ?_
 go_simp
 refine hK.out _ _ hs3 (fun hHeld => ?_)
 clear hK
 refine td ?_
 generalize hW8 : World.setCell _ ⟨wb, 12, none⟩ _ = W8
 have h8 : Bw W8 wb bb m0 m1 m2 := by rw [← hW8]; exact AI (AI (AI hw7 10 _) 11 _) 12 _
 have g8 : Ap A2 W8 bb B.mark.mark.mark := by rw [← hW8]; exact ((G.out.1.setW A2W.out _).setW A2W.out _).setW A2W.out _
 have hp8 : Pres (fun i => Av i ∨ i = w.heap.size) W1 W8 := by rw [← hW8]; exact (((G.out.2.mono fun i _ hi => hi.elim (A2A.out i) (fun e => e ▸ A2X.out)).setCell HWB.out _).setCell HWB.out _).setCell HWB.out _
 have HP8 := Vw (show Pres Av w W8 from (Pres.of_below HB1.out).trans (hp8.mono fun i _ hi => .inl hi))
 have HI8 := Vw ((hp8.block _ (AF HI.out) (.inr rfl)).trans HI.out)
 have HA8 := Vw (show ∀ i, A2 i → i < W8.heap.size from fun i h => Vy (HA.out i h) hp8.size)
 have HW8 := Vw h8
 replace G := Vw (show At A2 W8 bb B.mark.mark.mark W8 from ⟨g8, Pres.refl _ _⟩)
 have hk8 := HS2.out W8.drew _ _ _ h8
 have c8 := h8.cells
 clear hW8 g8 hp8 h8 hw7 c7 f7 hs1 hs2 hs3 hkw5 hkw6 hkw7 hk0 HA HWB HW1 HI HB1 HS1 HS1' hHeld
 go_wp2_with fail
 refine wp_region_held_drew (S := fun w' => w'.cell? wb = some (.pointer (some bb)) ∧ w'.cell? ⟨wb, 1, none⟩ = some (I 2) ∧ w'.cell? ⟨wb, 2, none⟩ = some (I 5) ∧ w'.cell? ⟨wb, 3, none⟩ = some (I 1) ∧ w'.cell? ⟨wb, 4, none⟩ = some (I 1) ∧ w'.cell? ⟨wb, 5, none⟩ = some (I 2) ∧ w'.cell? ⟨wb, 6, none⟩ = some (I 2) ∧ w'.cell? ⟨wb, 7, none⟩ = some (I 2) ∧ w'.cell? ⟨wb, 8, none⟩ = some (I 2) ∧ w'.cell? ⟨wb, 9, none⟩ = some (I 1)) (by kernel_rfl) hk8 (fun hHeld => ?_)
 refine tk 0 31 ?_
 refine tk 1 32 ?_
 refine tk 2 33 ?_
 refine tk 3 34 ?_
 refine tk 4 35 ?_
 refine tk 5 36 ?_
 refine tk 6 37 ?_
 refine tk 7 38 ?_
 refine tc 8 fun K hK => ?_
 go_simp
 refine (hlk _).mono ?_
 rintro e1 w9 ⟨rfl, hb9⟩
 replace G := Vw (G.out.drew.below hb9)
 clear hb9
 have hk9 := HS2.out w9 _ _ _ (HW8.out.pres A2W.out G.out.2)
 refine hK.out _ _ hk9 (fun hHeld => ?_)
 clear hK
 refine tc 9 fun K hK => ?_
 go_simp
 refine (ON A2 bb B.mark.mark.mark 0 _ G.out.1 (G.out.in HA8.out) (by decide) (by decide) (by have := HBn.out; simp [BS.mark]; omega) (by have := HBn.out; simp [BS.mark]; omega) (by have := HBn.out; simp [BS.mark]; omega)).mono ?_
 rintro e1 w10 ⟨rfl, g1, g2⟩
 replace G := Vw (G.out.step (B' := Ft B.mark.mark.mark 0) g1 g2)
 clear g1 g2
 have hk10 := HS2.out w10 _ _ _ (HW8.out.pres A2W.out G.out.2)
 refine hK.out _ _ hk10 (fun hHeld => ?_)
 clear hK
 refine td ?_
 have c10 := (HW8.out.pres A2W.out G.out.2).cells
 clear hk8 hk9 hk10 c8 hHeld HS2
 go_wp2_with fail
 refine (Np A2 bb (Ft B.mark.mark.mark 0) _ G.out.1 (G.out.in HA8.out) (by have := HBn.out; simp [Ft, BS.mark, BS.here, BS.add, BS.jump]; omega)).mono ?_
 rintro e1 w11 ⟨rfl, g1, g2⟩
 replace G := Vw (G.out.step (B' := Iz B) g1 g2)
 clear g1 g2 c10
 have c11 := (HW8.out.pres A2W.out G.out.2).cells
 have d11 := AA (G.out.heap A2X.out HI8.out)
 obtain ⟨B4, hB4⟩ := ex_ (Iz B)
 rw [hB4] at G HT
 have HB4 := Vw hB4
 clear hB4
 go_wp2_with fail
 clear c11 d11
 go_loopw [4, 49] (fun s i W => Pf A2 bb m0 m1 B4 ops W8 s i W) (fun s i W => ops.length - (intOf i).toNat)
 case atStart => exact ⟨0, Nat.zero_le _, rfl, by simpa [Ay] using AH.nil _ 3 1, G.out.1.weaken (fun i hi => hi.elim id (by simp [Value.ownBlock])), G.out.2, by simp [Value.ownBlock]⟩
 case round =>
  obtain ⟨j, hj, rfl, hrow, hbl, hpr, hout⟩ := hrel
  obtain ⟨SA, scap, rfl⟩ := hrow.form
  obtain ⟨nn, hnn⟩ : ∃ n, (Ay (ops.take j)).length = n := ⟨_, rfl⟩
  rw [hnn] at hrow hbl hout
  rw [hnn]
  have HROW := Vw hrow
  have HROW0 := Vw (show AH wr 3 1 (.slice SA nn scap) (Ay (ops.take j)).length ((Ay (ops.take j)).map (I ·)) from by rw [hnn]; exact hrow)
  have HBL := Vw hbl
  have HPR := Vw hpr
  have HOUT := Vw hout
  have HWr := Vw (show Bw wr wb bb m0 m1 m2 from HW8.out.pres A2W.out hpr)
  have HNN := Vw (show nn ≤ 100 from by have := JO (ops.take j); rw [List.length_take] at this; have := HLEN.out; omega)
  have HN0 := Vw hnn
  have HJ := Vw hj
  clear hrow hbl hpr hout hnn hj
  by_cases hlt : j < ops.length
  · obtain ⟨o, ho⟩ : ∃ o, ops[j]? = some o := ⟨_, List.getElem?_eq_getElem hlt⟩
    have hof := Lk (HOPS.out o (List.mem_of_getElem? ho))
    obtain ⟨q, x, v, bad⟩ := o
    obtain ⟨hbd, hx0, hq1, hq2, hv0, hv1⟩ := hof
    dsimp only at hbd hx0 hq1 hq2 hv0 hv1
    obtain ⟨y, rfl⟩ : ∃ y : Nat, x = y := ⟨x.toNat, by omega⟩
    obtain ⟨og', oo', oc', hv, _, hcell⟩ := FY (HRO.out wr (HP8.out.trans (HPR.out.mono fun i _ hi => A2A.out i hi))) ho
    cases hv
    have e0 : wr.cell? ⟨og, oo + j * 3, none⟩ = I q := hcell 0 _ rfl
    have e1' : wr.cell? ⟨og, oo + j * 3 + 1, none⟩ = I (y : Int) := hcell 1 _ rfl
    have e2 : wr.cell? ⟨og, oo + j * 3 + 2, none⟩ = U v := hcell 2 _ rfl
    have hj0 : (0 : Int) ≤ (j : Int) := by omega
    have hj1 : (j : Int) < (ops.length : Int) := by omega
    have hj2 : (j : Int) + 1 ≤ 100 := by have := HLEN.out; omega
    have HO := Vw ho
    obtain ⟨W10, hE10, hb10, hI10⟩ := alloc_new wr (.cells #[I q, I (y : Int), v] 33)
    obtain ⟨Bj, hBj⟩ := ex_ (Ec m0 m1 B4 (ops.take j))
    have hft : TxFit 7000 Bj m0 := hBj ▸ (HT.out.ops (KY m0 m1 (ops.take j) B4)).mono (by rw [List.length_take]; have := HLEN.out; omega)
    obtain ⟨A4, hA4⟩ : ∃ A : Nat → Prop, (fun i => (A2 i ∨ (Value.slice SA nn scap).ownBlock = some i) ∨ i = wr.heap.size) = A := ⟨_, rfl⟩
    have A4W := Vw (show A4 wb by rw [← hA4]; exact .inl (.inl A2W.out))
    have A4X := Vw (show A4 wr.heap.size by rw [← hA4]; exact .inr rfl)
    have A4S := Vw (show ∀ i, (Value.slice SA nn scap).ownBlock = some i → A4 i from fun i h => by rw [← hA4]; exact .inl (.inr h))
    have HA10 := Vw (show ∀ i, A4 i → i < W10.heap.size from fun i h => by
     rw [← hA4] at h
     rcases h with (h | h) | rfl
     · exact Vy (Vy (HA8.out i h) HPR.out.size) hb10.size
     · exact Vy (HROW.out.lt i h) hb10.size
     · exact AF hI10)
    replace G := Vw (show At A4 W10 bb Bj W10 from ⟨by rw [← hA4, ← hE10, ← hBj]; exact HBL.out.guard _, Pres.refl _ _⟩)
    have HW10 := Vw (show Bw W10 wb bb m0 m1 m2 from AB hb10 HWr.out)
    have HI10 := Vw hI10
    have HB10 := Vw hb10
    have HX := Vw (WA hBj hA4)
    have HFT := Vw hft
    have HV := Vw (WA hv0 hv1)
    have HS8 := Vw (show ∀ w', Pres A4 W10 w' → (fun w' => w'.cell? wr = some (I q) ∧ w'.cell? ⟨wr, 1, none⟩ = some (I (y : Int)) ∧ w'.cell? ⟨wr, 2, none⟩ = some (U v) ∧ w'.cell? ⟨wb, 1, none⟩ = some (I 2) ∧ w'.cell? ⟨wb, 2, none⟩ = some (I 5) ∧ w'.cell? ⟨wb, 3, none⟩ = some (I 1) ∧ w'.cell? ⟨wb, 4, none⟩ = some (I 1) ∧ w'.cell? ⟨wb, 5, none⟩ = some (I 2) ∧ w'.cell? ⟨wb, 6, none⟩ = some (I 2) ∧ w'.cell? ⟨wb, 7, none⟩ = some (I 2) ∧ w'.cell? ⟨wb, 8, none⟩ = some (I 2) ∧ w'.cell? ⟨wb, 9, none⟩ = some (I 1)) w' from fun w' hp => by
     have a := HW10.out.pres A4W.out hp
     have b := (hp.block _ (AF hI10) A4X.out).trans hI10
     exact ⟨AD b 0 rfl, AD b 1 rfl, AD b 2 rfl, AD a 1 rfl, AD a 2 rfl, AD a 3 rfl, AD a 4 rfl, AD a 5 rfl, AD a 6 rfl, AD a 7 rfl, AD a 8 rfl, AD a 9 rfl⟩)
    have hk8 := HS8.out W10.drew (Pres.refl A4 W10).drew
    have c10 := AA hI10
    have c11 := HW10.out.cells
    have hy0 : (0 : Int) ≤ (y : Int) := by omega
    clear hb10 hI10 ho hcell hBj hft hA4 hv0 hv1 hlt hx0
    go_wp2_with fail
    clear e0 e1' e2 hE10 c10 c11
    cases bad
    · have hy : y < 8 := by have := of_decide_eq_false hbd.symm; omega
      have hyI : (y : Int) < 8 := by omega
      clear hbd
      refine wp_region_held_drew (S := fun w' => w'.cell? wr = some (I q) ∧ w'.cell? ⟨wr, 1, none⟩ = some (I (y : Int)) ∧ w'.cell? ⟨wr, 2, none⟩ = some (U v) ∧ w'.cell? ⟨wb, 1, none⟩ = some (I 2) ∧ w'.cell? ⟨wb, 2, none⟩ = some (I 5) ∧ w'.cell? ⟨wb, 3, none⟩ = some (I 1) ∧ w'.cell? ⟨wb, 4, none⟩ = some (I 1) ∧ w'.cell? ⟨wb, 5, none⟩ = some (I 2) ∧ w'.cell? ⟨wb, 6, none⟩ = some (I 2) ∧ w'.cell? ⟨wb, 7, none⟩ = some (I 2) ∧ w'.cell? ⟨wb, 8, none⟩ = some (I 2) ∧ w'.cell? ⟨wb, 9, none⟩ = some (I 1)) (by kernel_rfl) hk8 (fun hHeld => ?_)
      refine tk 0 53 ?_
      refine tk 1 54 ?_
      refine tk 2 55 (v := .bool false) ?_
      refine tk 3 56 (v := .bool false) ?_
      refine tk 4 57 ?_
      refine tk 5 58 ?_
      refine tk 6 59 ?_
      refine tk 7 60 ?_
      refine tk 8 61 ?_
      refine tk 9 62 ?_
      refine tc 10 fun K hK => ?_
      go_simp
      refine (hwo _).mono ?_
      rintro e1 w12 ⟨rfl, hb12⟩
      replace G := Vw (G.out.drew.below hb12)
      clear hb12
      have hk12 := HS8.out w12 G.out.2
      refine hK.out _ _ hk12 (fun hHeld => ?_)
      clear hK
      refine tk 11 64 (v := .bool false) ?_
      refine tk 12 65 (v := .bool false) ?_
      refine td ?_
      clear hk8 hHeld
      have d12 := AA (G.out.heap A4X.out HI10.out)
      go_wp2_with fail
      clear d12
      have hq : q = 1 ∨ q = 2 ∨ q = 3 ∨ q = 4 := by omega
      clear hq1 hq2
      rcases hq with rfl | rfl | rfl | rfl
      · have hk13 := HS8.out w12.drew G.out.2.drew
        have hix : ∀ w : World, (Instr.index 227 (.agg #[.nilFunc, .func (.func 153) #[] #[], .func (.func 154) #[] #[], .func (.func 155) #[] #[], .func (.func 156) #[] #[]]) (I 1)).run prog w = .ok (.func (.func 153) #[] #[]) w := fun w => by kernel_rfl
        refine wp_region_held_drew (S := fun w' => w'.cell? wr = some (I 1) ∧ w'.cell? ⟨wr, 1, none⟩ = some (I (y : Int)) ∧ w'.cell? ⟨wr, 2, none⟩ = some (U v) ∧ w'.cell? ⟨wb, 1, none⟩ = some (I 2) ∧ w'.cell? ⟨wb, 2, none⟩ = some (I 5) ∧ w'.cell? ⟨wb, 3, none⟩ = some (I 1) ∧ w'.cell? ⟨wb, 4, none⟩ = some (I 1) ∧ w'.cell? ⟨wb, 5, none⟩ = some (I 2) ∧ w'.cell? ⟨wb, 6, none⟩ = some (I 2) ∧ w'.cell? ⟨wb, 7, none⟩ = some (I 2) ∧ w'.cell? ⟨wb, 8, none⟩ = some (I 2) ∧ w'.cell? ⟨wb, 9, none⟩ = some (I 1)) (by kernel_rfl) hk13 (fun hHeld => ?_)
        refine tk 1 75 ?_
        refine tk 2 76 ?_
        refine tk 4 78 ?_
        refine tk 5 79 ?_
        refine tc 0 fun K hK => ?_
        go_simp
        refine (FU _).mono ?_
        rintro e1 w14 ⟨rfl, hb14⟩
        replace G := Vw (G.out.drew.below hb14)
        clear hb14
        have hk14 := HS8.out w14 G.out.2
        refine hK.out _ _ hk14 (fun hHeld => ?_)
        clear hK
        refine tk 3 77 ?_
        refine tc 6 fun K hK => ?_
        go_simp
        refine (Mx A4 wb bb m0 m1 m2 Bj 1 v y _ G.out.1 (HW10.out.pres A4W.out G.out.2) A4W.out (G.out.in HA10.out) hy HV.out.1 HV.out.2 (by have := HFT.out.lt; omega) (by have := HFT.out.l; omega) (by have := HFT.out.jumps; omega)).mono ?_
        rintro e1 w15 ⟨rfl, g1, g2⟩
        replace G := Vw (G.out.step (B' := Hf Bj m0 m1 ⟨1, (y : Int), v, false⟩) g1 g2)
        clear g1 g2
        have hk15 := HS8.out w15 G.out.2
        refine hK.out _ _ hk15 (fun hHeld => ?_)
        clear hK
        refine td ?_
        clear hix hk12 hk13 hk14 hk15 hHeld
        have d15 := AA (G.out.heap A4X.out HI10.out)
        go_wp2_with fail
        refine ⟨JQ HO.out HROW0.out HPR.out HOUT.out HB10.out rfl (by rw [HX.out.1, HX.out.2]; exact G.out) (by simp), by simp [intOf]; omega⟩
      · have hk13 := HS8.out w12.drew G.out.2.drew
        have hix : ∀ w : World, (Instr.index 227 (.agg #[.nilFunc, .func (.func 153) #[] #[], .func (.func 154) #[] #[], .func (.func 155) #[] #[], .func (.func 156) #[] #[]]) (I 2)).run prog w = .ok (.func (.func 154) #[] #[]) w := fun w => by kernel_rfl
        refine wp_region_held_drew (S := fun w' => w'.cell? wr = some (I 2) ∧ w'.cell? ⟨wr, 1, none⟩ = some (I (y : Int)) ∧ w'.cell? ⟨wr, 2, none⟩ = some (U v) ∧ w'.cell? ⟨wb, 1, none⟩ = some (I 2) ∧ w'.cell? ⟨wb, 2, none⟩ = some (I 5) ∧ w'.cell? ⟨wb, 3, none⟩ = some (I 1) ∧ w'.cell? ⟨wb, 4, none⟩ = some (I 1) ∧ w'.cell? ⟨wb, 5, none⟩ = some (I 2) ∧ w'.cell? ⟨wb, 6, none⟩ = some (I 2) ∧ w'.cell? ⟨wb, 7, none⟩ = some (I 2) ∧ w'.cell? ⟨wb, 8, none⟩ = some (I 2) ∧ w'.cell? ⟨wb, 9, none⟩ = some (I 1)) (by kernel_rfl) hk13 (fun hHeld => ?_)
        refine tk 1 75 ?_
        refine tk 2 76 ?_
        refine tk 4 78 ?_
        refine tk 5 79 ?_
        refine tc 0 fun K hK => ?_
        go_simp
        refine (FU _).mono ?_
        rintro e1 w14 ⟨rfl, hb14⟩
        replace G := Vw (G.out.drew.below hb14)
        clear hb14
        have hk14 := HS8.out w14 G.out.2
        refine hK.out _ _ hk14 (fun hHeld => ?_)
        clear hK
        refine tk 3 77 ?_
        refine tc 6 fun K hK => ?_
        go_simp
        refine (waX.2 A4 wb bb m0 m1 m2 Bj 2 v y _ G.out.1 (HW10.out.pres A4W.out G.out.2) A4W.out (G.out.in HA10.out) hy HV.out.1 HV.out.2 (by have := HFT.out.lt; omega) (by have := HFT.out.l; omega) (by have := HFT.out.jumps; omega)).mono ?_
        rintro e1 w15 ⟨rfl, g1, g2⟩
        replace G := Vw (G.out.step (B' := Hf Bj m0 m1 ⟨2, (y : Int), v, false⟩) g1 g2)
        clear g1 g2
        have hk15 := HS8.out w15 G.out.2
        refine hK.out _ _ hk15 (fun hHeld => ?_)
        clear hK
        refine td ?_
        clear hix hk12 hk13 hk14 hk15 hHeld
        have d15 := AA (G.out.heap A4X.out HI10.out)
        have HR15 := Vw (show AH w15 3 1 (.slice SA nn scap) nn ((Ay (ops.take j)).map (I ·)) from (HROW.out.below HB10.out).kept fun i hi => G.out.2.block i ((HROW.out.below HB10.out).lt i hi) (A4S.out i hi))
        have hnn1 : nn + 1 ≤ 1000000 := by have := HNN.out; omega
        go_wp2_with (at_builtin; refine Ab rfl _ _ _ _ rfl Mu _ _ _ rfl (HR15.out.below (AC w15 _)) _ 1 _ rfl (Src.one underlying156 (AE w15 _) rfl (by simp [Value.oneCell'])) hnn1 (by omega) ?_)
        intro A7 cap7 w7 hr7 hg7 hm7
        have HF := Vw (WA hr7 (WA hg7 hm7))
        clear hr7 hg7 hm7 d15
        go_wp2_with fail
        refine ⟨Gb HA8.out HO.out HPR.out HOUT.out HB10.out rfl (by rw [HX.out.1, HX.out.2]; exact G.out) HF.out.1 (by rw [HN0.out]) (by simp) HF.out.2.1 HF.out.2.2 (by simp), by simp [intOf]; omega⟩
      · have hk13 := HS8.out w12.drew G.out.2.drew
        have hix : ∀ w : World, (Instr.index 227 (.agg #[.nilFunc, .func (.func 153) #[] #[], .func (.func 154) #[] #[], .func (.func 155) #[] #[], .func (.func 156) #[] #[]]) (I 3)).run prog w = .ok (.func (.func 155) #[] #[]) w := fun w => by kernel_rfl
        refine wp_region_held_drew (S := fun w' => w'.cell? wr = some (I 3) ∧ w'.cell? ⟨wr, 1, none⟩ = some (I (y : Int)) ∧ w'.cell? ⟨wr, 2, none⟩ = some (U v) ∧ w'.cell? ⟨wb, 1, none⟩ = some (I 2) ∧ w'.cell? ⟨wb, 2, none⟩ = some (I 5) ∧ w'.cell? ⟨wb, 3, none⟩ = some (I 1) ∧ w'.cell? ⟨wb, 4, none⟩ = some (I 1) ∧ w'.cell? ⟨wb, 5, none⟩ = some (I 2) ∧ w'.cell? ⟨wb, 6, none⟩ = some (I 2) ∧ w'.cell? ⟨wb, 7, none⟩ = some (I 2) ∧ w'.cell? ⟨wb, 8, none⟩ = some (I 2) ∧ w'.cell? ⟨wb, 9, none⟩ = some (I 1)) (by kernel_rfl) hk13 (fun hHeld => ?_)
        refine tk 1 75 ?_
        refine tk 2 76 ?_
        refine tk 4 78 ?_
        refine tk 5 79 ?_
        refine tc 0 fun K hK => ?_
        go_simp
        refine (FU _).mono ?_
        rintro e1 w14 ⟨rfl, hb14⟩
        replace G := Vw (G.out.drew.below hb14)
        clear hb14
        have hk14 := HS8.out w14 G.out.2
        refine hK.out _ _ hk14 (fun hHeld => ?_)
        clear hK
        refine tk 3 77 ?_
        refine tc 6 fun K hK => ?_
        go_simp
        refine (waX.1 A4 wb bb m0 m1 m2 Bj 3 v y _ G.out.1 (HW10.out.pres A4W.out G.out.2) A4W.out (G.out.in HA10.out) hy HV.out.1 HV.out.2 (by have := HFT.out.lt; omega) (by have := HFT.out.l; omega) (by have := HFT.out.jumps; omega)).mono ?_
        rintro e1 w15 ⟨rfl, g1, g2⟩
        replace G := Vw (G.out.step (B' := Hf Bj m0 m1 ⟨3, (y : Int), v, false⟩) g1 g2)
        clear g1 g2
        have hk15 := HS8.out w15 G.out.2
        refine hK.out _ _ hk15 (fun hHeld => ?_)
        clear hK
        refine td ?_
        clear hix hk12 hk13 hk14 hk15 hHeld
        have d15 := AA (G.out.heap A4X.out HI10.out)
        have HR15 := Vw (show AH w15 3 1 (.slice SA nn scap) nn ((Ay (ops.take j)).map (I ·)) from (HROW.out.below HB10.out).kept fun i hi => G.out.2.block i ((HROW.out.below HB10.out).lt i hi) (A4S.out i hi))
        have hnn1 : nn + 1 ≤ 1000000 := by have := HNN.out; omega
        go_wp2_with (at_builtin; refine Ab rfl _ _ _ _ rfl Mu _ _ _ rfl (HR15.out.below (AC w15 _)) _ 1 _ rfl (Src.one underlying156 (AE w15 _) rfl (by simp [Value.oneCell'])) hnn1 (by omega) ?_)
        intro A7 cap7 w7 hr7 hg7 hm7
        have HF := Vw (WA hr7 (WA hg7 hm7))
        clear hr7 hg7 hm7 d15
        go_wp2_with fail
        refine ⟨Gb HA8.out HO.out HPR.out HOUT.out HB10.out rfl (by rw [HX.out.1, HX.out.2]; exact G.out) HF.out.1 (by rw [HN0.out]) (by simp) HF.out.2.1 HF.out.2.2 (by simp), by simp [intOf]; omega⟩
      · have hk13 := HS8.out w12.drew G.out.2.drew
        have hix : ∀ w : World, (Instr.index 227 (.agg #[.nilFunc, .func (.func 153) #[] #[], .func (.func 154) #[] #[], .func (.func 155) #[] #[], .func (.func 156) #[] #[]]) (I 4)).run prog w = .ok (.func (.func 156) #[] #[]) w := fun w => by kernel_rfl
        refine wp_region_held_drew (S := fun w' => w'.cell? wr = some (I 4) ∧ w'.cell? ⟨wr, 1, none⟩ = some (I (y : Int)) ∧ w'.cell? ⟨wr, 2, none⟩ = some (U v) ∧ w'.cell? ⟨wb, 1, none⟩ = some (I 2) ∧ w'.cell? ⟨wb, 2, none⟩ = some (I 5) ∧ w'.cell? ⟨wb, 3, none⟩ = some (I 1) ∧ w'.cell? ⟨wb, 4, none⟩ = some (I 1) ∧ w'.cell? ⟨wb, 5, none⟩ = some (I 2) ∧ w'.cell? ⟨wb, 6, none⟩ = some (I 2) ∧ w'.cell? ⟨wb, 7, none⟩ = some (I 2) ∧ w'.cell? ⟨wb, 8, none⟩ = some (I 2) ∧ w'.cell? ⟨wb, 9, none⟩ = some (I 1)) (by kernel_rfl) hk13 (fun hHeld => ?_)
        refine tk 1 75 ?_
        refine tk 2 76 ?_
        refine tk 4 78 ?_
        refine tk 5 79 ?_
        refine tc 0 fun K hK => ?_
        go_simp
        refine (FU _).mono ?_
        rintro e1 w14 ⟨rfl, hb14⟩
        replace G := Vw (G.out.drew.below hb14)
        clear hb14
        have hk14 := HS8.out w14 G.out.2
        refine hK.out _ _ hk14 (fun hHeld => ?_)
        clear hK
        refine tk 3 77 ?_
        refine tc 6 fun K hK => ?_
        go_simp
        refine (Mw A4 wb bb m0 m1 m2 Bj 4 v y _ G.out.1 (HW10.out.pres A4W.out G.out.2) A4W.out (G.out.in HA10.out) hy HV.out.1 HV.out.2 (by have := HFT.out.lt; omega) (by have := HFT.out.l; omega) (by have := HFT.out.jumps; omega) (by have := HFT.out.marks; omega)).mono ?_
        rintro e1 w15 ⟨rfl, g1, g2⟩
        replace G := Vw (G.out.step (B' := Hf Bj m0 m1 ⟨4, (y : Int), v, false⟩) g1 g2)
        clear g1 g2
        have hk15 := HS8.out w15 G.out.2
        refine hK.out _ _ hk15 (fun hHeld => ?_)
        clear hK
        refine td ?_
        clear hix hk12 hk13 hk14 hk15 hHeld
        have d15 := AA (G.out.heap A4X.out HI10.out)
        have HR15 := Vw (show AH w15 3 1 (.slice SA nn scap) nn ((Ay (ops.take j)).map (I ·)) from (HROW.out.below HB10.out).kept fun i hi => G.out.2.block i ((HROW.out.below HB10.out).lt i hi) (A4S.out i hi))
        have hnn1 : nn + 1 ≤ 1000000 := by have := HNN.out; omega
        go_wp2_with (at_builtin; refine Ab rfl _ _ _ _ rfl Mu _ _ _ rfl (HR15.out.below (AC w15 _)) _ 1 _ rfl (Src.one underlying156 (AE w15 _) rfl (by simp [Value.oneCell'])) hnn1 (by omega) ?_)
        intro A7 cap7 w7 hr7 hg7 hm7
        have HF := Vw (WA hr7 (WA hg7 hm7))
        clear hr7 hg7 hm7 d15
        go_wp2_with fail
        refine ⟨Gb HA8.out HO.out HPR.out HOUT.out HB10.out rfl (by rw [HX.out.1, HX.out.2]; exact G.out) HF.out.1 (by rw [HN0.out]) (by simp) HF.out.2.1 HF.out.2.2 (by simp), by simp [intOf]; omega⟩
    · have hy : (8 : Int) ≤ (y : Int) := of_decide_eq_true hbd.symm
      clear hbd
      refine wp_region_held_drew (S := fun w' => w'.cell? wr = some (I q) ∧ w'.cell? ⟨wr, 1, none⟩ = some (I (y : Int)) ∧ w'.cell? ⟨wr, 2, none⟩ = some (U v) ∧ w'.cell? ⟨wb, 1, none⟩ = some (I 2) ∧ w'.cell? ⟨wb, 2, none⟩ = some (I 5) ∧ w'.cell? ⟨wb, 3, none⟩ = some (I 1) ∧ w'.cell? ⟨wb, 4, none⟩ = some (I 1) ∧ w'.cell? ⟨wb, 5, none⟩ = some (I 2) ∧ w'.cell? ⟨wb, 6, none⟩ = some (I 2) ∧ w'.cell? ⟨wb, 7, none⟩ = some (I 2) ∧ w'.cell? ⟨wb, 8, none⟩ = some (I 2) ∧ w'.cell? ⟨wb, 9, none⟩ = some (I 1)) (by kernel_rfl) hk8 (fun hHeld => ?_)
      refine tk 0 53 ?_
      refine tk 1 54 ?_
      refine tk 2 55 (v := .bool false) ?_
      refine tk 3 56 (v := .bool false) ?_
      refine tk 4 57 ?_
      refine tk 5 58 ?_
      refine tk 6 59 ?_
      refine tk 7 60 ?_
      refine tk 8 61 ?_
      refine tk 9 62 ?_
      refine tc 10 fun K hK => ?_
      go_simp
      refine (hwo _).mono ?_
      rintro e1 w12 ⟨rfl, hb12⟩
      replace G := Vw (G.out.drew.below hb12)
      clear hb12
      have hk12 := HS8.out w12 G.out.2
      refine hK.out _ _ hk12 (fun hHeld => ?_)
      clear hK
      refine tk 11 64 (v := .bool true) ?_
      refine tk 12 65 (v := .bool true) ?_
      refine td ?_
      clear hk8 hk12 hHeld
      go_wp2_with fail
      refine (CN A4 wb bb m0 m1 m2 Bj 5 103 (by decide) (by decide) _ G.out.1 (HW10.out.pres A4W.out G.out.2) (G.out.in HA10.out) (by have := HFT.out.l; omega)).mono ?_
      rintro e1 w13 ⟨rfl, g1, g2⟩
      replace G := Vw (G.out.step (B' := Bj.add [AN 5 103]) g1 g2)
      clear g1 g2
      have c13 := (HW10.out.pres A4W.out G.out.2).cells
      go_wp2_with fail
      refine (Ez A4 wb bb m0 m1 m2 (Bj.add [AN 5 103]) m1 _ G.out.1 (HW10.out.pres A4W.out G.out.2) (G.out.in HA10.out) (by have := HFT.out.lt; have := HM.out; simp only [BS.add]; omega) (by have := HFT.out.l; simp [BS.add]; omega) (by have := HFT.out.jumps; simp only [BS.add]; omega)).mono ?_
      rintro e1 w14 ⟨rfl, g1, g2⟩
      replace G := Vw (G.out.step (B' := Hf Bj m0 m1 ⟨q, (y : Int), v, true⟩) g1 g2)
      clear g1 g2 c13
      go_wp2_with fail
      refine ⟨JQ HO.out HROW0.out HPR.out HOUT.out HB10.out rfl (by rw [HX.out.1, HX.out.2]; exact G.out) (by simp), by simp [intOf]; omega⟩
  · obtain rfl : j = ops.length := by have := HJ.out; omega
    have hrow := HROW0.out
    have hbl := HBL.out
    rw [List.take_length] at hrow hbl
    obtain ⟨B5, hB5⟩ := ex_ (Ec m0 m1 B4 ops)
    have hft : TxFit 7000 B5 m0 := hB5 ▸ (HT.out.ops (KY m0 m1 ops B4)).mono (by have := HLEN.out; omega)
    rw [hB5] at hbl
    obtain ⟨A3, hA3⟩ : ∃ A : Nat → Prop, (fun i => A2 i ∨ (Value.slice SA nn scap).ownBlock = some i) = A := ⟨_, rfl⟩
    rw [hA3] at hbl
    have A3A := Vw (show ∀ i, A2 i → A3 i from fun i h => by rw [← hA3]; exact .inl h)
    have A3W := Vw (A3A.out _ A2W.out)
    have HA3 := Vw (show ∀ i, A3 i → i < wr.heap.size from fun i h => by
     rw [← hA3] at h
     rcases h with h | h
     · exact Vy (HA8.out i h) HPR.out.size
     · exact HROW.out.lt i h)
    replace G := Vw (show At A3 wr bb B5 wr from ⟨hbl, Pres.refl _ _⟩)
    have HRW := Vw (show AH wr.drew 3 1 (.slice SA nn scap) (Ay ops).length ((Ay ops).map (I ·)) from hrow)
    have HB5 := Vw hB5
    have HFT := Vw hft
    have HWF := Vw (OF HOPS.out)
    have c1 := HWr.out.cells
    have d1 := AA ((HPR.out.block _ (AF HI8.out) A2X.out).trans HI8.out)
    have hfin : ∀ t : TxI, t.ops = ops → Td (Iy B5 t m1 m2) m0 m1 m2 = Dq B t := by
     rintro ⟨ops', ab'⟩ ht
     dsimp only at ht
     subst ht
     obtain ⟨h1, h2, h3⟩ := HM.out
     rw [← hB5, ← HB4.out]
     subst h1
     subst h2
     subst h3
     rfl
    have HFIN := Vw hfin
    clear hrow hbl hB5 hft hA3 hfin hlt
    cases ab
    case' false =>
     have hws : Ay ops ≠ [] := HNE.out.resolve_left (by decide)
     go_wp2_with fail
     go_still_tail 9, (by kernel_rfl)
     replace G := Vw G.out.drew
     change wpList _ _ _ _ _ wr.drew
     generalize wr.drew = w21 at *
     go_wp2_with (go_at_call 105; refine (hcm A3 bb B5 (Ay ops) HWF.out hws (by have := JO ops; have := HLEN.out; omega) (.slice SA nn scap) _ HRW.out G.out.1 (G.out.in HA3.out) (by have := HFT.out.l; omega)).mono ?_; rintro e1 w22 ⟨rfl, g1, g2⟩; replace G := Vw (G.out.step (B' := CI B5 (Ay ops)) g1 g2); clear g1 g2)
     have cw22 := (HWr.out.pres A3W.out G.out.2).cells
     go_wp2_with fail
     refine (CN A3 wb bb m0 m1 m2 (CI B5 (Ay ops)) 5 101 (by decide) (by decide) _ G.out.1 (HWr.out.pres A3W.out G.out.2) (G.out.in HA3.out) (by have := HFT.out.l; have := It B5 (Ay ops); omega)).mono ?_
     rintro e1 w23 ⟨rfl, g1, g2⟩
     replace G := Vw (G.out.step (B' := (CI B5 (Ay ops)).add [AN 5 101]) g1 g2)
     clear g1 g2
     have cw23 := (HWr.out.pres A3W.out G.out.2).cells
     go_wp2_with fail
     refine (Ez A3 wb bb m0 m1 m2 ((CI B5 (Ay ops)).add [AN 5 101]) m2 _ G.out.1 (HWr.out.pres A3W.out G.out.2) (G.out.in HA3.out) (by have := HFT.out.lt; have := HM.out; have := congrArg List.length (LA B5 (Ay ops)); simp only [BS.add]; omega) (by have := HFT.out.l; have := It B5 (Ay ops); simp [BS.add]; omega) (by have := HFT.out.jumps; have := congrArg List.length (LB B5 (Ay ops)); simp only [BS.add]; omega)).mono ?_
     rintro e1 w24 ⟨rfl, g1, g2⟩
     replace G := Vw (G.out.step (B' := Iy B5 ⟨ops, false⟩ m1 m2) g1 g2)
     clear g1 g2
     have cw24 := (HWr.out.pres A3W.out G.out.2).cells
     go_wp2_with fail
     obtain ⟨tt, htt⟩ : ∃ t : TxI, ⟨ops, false⟩ = t := ⟨_, rfl⟩
     rw [htt] at G
    case' true =>
     go_wp2_with fail
     refine (CN A3 wb bb m0 m1 m2 B5 5 104 (by decide) (by decide) _ G.out.1 (HWr.out.pres A3W.out G.out.2) (G.out.in HA3.out) (by have := HFT.out.l; omega)).mono ?_
     rintro e1 w23 ⟨rfl, g1, g2⟩
     replace G := Vw (G.out.step (B' := B5.add [AN 5 104]) g1 g2)
     clear g1 g2
     have cw23 := (HWr.out.pres A3W.out G.out.2).cells
     go_wp2_with fail
     refine (Ez A3 wb bb m0 m1 m2 (B5.add [AN 5 104]) m1 _ G.out.1 (HWr.out.pres A3W.out G.out.2) (G.out.in HA3.out) (by have := HFT.out.lt; have := HM.out; simp only [BS.add]; omega) (by have := HFT.out.l; simp [BS.add]; omega) (by have := HFT.out.jumps; simp only [BS.add]; omega)).mono ?_
     rintro e1 w24 ⟨rfl, g1, g2⟩
     replace G := Vw (G.out.step (B' := Iy B5 ⟨ops, true⟩ m1 m2) g1 g2)
     clear g1 g2
     have cw24 := (HWr.out.pres A3W.out G.out.2).cells
     go_wp2_with fail
     obtain ⟨tt, htt⟩ : ∃ t : TxI, ⟨ops, true⟩ = t := ⟨_, rfl⟩
     rw [htt] at G
    all_goals
     have HF2 := Vw (HFT.out.tx2 tt m1 m2)
     obtain ⟨B6, hB6⟩ := ex_ (Iy B5 tt m1 m2)
     rw [hB6] at G HF2
     have HB6 := Vw hB6
     have HT3 := Vw (HF2.out.tx3)
     have HL6 := Vw HF2.out.lt
     have hm1 := HM.out.2.1
     have hm2 := HM.out.2.2
     have hm2' : m0 + 2 = m2 := by omega
     rw [hm1, hm2'] at HT3
     have HM2 := Vw hm2'
     clear hB6 hm1 hm2 hm2'
     go_still_tail 8, (by kernel_rfl)
     replace G := Vw G.out.drew
     change wpList _ _ _ _ _ w24.drew
     generalize w24.drew = w31 at *
     go_wp2_with (go_at_call 106; refine (Gn A3 bb B6 m0 _ G.out.1 (by have := HL6.out; omega) HF2.out.a).mono ?_; rintro e1 w32 ⟨rfl, g1, g2⟩; replace G := Vw (G.out.step (B' := B6.here m0) g1 g2); clear g1 g2)
     have cw32 := (HWr.out.pres A3W.out G.out.2).cells
     go_wp2_with fail
     refine (CN A3 wb bb m0 m1 m2 (B6.here m0) 5 102 (by decide) (by decide) _ G.out.1 (HWr.out.pres A3W.out G.out.2) (G.out.in HA3.out) (by have := HF2.out.l; simp only [BS.here]; omega)).mono ?_
     rintro e1 w33 ⟨rfl, g1, g2⟩
     replace G := Vw (G.out.step (B' := (B6.here m0).add [AN 5 102]) g1 g2)
     clear g1 g2
     have cw33 := (HWr.out.pres A3W.out G.out.2).cells
     go_wp2_with fail
     go_still_tail 8, (by kernel_rfl)
     replace G := Vw G.out.drew
     change wpList _ _ _ _ _ w33.drew
     generalize w33.drew = w34 at *
     go_wp2_with (go_at_call 106; refine (Gn A3 bb ((B6.here m0).add [AN 5 102]) m1 _ G.out.1 (by have := HL6.out; have := HM.out; simp [BS.here, BS.add]; omega) HT3.out.1).mono ?_; rintro e1 w35 ⟨rfl, g1, g2⟩; replace G := Vw (G.out.step (B' := ((B6.here m0).add [AN 5 102]).here m1) g1 g2); clear g1 g2)
     have cw35 := (HWr.out.pres A3W.out G.out.2).cells
     go_wp2_with fail
     go_still_tail 8, (by kernel_rfl)
     replace G := Vw G.out.drew
     change wpList _ _ _ _ _ w35.drew
     generalize w35.drew = w36 at *
     go_wp2_with (go_at_call 67; refine (hbk A3 bb (((B6.here m0).add [AN 5 102]).here m1) _ G.out.1 (G.out.in HA3.out) (by have := HF2.out.l; simp [BS.here, BS.add]; omega) (by have := HF2.out.marks; simp [BS.here, BS.add]; omega) (by have := HF2.out.jumps; simp [BS.here, BS.add]; omega)).mono ?_; rintro e1 w37 ⟨rfl, g1, g2⟩; replace G := Vw (G.out.step (B' := DA (((B6.here m0).add [AN 5 102]).here m1)) g1 g2); clear g1 g2)
     have cw37 := (HWr.out.pres A3W.out G.out.2).cells
     go_wp2_with fail
     go_still_tail 8, (by kernel_rfl)
     replace G := Vw G.out.drew
     change wpList _ _ _ _ _ w37.drew
     generalize w37.drew = w38 at *
     go_wp2_with (go_at_call 106; refine (Gn A3 bb (DA (((B6.here m0).add [AN 5 102]).here m1)) m2 _ G.out.1 (List.getElem?_eq_some_iff.1 HT3.out.2.1).1 HT3.out.2.1).mono ?_; rintro e1 w39 ⟨rfl, g1, g2⟩; replace G := Vw (G.out.step (B' := (DA (((B6.here m0).add [AN 5 102]).here m1)).here m2) g1 g2); clear g1 g2)
     have cw39 := (HWr.out.pres A3W.out G.out.2).cells
     go_wp2_with fail
     have HS2 := Vw (show ∀ (w' : World) (f k e : Nat), Bw w' wb bb f k e → (fun w' => w'.cell? wb = some (.pointer (some bb)) ∧ w'.cell? ⟨wb, 1, none⟩ = some (I 2) ∧ w'.cell? ⟨wb, 2, none⟩ = some (I 5) ∧ w'.cell? ⟨wb, 3, none⟩ = some (I 1) ∧ w'.cell? ⟨wb, 4, none⟩ = some (I 1) ∧ w'.cell? ⟨wb, 5, none⟩ = some (I 2) ∧ w'.cell? ⟨wb, 6, none⟩ = some (I 2) ∧ w'.cell? ⟨wb, 7, none⟩ = some (I 2) ∧ w'.cell? ⟨wb, 8, none⟩ = some (I 2) ∧ w'.cell? ⟨wb, 9, none⟩ = some (I 1)) w' from fun w' f k e h => ⟨AD h 0 rfl, AD h 1 rfl, AD h 2 rfl, AD h 3 rfl, AD h 4 rfl, AD h 5 rfl, AD h 6 rfl, AD h 7 rfl, AD h 8 rfl, AD h 9 rfl⟩)
     have hk40 := HS2.out w39.drew _ _ _ (HWr.out.pres A3W.out G.out.2.drew)
     refine wp_region_held_drew (S := fun w' => w'.cell? wb = some (.pointer (some bb)) ∧ w'.cell? ⟨wb, 1, none⟩ = some (I 2) ∧ w'.cell? ⟨wb, 2, none⟩ = some (I 5) ∧ w'.cell? ⟨wb, 3, none⟩ = some (I 1) ∧ w'.cell? ⟨wb, 4, none⟩ = some (I 1) ∧ w'.cell? ⟨wb, 5, none⟩ = some (I 2) ∧ w'.cell? ⟨wb, 6, none⟩ = some (I 2) ∧ w'.cell? ⟨wb, 7, none⟩ = some (I 2) ∧ w'.cell? ⟨wb, 8, none⟩ = some (I 2) ∧ w'.cell? ⟨wb, 9, none⟩ = some (I 1)) (by kernel_rfl) hk40 (fun hHeld => ?_)
     refine tk 0 156 ?_
     refine tk 1 157 ?_
     refine tk 2 158 ?_
     refine tk 3 159 ?_
     refine tk 4 160 ?_
     refine tk 5 161 ?_
     refine tk 6 162 ?_
     refine tk 7 163 ?_
     refine tc 8 fun K hK => ?_
     go_simp
     refine (hlk _).mono ?_
     rintro e1 w41 ⟨rfl, hb41⟩
     replace G := Vw (G.out.drew.below hb41)
     clear hb41
     have hk41 := HS2.out w41 _ _ _ (HWr.out.pres A3W.out G.out.2)
     refine hK.out _ _ hk41 (fun hHeld => ?_)
     clear hK
     refine tc 9 fun K hK => ?_
     go_simp
     refine (PE A3 bb ((DA (((B6.here m0).add [AN 5 102]).here m1)).here m2) 0 _ G.out.1 (G.out.in HA3.out) (by decide) (by decide) (by have := HT3.out.2.2; simp only [BS.here] at this ⊢; omega)).mono ?_
     rintro e1 w42 ⟨rfl, g1, g2⟩
     replace G := Vw (G.out.step (B' := IP ((DA (((B6.here m0).add [AN 5 102]).here m1)).here m2) 0) g1 g2)
     clear g1 g2
     have hk42 := HS2.out w42 _ _ _ (HWr.out.pres A3W.out G.out.2)
     refine hK.out _ _ hk42 (fun hHeld => ?_)
     clear hK
     refine td ?_
     clear hk40 hk41 hk42 hHeld
     go_wp2_with fail
     refine (Dy A3 wb bb m0 m1 m2 (IP ((DA (((B6.here m0).add [AN 5 102]).here m1)).here m2) 0) 5 _ G.out.1 (HWr.out.pres A3W.out G.out.2) (G.out.in HA3.out) (by have := HT3.out.2.2; simp [IP, BS.here, BS.add] at this ⊢; omega)).mono ?_
     rintro e1 w43 ⟨rfl, g1, g2⟩
     replace G := Vw (G.out.step (B' := Dq B tt) (by rw [← HFIN.out tt (by rw [← htt]), HB6.out]; exact g1) g2)
     clear g1 g2
     go_wp2_with fail
     go_end0
     subst htt
     exact ⟨rfl, G.out.1.weaken (fun i hi => hi.elim (fun h => A3A.out i (A2A.out i h)) (fun e => e ▸ A3W.out)), ⟨m0, m1, m2, HWr.out.pres A3W.out G.out.2⟩, (HP8.out.trans (HPR.out.mono fun i _ hi => A2A.out i hi)).trans (G.out.2.mono fun i _ hi => A3A.out i (A2A.out i hi))⟩
end Go.Proofs.YtkoplblbeapfgaaGreatDoor
