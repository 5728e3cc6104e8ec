/-
Parts of the walk of TopEnds. Conditions stand in each statement.
-/
import Derived.Deep.Cut
import Derived.Deep.CutRange
import Derived.Test.YtkoplblbeapfgaaGreatDoorX50
import Derived.Test.YtkoplblbeapfgaaGreatDoorX35
import Derived.Test.YtkoplblbeapfgaaGreatDoorX37
namespace Go.Proofs.YtkoplblbeapfgaaGreatDoor
open Go.RowKit
open Tryz
set_option linter.all false
set_option maxRecDepth 100000
set_option maxHeartbeats 8000000
theorem IW (V : Int) : ∀ (n : Nat) (i : Int), BW V (n + 1) i = BW V n i ++ [⟨2, i + n, V, false⟩]
 | 0, i => by simp [BW]
 | n + 1, i => by
   rw [BW, IW V n (i + 1), BW]
   simp only [List.cons_append, List.cons.injEq, true_and, List.append_cancel_left_eq, OpI.mk.injEq, and_true]
   push_cast
   omega
theorem GY (V : Int) : ∀ (n : Nat) (i : Int), (BW V n i).length = n
 | 0, _ => rfl
 | n + 1, i => by rw [BW, List.length_cons, GY V n]
theorem Rd {l : List Int} {d x : Int} (hl : l ≠ []) (h : Jg d l = x) : ∃ i, l.length = i + 1 ∧ l[i]? = some x := by
 induction l generalizing d with
 | nil => exact absurd rfl hl
 | cons a l ih =>
   cases l with
   | nil => exact ⟨0, rfl, by rw [← h]; rfl⟩
   | cons b l =>
     obtain ⟨i, h1, h2⟩ := ih (d := a) (by simp) h
     exact ⟨i + 1, by simp only [List.length_cons] at h1 ⊢; omega, h2⟩
theorem Rc {l : List Int} {d x : Int} (h : Jg d l = x) (hx : x ≠ d) : ∃ i, l.length = i + 1 ∧ l[i]? = some x :=
 Rd (fun e => by subst e; exact hx h.symm) h
theorem LS (k : Int) : ∀ l : List Ev, (BT k l).length ≤ l.length
 | [] => Nat.le_refl _
 | e :: l => by
   have := LS k l
   simp only [BT]
   split <;> simp <;> omega
theorem Db {w w' : World} {e s n n2 : Nat} {v v2 : Value} {xs x2 : List Value} (h : AH w e s v n xs) (h2 : AH w 27 1 v2 n2 x2) (hne : e ≠ 27) (hg : w.grownBy w' v2.ownBlock) : AH w' e s v n xs :=
 h.kept fun k hk => hg.block k (h.lt k hk) (fun e' => by
  obtain ⟨cs, h1⟩ := h.type k hk
  obtain ⟨cs2, h3⟩ := h2.type k e'.symm
  rw [h1] at h3
  cases h3
  exact hne rfl)
theorem QE {j : Nat} (h : j < 9) : EH.take (j + 1) = EH.take j ++ [⟨3, 7, 1, false⟩] := by
 have : j = 0 ∨ j = 1 ∨ j = 2 ∨ j = 3 ∨ j = 4 ∨ j = 5 ∨ j = 6 ∨ j = 7 ∨ j = 8 := by omega
 rcases this with rfl | rfl | rfl | rfl | rfl | rfl | rfl | rfl | rfl <;> rfl
theorem Pm (n v q : Int) (hn : 0 ≤ n ∧ n < 256) (hv : 0 ≤ v ∧ v < 256) (hq : 0 ≤ q ∧ q < 256) (hwk : ∀ w, Y 15 #[] w fun e w' => e = Z (.bool true) ∧ Below w.heap.size w w') (w : World) : Y 3 #[.int .u8 n, .int .u8 v, .int .u8 q] w fun e w' => e = Z (.bool true) ∧ Below w.heap.size w w' := by
 obtain ⟨c, hc1, hc2, hc3⟩ : ∃ c : Nat, n.tmod 4 = c ∧ n % 4 = c ∧ c ≤ 3 := ⟨(n % 4).toNat, by rw [Int.tmod_eq_emod_of_nonneg hn.1]; omega, by omega, by omega⟩
 obtain ⟨k, hk1, hk2, hk3⟩ : ∃ k : Nat, q.tmod 3 = k ∧ q % 3 = k ∧ k ≤ 2 := ⟨(q % 3).toNat, by rw [Int.tmod_eq_emod_of_nonneg hq.1]; omega, by omega, by omega⟩
 have hpl := Ie
 obtain ⟨hn0, hn1⟩ := hn
 obtain ⟨hv0, hv1⟩ := hv
 have HK := Vw (WA hk1 (WA hk2 hk3))
 have HWK := Vw hwk
 have HV := Vw (WA hv0 hv1)
 have HCC := Vw hc3
 have hcI0 : (0 : Int) ≤ (c : Int) := by omega
 have hcI : (c : Int) ≤ 3 := by omega
 clear hk1 hk2 hk3 hwk hq hc3
 go_enter func3, ntmps3
 go_wp2_with fail
 refine (hpl _).mono ?_
 rintro e w1 ⟨rfl, hb1⟩
 obtain ⟨W2, hE2, hb2, hI2⟩ := alloc_new w1 (.cells KA 25)
 obtain ⟨W3, hE3, hb3, hI3⟩ := alloc_new W2 (.cells #[U 1, U 2, U 3, U 4, U 5, U 6, U 7, U 8] 27)
 obtain ⟨W4, hE4, hb4, hI4⟩ := alloc_new W3 (.cells #[.slice none 0 0, false] 31)
 have HE := Vw (show ((w1.alloc (.cells KA 25)).alloc (.cells #[U 1, U 2, U 3, U 4, U 5, U 6, U 7, U 8] 27)).alloc (.cells #[.slice none 0 0, false] 31) = W4 by rw [hE2, hE3, hE4])
 have HS := Vw (WA (show w1.heap.size + 1 = W2.heap.size by rw [← hE2]; simp) (show w1.heap.size + 1 + 1 = W3.heap.size by rw [← hE3, ← hE2]; simp))
 have HB4 := Vw (hb1.trans ((hb2.trans ((hb3.trans (hb4.mono hb3.size)).mono hb2.size)).mono hb1.size))
 have HI2 := Vw (AB hb4 (AB hb3 hI2))
 have HI3 := Vw (AB hb4 hI3)
 have HI4 := Vw hI4
 have HZ1 := Vw hb1.size
 clear hb1 hb2 hI2 hb3 hI3 hb4 hI4 hE2 hE3 hE4 hpl
 go_wp2_with fail
 rw [HE.out]
 clear HE
 obtain ⟨tb, htb⟩ := ex_ w1.heap.size
 obtain ⟨mb, hmb⟩ := ex_ W2.heap.size
 obtain ⟨xb, hxb⟩ := ex_ W3.heap.size
 have hs := HS.out
 rw [htb, hmb, hxb] at hs
 rw [htb] at HI2 ⊢
 rw [hmb] at HI3
 rw [hxb] at HI4
 try rw [show tb + 2 = xb from hs.2]
 try rw [hs.2]
 try rw [hs.1]
 have HX := Vw (WA (show w.heap.size ≤ tb from htb ▸ HZ1.out) (WA (show tb < mb by omega) (WA (show mb < xb by omega) (show xb < W4.heap.size from AF HI4.out))))
 clear HS hs htb hmb hxb HZ1
 have hv10 : (v + 10) < 300 := by omega
 have hv11 : 0 ≤ v + 10 := by omega
 go_loopw [11] (fun i W => ∃ j : Nat, j ≤ 3 + c ∧ i = I j ∧ DB W4 xb false (BW (v + 10) j 0) W) (fun i W => 3 + c - (intOf i).toNat)
 case atStart => exact ⟨0, Nat.zero_le _, rfl, .slice none 0 0, HI4.out, AH.nil _ _ _, by simp [Value.ownBlock], Pres.refl _ _⟩
 case round =>
  obtain ⟨j, hj, rfl, S, hc, hr, ho, hp⟩ := hrel
  obtain ⟨L, hL⟩ := ex_ (BW (v + 10) j 0)
  have hlen := GY (v + 10) j 0
  rw [hL] at hr hlen
  rw [hlen] at hr
  obtain ⟨SA, sc, rfl⟩ := hr.form
  have HR := Vw hr
  have HC := Vw hc
  have HO := Vw ho
  have HP := Vw hp
  have HL := Vw (WA hL hlen)
  have HJ := Vw hj
  have c1 := AA hc
  clear hc hr ho hp hL hlen
  by_cases hlt : j < 3 + c
  · have hj0 : (0 : Int) ≤ (j : Int) := by omega
    have hj1 : (j : Int) < 3 + (c : Int) := by omega
    have hn1' : j + 1 ≤ 1000000 := by omega
    clear hj hlt
    go_wp2_with (at_builtin; refine Ab rfl _ _ _ _ rfl Mt _ _ _ rfl (HR.out.below (AC wr _)) _ 1 _ rfl (Src.one underlying29 (AE wr _) rfl (by simp [Value.oneCell'])) hn1' (by omega) ?_)
    intro A7 cap7 w7 hr7 hg7 hm7
    have hb7 := AW (HR.out.below (AC wr _)) hg7 (AB (AC wr _) HC.out) (by decide)
    have d0 := AA hb7
    have e0 := AJ hb7
    have HF := Vw (WA hr7 (WA hg7 hm7))
    clear hr7 hg7 hm7 hb7 c1
    go_wp2_with fail
    refine ⟨⟨j + 1, by have := HJ.out; omega, by simp, ?_⟩, by simp [intOf]; omega⟩
    have hs := IW (v + 10) j 0
    rw [hs, HL.out.1]
    exact DB.grow (o := ⟨2, 0 + (j : Int), v + 10, false⟩) HX.out.2.2.2 HC.out HO.out HP.out HF.out.1 (by rw [HL.out.2]) (by simp [OpI.l]) HF.out.2.1 HF.out.2.2
  · have HJC := Vw (show j = 3 + c by omega)
    have hjI : ¬ ((j : Int) < 3 + (c : Int)) := by omega
    have f1 := AJ HC.out
    obtain ⟨hk1, hk2, hk3⟩ := HK.out
    have hkk : k = 0 ∨ k = 1 ∨ k = 2 := by omega
    clear hj hlt
    rcases hkk with rfl | rfl | rfl
    focus
     clear hk3
     go_wp2_with fail
     generalize hWX : wr.setCell ⟨xb, 1, none⟩ (.bool true) = wx
     obtain ⟨kk, hkk⟩ : ∃ m : Nat, m = 0 := ⟨_, rfl⟩
     have HT := Vw (show DB W4 xb (AU c kk v).abort (AU c kk v).ops wx from by
      rw [hkk]
      have h : DB W4 xb false (BW (v + 10) (3 + c) 0) wr := HJC.out ▸ ⟨_, HC.out, by rw [HL.out.1, HL.out.2]; exact HR.out, HO.out, HP.out⟩
      have h2 := h.flag
      rw [hWX] at h2
      simpa [AU] using h2)
     have HKX := Vw (WA (show kk ≤ 2 by omega) (show (if kk = 0 then 104 else if kk = 1 then 103 else 102) = (104 : Int) by rw [hkk]; rfl))
     clear hkk hWX c1 f1 hk1 hk2 HC HR HO HP HL HJ HK
    rotate_left
    focus
     have hn1' : j + 1 ≤ 1000000 := by have := HJC.out; omega
     clear hk3
     go_wp2_with (at_builtin; refine Ab rfl _ _ _ _ rfl Mt _ _ _ rfl (HR.out.below (AC wr _)) _ 1 _ rfl (Src.one underlying29 (AE wr _) rfl (by simp [Value.oneCell'])) hn1' (by omega) ?_)
     intro A7 cap7 w7 hr7 hg7 hm7
     have hb7 := AW (HR.out.below (AC wr _)) hg7 (AB (AC wr _) HC.out) (by decide)
     have d0 := AA hb7
     have e0 := AJ hb7
     have HF := Vw (WA hr7 (WA hg7 hm7))
     clear hr7 hg7 hm7 hb7 c1
     go_wp2_with fail
     generalize hWX : w7.setCell xb (.slice A7 (j + 1) cap7) = wx
     obtain ⟨kk, hkk⟩ : ∃ m : Nat, m = 1 := ⟨_, rfl⟩
     have HT := Vw (show DB W4 xb (AU c kk v).abort (AU c kk v).ops wx from by
      rw [hkk]
      have h := DB.grow (o := ⟨1, 8 + v, 0, true⟩) HX.out.2.2.2 HC.out HO.out HP.out HF.out.1 (by rw [HL.out.2]) (by simp [OpI.l]) HF.out.2.1 HF.out.2.2
      rw [hWX, ← HL.out.1, HJC.out] at h
      simpa [AU] using h)
     have HKX := Vw (WA (show kk ≤ 2 by omega) (show (if kk = 0 then 104 else if kk = 1 then 103 else 102) = (103 : Int) by rw [hkk]; rfl))
     clear hkk hWX d0 e0 f1 hk1 hk2 HC HR HO HP HL HJ HK HF hn1'
    rotate_left
    focus
     clear hk3
     have HW0 := Vw (show DB W4 xb false (BW (v + 10) (3 + c) 0 ++ EH.take 0) wr from HJC.out ▸ ⟨_, HC.out, by simpa [HL.out.1, HL.out.2] using HR.out, HO.out, HP.out⟩)
     have HLN := Vw (GY (v + 10) (3 + c) 0)
     go_wp2_with fail
     clear c1 f1 HC HR HO HP HL HJ HK hk1 hk2
     go_loopw [12] (fun i W => ∃ j9 : Nat, j9 ≤ 9 ∧ i = I j9 ∧ DB W4 xb false (BW (v + 10) (3 + c) 0 ++ EH.take j9) W) (fun i W => 9 - (intOf i).toNat)
     case atStart => exact ⟨0, by decide, rfl, HW0.out⟩
     case' round =>
      obtain ⟨j9, hj, rfl, S9, hc, hr, ho, hp⟩ := hrel
      obtain ⟨L9, hL⟩ := ex_ (BW (v + 10) (3 + c) 0 ++ EH.take j9)
      obtain ⟨n9, hn9⟩ := ex_ L9.length
      have hnn : n9 ≤ 100 := by
       rw [← hn9, ← hL, List.length_append, HLN.out, List.length_take]
       omega
      rw [hL, hn9] at hr
      obtain ⟨S9A, s9c, rfl⟩ := hr.form
      have HR := Vw hr
      have HC := Vw hc
      have HO := Vw ho
      have HP := Vw hp
      have HL := Vw (WA hL hn9)
      have HJ := Vw hj
      have c1 := AA hc
      clear hc hr ho hp hL hn9
      by_cases hlt : j9 < 9
      case pos =>
       have hj0 : (0 : Int) ≤ (j9 : Int) := by omega
       have hj1 : (j9 : Int) < 9 := by omega
       have hn1' : n9 + 1 ≤ 1000000 := by omega
       have HLT := Vw hlt
       clear hj hlt hnn
       go_wp2_with (at_builtin; refine Ab rfl _ _ _ _ rfl Mt _ _ _ rfl (HR.out.below (AC wr _)) _ 1 _ rfl (Src.one underlying29 (AE wr _) rfl (by simp [Value.oneCell'])) hn1' (by omega) ?_)
       intro A7 cap7 w7 hr7 hg7 hm7
       have hb7 := AW (HR.out.below (AC wr _)) hg7 (AB (AC wr _) HC.out) (by decide)
       have d0 := AA hb7
       have e0 := AJ hb7
       have HF := Vw (WA hr7 (WA hg7 hm7))
       clear hr7 hg7 hm7 hb7 c1
       go_wp2_with fail
       refine ⟨⟨j9 + 1, HLT.out, by simp, ?_⟩, by have := HLT.out; simp [intOf]; omega⟩
       rw [QE HLT.out, ← List.append_assoc, HL.out.1]
       exact DB.grow (o := ⟨3, 7, 1, false⟩) HX.out.2.2.2 HC.out HO.out HP.out HF.out.1 (by rw [HL.out.2]) (by simp [OpI.l]) HF.out.2.1 HF.out.2.2
      obtain rfl : j9 = 9 := by omega
      obtain ⟨kk, hkk⟩ : ∃ m : Nat, m = 2 := ⟨_, rfl⟩
      obtain ⟨wx, hWX⟩ := ex_ wr
      have HT := Vw (show DB W4 xb (AU c kk v).abort (AU c kk v).ops wx from by
       have h : DB W4 xb false L9 wr := ⟨_, HC.out, by rw [HL.out.2]; exact HR.out, HO.out, HP.out⟩
       rw [← HL.out.1, hWX] at h
       rw [hkk]
       simpa [AU, EH] using h)
      have HKX := Vw (WA (show kk ≤ 2 by omega) (show (if kk = 0 then 104 else if kk = 1 then 103 else 102) = (102 : Int) by rw [hkk]; rfl))
      clear HC HR HO HP HL HJ hj hlt hnn
      go_wp2_with fail
      try rw [hWX]
      clear c1 hWX hkk HW0 HLN
    rotate_left
    all_goals
     obtain ⟨OS, hc, hr, ho, hp⟩ := HT.out
     obtain ⟨nn, hnn⟩ : ∃ m, (AU c kk v).ops.length = m := ⟨_, rfl⟩
     obtain ⟨ab, hab⟩ : ∃ b, (AU c kk v).abort = b := ⟨_, rfl⟩
     rw [hnn] at hr
     rw [hab] at hc
     obtain ⟨OA, oc, rfl⟩ := hr.form
     have HEO := Vw (Qo HCC.out HKX.out.1 v HV.out)
     have HOC := Vw (Ui HCC.out HKX.out.1 v HV.out)
     have HRUN := Vw (Tp (Va HCC.out HKX.out.1 v))
     have HPL := Vw (show (BE [AU c kk v]).length ≤ 4096 from by
      have h : (BE [AU c kk v]).length = (Ae (AU c kk v)).l.length := Cb _ _ _
      rw [h]
      exact (of_decide_eq_true HOC.out.2.2.1).2.1)
     have hx4 := HX.out.2.2.2
     have hIx : wx.heap[tb]? = some (.cells KA 25) := (hp.block tb (by have := HX.out; omega) (by have := HX.out; omega)).trans HI2.out
     have hMx := (hp.block mb (by have := HX.out; omega) (by have := HX.out; omega)).trans HI3.out
     have HWX := Vw (show ∀ W : World, Below wx wx W → AH W 27 1 (.slice (some mb) 8 8) 8 (Ln.cells BZ) from fun W h => AH.made (m := 8) (AB h hMx) rfl)
     have HSX := Vw (show ∀ W : World, Below wx wx W → (fun w' => w'.cell? tb = some (I 2) ∧ w'.cell? ⟨tb, 1, none⟩ = some (I 5) ∧ w'.cell? ⟨tb, 2, none⟩ = some (I 1) ∧ w'.cell? ⟨tb, 3, none⟩ = some (I 1) ∧ w'.cell? ⟨tb, 4, none⟩ = some (I 2) ∧ w'.cell? ⟨tb, 5, none⟩ = some (I 2) ∧ w'.cell? ⟨tb, 6, none⟩ = some (I 2) ∧ w'.cell? ⟨tb, 7, none⟩ = some (I 2) ∧ w'.cell? ⟨tb, 8, none⟩ = some (I 1) ∧ w'.cell? xb = some (.slice OA nn oc) ∧ w'.cell? ⟨xb, 1, none⟩ = some (.bool ab)) W from fun W h => by
      have a := AB h hIx
      have b := AB h hc
      exact ⟨AD a 0 rfl, AD a 1 rfl, AD a 2 rfl, AD a 3 rfl, AD a 4 rfl, AD a 5 rfl, AD a 6 rfl, AD a 7 rfl, AD a 8 rfl, AD b 0 rfl, AD b 1 rfl⟩)
     have HRO := Vw hr
     have HNN := Vw hnn
     have HAB := Vw hab
     have HBX := Vw (show Below w w wx from ⟨hp.os.trans HB4.out.os, hp.tape.trans HB4.out.tape, hp.output.trans HB4.out.output, Vx HB4.out.size hp.size, fun k hk => (hp.block k (Vy hk HB4.out.size) (by have := HX.out; omega)).trans (HB4.out.block k hk)⟩)
     have HMB := Vw (show mb < wx.heap.size from AF hMx)
     clear hc hr ho hp hnn hab hIx hMx hx4
     go_cut [13, 14] from 66 to 75 (fun s13 s14 wc => s14 = I 0 ∧ ∃ T L V C mk CS R rb, s13 = .pointer (some ⟨rb, 0, none⟩) ∧ RnAt T wc L V C mk CS R rb (.slice none 0 0) (Du c kk v) [] ∧ (∀ k, k < wx.heap.size → T k = 0) ∧ wx.heap.size ≤ rb ∧ Below wx wx wc)
     case first =>
      have HBu0 := Vw (show Below wx wx wx.drew from (Below.refl _ _).drew)
      have hk0 := HSX.out wx.drew HBu0.out
      refine wp_region_held_drew (S := fun w' => w'.cell? tb = some (I 2) ∧ w'.cell? ⟨tb, 1, none⟩ = some (I 5) ∧ w'.cell? ⟨tb, 2, none⟩ = some (I 1) ∧ w'.cell? ⟨tb, 3, none⟩ = some (I 1) ∧ w'.cell? ⟨tb, 4, none⟩ = some (I 2) ∧ w'.cell? ⟨tb, 5, none⟩ = some (I 2) ∧ w'.cell? ⟨tb, 6, none⟩ = some (I 2) ∧ w'.cell? ⟨tb, 7, none⟩ = some (I 2) ∧ w'.cell? ⟨tb, 8, none⟩ = some (I 1) ∧ w'.cell? xb = some (.slice OA nn oc) ∧ w'.cell? ⟨xb, 1, none⟩ = some (.bool ab)) (by kernel_rfl) hk0 (fun hHeld => ?_)
      refine tk 0 66 ?_
      refine tk 2 68 ?_
      refine tk 4 70 ?_
      refine wpAnyH_ready (rs := [1, 5]) (by kernel_rfl) (by simp) ?_
      refine AllReadyH.cons rfl (fun K hK => ?_) (AllReadyH.cons rfl (fun K hK => ?_) AllReadyH.nil)
      · obtain ⟨ua, hE⟩ : ∃ W, wx.drew.alloc (.cells #[] 27) = W := ⟨_, rfl⟩
        have hba : Below wx.drew wx.drew ua := hE ▸ AC wx.drew _
        have hia : ua.heap[wx.heap.size]? = some (.cells #[] 27) := hE ▸ AE wx.drew _
        have HBua := Vw (HBu0.out.trans (hba.mono HBu0.out.size))
        have H1ua := Vw (show AH ua 27 1 (.slice (some wx) 0 0) 0 [] from ⟨rfl, .inr ⟨wx.heap.size, 0, 0, #[], rfl, hia, Nat.le_refl _, by simp, fun j u hu => by simp at hu⟩⟩)
        have HZ1 := Vw HBu0.out.size
        have hkn := HSX.out ua HBua.out
        clear hba hia
        go_simp
        refine hK.out _ _ hkn (fun hHeld => ?_)
        clear hK hE
        refine wpAnyH_ready (rs := [3, 5]) (by kernel_rfl) (by simp) ?_
        refine AllReadyH.cons rfl (fun K hK => ?_) (AllReadyH.cons rfl (fun K hK => ?_) AllReadyH.nil)
        · refine Bb (by rfl) (.tmp 67) (.tmp 68) 28 28 (by rfl) GX (.slice (some wx) 0 0) 0 [] (by rfl) H1ua.out _ 8 _ (by rfl) ((HWX.out ua HBua.out).src underlying28 (by intro u hu; simp [Ln.cells, BZ] at hu; rcases hu with rfl | rfl | rfl | rfl | rfl | rfl | rfl | rfl <;> rfl)) (by decide) (by decide) ?_
          intro A3 cap3 uab hr3 hg3 hm3
          have H3uab := Vw (show AH uab 27 1 (.slice A3 8 cap3) 8 (Ln.cells BZ) from hr3)
          have HBuab := Vw (HBua.out.grown hg3 HBua.out.size (fun k hk => by have hk' : wx.heap.size = k := (by simpa [Value.ownBlock] using hk); have := HZ1.out; rw [← hk']; exact this))
          have hkn := HSX.out uab HBuab.out
          clear hr3 hg3 hm3
          refine hK.out _ _ hkn (fun hHeld => ?_)
          clear hK
          refine tc 5 fun K hK => ?_
          obtain ⟨uabc, hE, hba, hia⟩ := alloc_new uab (.cells #[.slice OA nn oc, ab] 31)
          have HBuabc := Vw (HBuab.out.trans (hba.mono HBuab.out.size))
          have H3uabc := Vw (H3uab.out.below hba)
          have H5uabc := Vw (show AH uabc 31 2 (.slice (some uab) 1 1) 1 [.slice OA nn oc, .bool ab] from AH.one hia rfl)
          have hkn := HSX.out uabc HBuabc.out
          clear hba hia
          go_simp
          refine hK.out _ _ hkn (fun hHeld => ?_)
          clear hK hE
          refine tc 6 fun K hK => ?_
          obtain ⟨uabcd, hE, hba, hia⟩ := alloc_new uabc (.cells #[.slice (some uab) 1 1, .slice none 0 0] 38)
          have HBuabcd := Vw (HBuabc.out.trans (hba.mono HBuabc.out.size))
          have H3uabcd := Vw (H3uabc.out.below hba)
          have H5uabcd := Vw (H5uabc.out.below hba)
          have H6uabcd := Vw (show AH uabcd 38 1 (.slice (some uabc) 2 2) 2 [.slice (some uab) 1 1, .slice none 0 0] from AH.made (m := 2) hia rfl)
          have hkn := HSX.out uabcd HBuabcd.out
          clear hba hia
          go_simp
          refine hK.out _ _ hkn (fun hHeld => ?_)
          clear hK hE
          have hct := Di (AU c kk v) (.slice (some uab) 1 1) OA nn oc uabcd (by rw [HAB.out]; exact H5uabcd.out) (fun w' hb' => by
           have h := BN (AU c kk v).ops (AU c kk v).abort (by have := HEO.out.2.2.1; omega) (.slice OA nn oc) w' (by rw [HNN.out]; exact ((HRO.out.below HBuabcd.out).below hb'))
           rw [HEO.out.2.1] at h
           exact h) (IR HCC.out HKX.out.1 v HV.out uabcd (.slice OA nn oc) (by rw [HNN.out]; exact HRO.out.below HBuabcd.out)) HOC.out.1 HOC.out.2.1 HOC.out.2.2.1 (of_decide_eq_true HOC.out.2.2.2)
          have hnw := DM BZ (BE [AU c kk v]) EI HPL.out (by decide) HOC.out.1 Fd (.slice A3 8 cap3) (.slice (some uabc) 2 2) _ _ uabcd H3uabcd.out H6uabcd.out hct (Ex _)
          simp only [Ai] at hnw
          have HNW := Vw hnw
          clear hct hnw
          refine tc 7 fun K hK => ?_
          go_simp
          refine HNW.out.mono ?_
          rintro e wn ⟨T, L, V, C, mk, CS, R, rb, rfl, hrn, hTz, hrb, hbn⟩
          have HN := Vw (WA hrn (WA (fun k (hk : k < wx.heap.size) => hTz k (Vy hk HBuabcd.out.size)) (WA (Vx HBuabcd.out.size hrb) (HBuabcd.out.trans (hbn.mono HBuabcd.out.size)))))
          have hk7 := HSX.out wn HN.out.2.2.2
          clear hrn hTz hrb hbn
          refine hK.out _ _ hk7 (fun hHeld => ?_)
          clear hK
          refine tk 8 65 ?_
          refine tk 9 74 ?_
          refine tk 10 75 ?_
          refine tk 11 13 ?_
          refine tk 12 14 ?_
          refine td ?_
          go_wp2_with fail
          go_meet
          exact ⟨rfl, T, L, V, C, mk, CS, R, rb, rfl, HN.out⟩
        · obtain ⟨uac, hE⟩ : ∃ W, ua.alloc (.cells #[.slice OA nn oc, ab] 31) = W := ⟨_, rfl⟩
          have hba : Below ua ua uac := hE ▸ AC ua _
          have hia : uac.heap[ua.heap.size]? = some (.cells #[.slice OA nn oc, ab] 31) := hE ▸ AE ua _
          have HBuac := Vw (HBua.out.trans (hba.mono HBua.out.size))
          have H1uac := Vw (H1ua.out.below hba)
          have H5uac := Vw (show AH uac 31 2 (.slice (some ua) 1 1) 1 [.slice OA nn oc, .bool ab] from AH.one hia rfl)
          have hkn := HSX.out uac HBuac.out
          clear hba hia
          go_simp
          refine hK.out _ _ hkn (fun hHeld => ?_)
          clear hK hE
          refine wpAnyH_ready (rs := [3, 6]) (by kernel_rfl) (by simp) ?_
          refine AllReadyH.cons rfl (fun K hK => ?_) (AllReadyH.cons rfl (fun K hK => ?_) AllReadyH.nil)
          · refine Bb (by rfl) (.tmp 67) (.tmp 68) 28 28 (by rfl) GX (.slice (some wx) 0 0) 0 [] (by rfl) H1uac.out _ 8 _ (by rfl) ((HWX.out uac HBuac.out).src underlying28 (by intro u hu; simp [Ln.cells, BZ] at hu; rcases hu with rfl | rfl | rfl | rfl | rfl | rfl | rfl | rfl <;> rfl)) (by decide) (by decide) ?_
            intro A3 cap3 uacb hr3 hg3 hm3
            have H3uacb := Vw (show AH uacb 27 1 (.slice A3 8 cap3) 8 (Ln.cells BZ) from hr3)
            have HBuacb := Vw (HBuac.out.grown hg3 HBuac.out.size (fun k hk => by have hk' : wx.heap.size = k := (by simpa [Value.ownBlock] using hk); have := HZ1.out; rw [← hk']; exact this))
            have H5uacb := Vw (Db H5uac.out H1uac.out (by decide) hg3)
            have hkn := HSX.out uacb HBuacb.out
            clear hr3 hg3 hm3
            refine hK.out _ _ hkn (fun hHeld => ?_)
            clear hK
            refine tc 6 fun K hK => ?_
            obtain ⟨uacbd, hE, hba, hia⟩ := alloc_new uacb (.cells #[.slice (some ua) 1 1, .slice none 0 0] 38)
            have HBuacbd := Vw (HBuacb.out.trans (hba.mono HBuacb.out.size))
            have H3uacbd := Vw (H3uacb.out.below hba)
            have H5uacbd := Vw (H5uacb.out.below hba)
            have H6uacbd := Vw (show AH uacbd 38 1 (.slice (some uacb) 2 2) 2 [.slice (some ua) 1 1, .slice none 0 0] from AH.made (m := 2) hia rfl)
            have hkn := HSX.out uacbd HBuacbd.out
            clear hba hia
            go_simp
            refine hK.out _ _ hkn (fun hHeld => ?_)
            clear hK hE
            have hct := Di (AU c kk v) (.slice (some ua) 1 1) OA nn oc uacbd (by rw [HAB.out]; exact H5uacbd.out) (fun w' hb' => by
             have h := BN (AU c kk v).ops (AU c kk v).abort (by have := HEO.out.2.2.1; omega) (.slice OA nn oc) w' (by rw [HNN.out]; exact ((HRO.out.below HBuacbd.out).below hb'))
             rw [HEO.out.2.1] at h
             exact h) (IR HCC.out HKX.out.1 v HV.out uacbd (.slice OA nn oc) (by rw [HNN.out]; exact HRO.out.below HBuacbd.out)) HOC.out.1 HOC.out.2.1 HOC.out.2.2.1 (of_decide_eq_true HOC.out.2.2.2)
            have hnw := DM BZ (BE [AU c kk v]) EI HPL.out (by decide) HOC.out.1 Fd (.slice A3 8 cap3) (.slice (some uacb) 2 2) _ _ uacbd H3uacbd.out H6uacbd.out hct (Ex _)
            simp only [Ai] at hnw
            have HNW := Vw hnw
            clear hct hnw
            refine tc 7 fun K hK => ?_
            go_simp
            refine HNW.out.mono ?_
            rintro e wn ⟨T, L, V, C, mk, CS, R, rb, rfl, hrn, hTz, hrb, hbn⟩
            have HN := Vw (WA hrn (WA (fun k (hk : k < wx.heap.size) => hTz k (Vy hk HBuacbd.out.size)) (WA (Vx HBuacbd.out.size hrb) (HBuacbd.out.trans (hbn.mono HBuacbd.out.size)))))
            have hk7 := HSX.out wn HN.out.2.2.2
            clear hrn hTz hrb hbn
            refine hK.out _ _ hk7 (fun hHeld => ?_)
            clear hK
            refine tk 8 65 ?_
            refine tk 9 74 ?_
            refine tk 10 75 ?_
            refine tk 11 13 ?_
            refine tk 12 14 ?_
            refine td ?_
            go_wp2_with fail
            go_meet
            exact ⟨rfl, T, L, V, C, mk, CS, R, rb, rfl, HN.out⟩
          · obtain ⟨uacd, hE⟩ : ∃ W, uac.alloc (.cells #[.slice (some ua) 1 1, .slice none 0 0] 38) = W := ⟨_, rfl⟩
            have hba : Below uac uac uacd := hE ▸ AC uac _
            have hia : uacd.heap[uac.heap.size]? = some (.cells #[.slice (some ua) 1 1, .slice none 0 0] 38) := hE ▸ AE uac _
            have HBuacd := Vw (HBuac.out.trans (hba.mono HBuac.out.size))
            have H1uacd := Vw (H1uac.out.below hba)
            have H5uacd := Vw (H5uac.out.below hba)
            have H6uacd := Vw (show AH uacd 38 1 (.slice (some uac) 2 2) 2 [.slice (some ua) 1 1, .slice none 0 0] from AH.made (m := 2) hia rfl)
            have hkn := HSX.out uacd HBuacd.out
            clear hba hia
            go_simp
            refine hK.out _ _ hkn (fun hHeld => ?_)
            clear hK hE
            refine tc 3 fun K hK => ?_
            refine Bb (by rfl) (.tmp 67) (.tmp 68) 28 28 (by rfl) GX (.slice (some wx) 0 0) 0 [] (by rfl) H1uacd.out _ 8 _ (by rfl) ((HWX.out uacd HBuacd.out).src underlying28 (by intro u hu; simp [Ln.cells, BZ] at hu; rcases hu with rfl | rfl | rfl | rfl | rfl | rfl | rfl | rfl <;> rfl)) (by decide) (by decide) ?_
            intro A3 cap3 uacdb hr3 hg3 hm3
            have H3uacdb := Vw (show AH uacdb 27 1 (.slice A3 8 cap3) 8 (Ln.cells BZ) from hr3)
            have HBuacdb := Vw (HBuacd.out.grown hg3 HBuacd.out.size (fun k hk => by have hk' : wx.heap.size = k := (by simpa [Value.ownBlock] using hk); have := HZ1.out; rw [← hk']; exact this))
            have H5uacdb := Vw (Db H5uacd.out H1uacd.out (by decide) hg3)
            have H6uacdb := Vw (Db H6uacd.out H1uacd.out (by decide) hg3)
            have hkn := HSX.out uacdb HBuacdb.out
            clear hr3 hg3 hm3
            refine hK.out _ _ hkn (fun hHeld => ?_)
            clear hK
            have hct := Di (AU c kk v) (.slice (some ua) 1 1) OA nn oc uacdb (by rw [HAB.out]; exact H5uacdb.out) (fun w' hb' => by
             have h := BN (AU c kk v).ops (AU c kk v).abort (by have := HEO.out.2.2.1; omega) (.slice OA nn oc) w' (by rw [HNN.out]; exact ((HRO.out.below HBuacdb.out).below hb'))
             rw [HEO.out.2.1] at h
             exact h) (IR HCC.out HKX.out.1 v HV.out uacdb (.slice OA nn oc) (by rw [HNN.out]; exact HRO.out.below HBuacdb.out)) HOC.out.1 HOC.out.2.1 HOC.out.2.2.1 (of_decide_eq_true HOC.out.2.2.2)
            have hnw := DM BZ (BE [AU c kk v]) EI HPL.out (by decide) HOC.out.1 Fd (.slice A3 8 cap3) (.slice (some uac) 2 2) _ _ uacdb H3uacdb.out H6uacdb.out hct (Ex _)
            simp only [Ai] at hnw
            have HNW := Vw hnw
            clear hct hnw
            refine tc 7 fun K hK => ?_
            go_simp
            refine HNW.out.mono ?_
            rintro e wn ⟨T, L, V, C, mk, CS, R, rb, rfl, hrn, hTz, hrb, hbn⟩
            have HN := Vw (WA hrn (WA (fun k (hk : k < wx.heap.size) => hTz k (Vy hk HBuacdb.out.size)) (WA (Vx HBuacdb.out.size hrb) (HBuacdb.out.trans (hbn.mono HBuacdb.out.size)))))
            have hk7 := HSX.out wn HN.out.2.2.2
            clear hrn hTz hrb hbn
            refine hK.out _ _ hk7 (fun hHeld => ?_)
            clear hK
            refine tk 8 65 ?_
            refine tk 9 74 ?_
            refine tk 10 75 ?_
            refine tk 11 13 ?_
            refine tk 12 14 ?_
            refine td ?_
            go_wp2_with fail
            go_meet
            exact ⟨rfl, T, L, V, C, mk, CS, R, rb, rfl, HN.out⟩
      · obtain ⟨uc, hE⟩ : ∃ W, wx.drew.alloc (.cells #[.slice OA nn oc, ab] 31) = W := ⟨_, rfl⟩
        have hba : Below wx.drew wx.drew uc := hE ▸ AC wx.drew _
        have hia : uc.heap[wx.heap.size]? = some (.cells #[.slice OA nn oc, ab] 31) := hE ▸ AE wx.drew _
        have HBuc := Vw (HBu0.out.trans (hba.mono HBu0.out.size))
        have H5uc := Vw (show AH uc 31 2 (.slice (some wx) 1 1) 1 [.slice OA nn oc, .bool ab] from AH.one hia rfl)
        have hkn := HSX.out uc HBuc.out
        clear hba hia
        go_simp
        refine hK.out _ _ hkn (fun hHeld => ?_)
        clear hK hE
        refine wpAnyH_ready (rs := [1, 6]) (by kernel_rfl) (by simp) ?_
        refine AllReadyH.cons rfl (fun K hK => ?_) (AllReadyH.cons rfl (fun K hK => ?_) AllReadyH.nil)
        · obtain ⟨uca, hE⟩ : ∃ W, uc.alloc (.cells #[] 27) = W := ⟨_, rfl⟩
          have hba : Below uc uc uca := hE ▸ AC uc _
          have hia : uca.heap[uc.heap.size]? = some (.cells #[] 27) := hE ▸ AE uc _
          have HBuca := Vw (HBuc.out.trans (hba.mono HBuc.out.size))
          have H5uca := Vw (H5uc.out.below hba)
          have H1uca := Vw (show AH uca 27 1 (.slice (some uc) 0 0) 0 [] from ⟨rfl, .inr ⟨uc.heap.size, 0, 0, #[], rfl, hia, Nat.le_refl _, by simp, fun j u hu => by simp at hu⟩⟩)
          have HZ1 := Vw HBuc.out.size
          have hkn := HSX.out uca HBuca.out
          clear hba hia
          go_simp
          refine hK.out _ _ hkn (fun hHeld => ?_)
          clear hK hE
          refine wpAnyH_ready (rs := [3, 6]) (by kernel_rfl) (by simp) ?_
          refine AllReadyH.cons rfl (fun K hK => ?_) (AllReadyH.cons rfl (fun K hK => ?_) AllReadyH.nil)
          · refine Bb (by rfl) (.tmp 67) (.tmp 68) 28 28 (by rfl) GX (.slice (some uc) 0 0) 0 [] (by rfl) H1uca.out _ 8 _ (by rfl) ((HWX.out uca HBuca.out).src underlying28 (by intro u hu; simp [Ln.cells, BZ] at hu; rcases hu with rfl | rfl | rfl | rfl | rfl | rfl | rfl | rfl <;> rfl)) (by decide) (by decide) ?_
            intro A3 cap3 ucab hr3 hg3 hm3
            have H3ucab := Vw (show AH ucab 27 1 (.slice A3 8 cap3) 8 (Ln.cells BZ) from hr3)
            have HBucab := Vw (HBuca.out.grown hg3 HBuca.out.size (fun k hk => by have hk' : uc.heap.size = k := (by simpa [Value.ownBlock] using hk); have := HZ1.out; rw [← hk']; exact this))
            have H5ucab := Vw (Db H5uca.out H1uca.out (by decide) hg3)
            have hkn := HSX.out ucab HBucab.out
            clear hr3 hg3 hm3
            refine hK.out _ _ hkn (fun hHeld => ?_)
            clear hK
            refine tc 6 fun K hK => ?_
            obtain ⟨ucabd, hE, hba, hia⟩ := alloc_new ucab (.cells #[.slice (some wx) 1 1, .slice none 0 0] 38)
            have HBucabd := Vw (HBucab.out.trans (hba.mono HBucab.out.size))
            have H3ucabd := Vw (H3ucab.out.below hba)
            have H5ucabd := Vw (H5ucab.out.below hba)
            have H6ucabd := Vw (show AH ucabd 38 1 (.slice (some ucab) 2 2) 2 [.slice (some wx) 1 1, .slice none 0 0] from AH.made (m := 2) hia rfl)
            have hkn := HSX.out ucabd HBucabd.out
            clear hba hia
            go_simp
            refine hK.out _ _ hkn (fun hHeld => ?_)
            clear hK hE
            have hct := Di (AU c kk v) (.slice (some wx) 1 1) OA nn oc ucabd (by rw [HAB.out]; exact H5ucabd.out) (fun w' hb' => by
             have h := BN (AU c kk v).ops (AU c kk v).abort (by have := HEO.out.2.2.1; omega) (.slice OA nn oc) w' (by rw [HNN.out]; exact ((HRO.out.below HBucabd.out).below hb'))
             rw [HEO.out.2.1] at h
             exact h) (IR HCC.out HKX.out.1 v HV.out ucabd (.slice OA nn oc) (by rw [HNN.out]; exact HRO.out.below HBucabd.out)) HOC.out.1 HOC.out.2.1 HOC.out.2.2.1 (of_decide_eq_true HOC.out.2.2.2)
            have hnw := DM BZ (BE [AU c kk v]) EI HPL.out (by decide) HOC.out.1 Fd (.slice A3 8 cap3) (.slice (some ucab) 2 2) _ _ ucabd H3ucabd.out H6ucabd.out hct (Ex _)
            simp only [Ai] at hnw
            have HNW := Vw hnw
            clear hct hnw
            refine tc 7 fun K hK => ?_
            go_simp
            refine HNW.out.mono ?_
            rintro e wn ⟨T, L, V, C, mk, CS, R, rb, rfl, hrn, hTz, hrb, hbn⟩
            have HN := Vw (WA hrn (WA (fun k (hk : k < wx.heap.size) => hTz k (Vy hk HBucabd.out.size)) (WA (Vx HBucabd.out.size hrb) (HBucabd.out.trans (hbn.mono HBucabd.out.size)))))
            have hk7 := HSX.out wn HN.out.2.2.2
            clear hrn hTz hrb hbn
            refine hK.out _ _ hk7 (fun hHeld => ?_)
            clear hK
            refine tk 8 65 ?_
            refine tk 9 74 ?_
            refine tk 10 75 ?_
            refine tk 11 13 ?_
            refine tk 12 14 ?_
            refine td ?_
            go_wp2_with fail
            go_meet
            exact ⟨rfl, T, L, V, C, mk, CS, R, rb, rfl, HN.out⟩
          · obtain ⟨ucad, hE⟩ : ∃ W, uca.alloc (.cells #[.slice (some wx) 1 1, .slice none 0 0] 38) = W := ⟨_, rfl⟩
            have hba : Below uca uca ucad := hE ▸ AC uca _
            have hia : ucad.heap[uca.heap.size]? = some (.cells #[.slice (some wx) 1 1, .slice none 0 0] 38) := hE ▸ AE uca _
            have HBucad := Vw (HBuca.out.trans (hba.mono HBuca.out.size))
            have H1ucad := Vw (H1uca.out.below hba)
            have H5ucad := Vw (H5uca.out.below hba)
            have H6ucad := Vw (show AH ucad 38 1 (.slice (some uca) 2 2) 2 [.slice (some wx) 1 1, .slice none 0 0] from AH.made (m := 2) hia rfl)
            have hkn := HSX.out ucad HBucad.out
            clear hba hia
            go_simp
            refine hK.out _ _ hkn (fun hHeld => ?_)
            clear hK hE
            refine tc 3 fun K hK => ?_
            refine Bb (by rfl) (.tmp 67) (.tmp 68) 28 28 (by rfl) GX (.slice (some uc) 0 0) 0 [] (by rfl) H1ucad.out _ 8 _ (by rfl) ((HWX.out ucad HBucad.out).src underlying28 (by intro u hu; simp [Ln.cells, BZ] at hu; rcases hu with rfl | rfl | rfl | rfl | rfl | rfl | rfl | rfl <;> rfl)) (by decide) (by decide) ?_
            intro A3 cap3 ucadb hr3 hg3 hm3
            have H3ucadb := Vw (show AH ucadb 27 1 (.slice A3 8 cap3) 8 (Ln.cells BZ) from hr3)
            have HBucadb := Vw (HBucad.out.grown hg3 HBucad.out.size (fun k hk => by have hk' : uc.heap.size = k := (by simpa [Value.ownBlock] using hk); have := HZ1.out; rw [← hk']; exact this))
            have H5ucadb := Vw (Db H5ucad.out H1ucad.out (by decide) hg3)
            have H6ucadb := Vw (Db H6ucad.out H1ucad.out (by decide) hg3)
            have hkn := HSX.out ucadb HBucadb.out
            clear hr3 hg3 hm3
            refine hK.out _ _ hkn (fun hHeld => ?_)
            clear hK
            have hct := Di (AU c kk v) (.slice (some wx) 1 1) OA nn oc ucadb (by rw [HAB.out]; exact H5ucadb.out) (fun w' hb' => by
             have h := BN (AU c kk v).ops (AU c kk v).abort (by have := HEO.out.2.2.1; omega) (.slice OA nn oc) w' (by rw [HNN.out]; exact ((HRO.out.below HBucadb.out).below hb'))
             rw [HEO.out.2.1] at h
             exact h) (IR HCC.out HKX.out.1 v HV.out ucadb (.slice OA nn oc) (by rw [HNN.out]; exact HRO.out.below HBucadb.out)) HOC.out.1 HOC.out.2.1 HOC.out.2.2.1 (of_decide_eq_true HOC.out.2.2.2)
            have hnw := DM BZ (BE [AU c kk v]) EI HPL.out (by decide) HOC.out.1 Fd (.slice A3 8 cap3) (.slice (some uca) 2 2) _ _ ucadb H3ucadb.out H6ucadb.out hct (Ex _)
            simp only [Ai] at hnw
            have HNW := Vw hnw
            clear hct hnw
            refine tc 7 fun K hK => ?_
            go_simp
            refine HNW.out.mono ?_
            rintro e wn ⟨T, L, V, C, mk, CS, R, rb, rfl, hrn, hTz, hrb, hbn⟩
            have HN := Vw (WA hrn (WA (fun k (hk : k < wx.heap.size) => hTz k (Vy hk HBucadb.out.size)) (WA (Vx HBucadb.out.size hrb) (HBucadb.out.trans (hbn.mono HBucadb.out.size)))))
            have hk7 := HSX.out wn HN.out.2.2.2
            clear hrn hTz hrb hbn
            refine hK.out _ _ hk7 (fun hHeld => ?_)
            clear hK
            refine tk 8 65 ?_
            refine tk 9 74 ?_
            refine tk 10 75 ?_
            refine tk 11 13 ?_
            refine tk 12 14 ?_
            refine td ?_
            go_wp2_with fail
            go_meet
            exact ⟨rfl, T, L, V, C, mk, CS, R, rb, rfl, HN.out⟩
        · obtain ⟨ucd, hE⟩ : ∃ W, uc.alloc (.cells #[.slice (some wx) 1 1, .slice none 0 0] 38) = W := ⟨_, rfl⟩
          have hba : Below uc uc ucd := hE ▸ AC uc _
          have hia : ucd.heap[uc.heap.size]? = some (.cells #[.slice (some wx) 1 1, .slice none 0 0] 38) := hE ▸ AE uc _
          have HBucd := Vw (HBuc.out.trans (hba.mono HBuc.out.size))
          have H5ucd := Vw (H5uc.out.below hba)
          have H6ucd := Vw (show AH ucd 38 1 (.slice (some uc) 2 2) 2 [.slice (some wx) 1 1, .slice none 0 0] from AH.made (m := 2) hia rfl)
          have hkn := HSX.out ucd HBucd.out
          clear hba hia
          go_simp
          refine hK.out _ _ hkn (fun hHeld => ?_)
          clear hK hE
          refine tc 1 fun K hK => ?_
          obtain ⟨ucda, hE, hba, hia⟩ := alloc_new ucd (.cells #[] 27)
          have HBucda := Vw (HBucd.out.trans (hba.mono HBucd.out.size))
          have H5ucda := Vw (H5ucd.out.below hba)
          have H6ucda := Vw (H6ucd.out.below hba)
          have H1ucda := Vw (show AH ucda 27 1 (.slice (some ucd) 0 0) 0 [] from ⟨rfl, .inr ⟨ucd.heap.size, 0, 0, #[], rfl, hia, Nat.le_refl _, by simp, fun j u hu => by simp at hu⟩⟩)
          have HZ1 := Vw HBucd.out.size
          have hkn := HSX.out ucda HBucda.out
          clear hba hia
          go_simp
          refine hK.out _ _ hkn (fun hHeld => ?_)
          clear hK hE
          refine tc 3 fun K hK => ?_
          refine Bb (by rfl) (.tmp 67) (.tmp 68) 28 28 (by rfl) GX (.slice (some ucd) 0 0) 0 [] (by rfl) H1ucda.out _ 8 _ (by rfl) ((HWX.out ucda HBucda.out).src underlying28 (by intro u hu; simp [Ln.cells, BZ] at hu; rcases hu with rfl | rfl | rfl | rfl | rfl | rfl | rfl | rfl <;> rfl)) (by decide) (by decide) ?_
          intro A3 cap3 ucdab hr3 hg3 hm3
          have H3ucdab := Vw (show AH ucdab 27 1 (.slice A3 8 cap3) 8 (Ln.cells BZ) from hr3)
          have HBucdab := Vw (HBucda.out.grown hg3 HBucda.out.size (fun k hk => by have hk' : ucd.heap.size = k := (by simpa [Value.ownBlock] using hk); have := HZ1.out; rw [← hk']; exact this))
          have H5ucdab := Vw (Db H5ucda.out H1ucda.out (by decide) hg3)
          have H6ucdab := Vw (Db H6ucda.out H1ucda.out (by decide) hg3)
          have hkn := HSX.out ucdab HBucdab.out
          clear hr3 hg3 hm3
          refine hK.out _ _ hkn (fun hHeld => ?_)
          clear hK
          have hct := Di (AU c kk v) (.slice (some wx) 1 1) OA nn oc ucdab (by rw [HAB.out]; exact H5ucdab.out) (fun w' hb' => by
           have h := BN (AU c kk v).ops (AU c kk v).abort (by have := HEO.out.2.2.1; omega) (.slice OA nn oc) w' (by rw [HNN.out]; exact ((HRO.out.below HBucdab.out).below hb'))
           rw [HEO.out.2.1] at h
           exact h) (IR HCC.out HKX.out.1 v HV.out ucdab (.slice OA nn oc) (by rw [HNN.out]; exact HRO.out.below HBucdab.out)) HOC.out.1 HOC.out.2.1 HOC.out.2.2.1 (of_decide_eq_true HOC.out.2.2.2)
          have hnw := DM BZ (BE [AU c kk v]) EI HPL.out (by decide) HOC.out.1 Fd (.slice A3 8 cap3) (.slice (some uc) 2 2) _ _ ucdab H3ucdab.out H6ucdab.out hct (Ex _)
          simp only [Ai] at hnw
          have HNW := Vw hnw
          clear hct hnw
          refine tc 7 fun K hK => ?_
          go_simp
          refine HNW.out.mono ?_
          rintro e wn ⟨T, L, V, C, mk, CS, R, rb, rfl, hrn, hTz, hrb, hbn⟩
          have HN := Vw (WA hrn (WA (fun k (hk : k < wx.heap.size) => hTz k (Vy hk HBucdab.out.size)) (WA (Vx HBucdab.out.size hrb) (HBucdab.out.trans (hbn.mono HBucdab.out.size)))))
          have hk7 := HSX.out wn HN.out.2.2.2
          clear hrn hTz hrb hbn
          refine hK.out _ _ hk7 (fun hHeld => ?_)
          clear hK
          refine tk 8 65 ?_
          refine tk 9 74 ?_
          refine tk 10 75 ?_
          refine tk 11 13 ?_
          refine tk 12 14 ?_
          refine td ?_
          go_wp2_with fail
          go_meet
          exact ⟨rfl, T, L, V, C, mk, CS, R, rb, rfl, HN.out⟩
     case rest =>
      obtain ⟨rfl, T, L, V, C, mk, CS, R, rb, rfl, hrn, hTz, hrb, hbc⟩ := hcut
      obtain ⟨mF, evF, hset, hquiet, hwq, hlast, hwords⟩ := HRUN.out
      have hse := Gc _ _ _ hset
      rw [HKX.out.2] at hlast
      have HMC := Vw (Eo T L V C mk CS R rb (.slice none 0 0) (Du c kk v) [] wc hrn)
      have HSE := Vw (Hd Hh T L V C mk CS R rb (.slice none 0 0) (Du c kk v) (fun i hi => by
       rcases Aa hi with rfl | rfl
       · exact HPL.out
       · exact (show EI.length ≤ 4096 by decide)) 2000 (by decide) mF evF hset wc hrn)
      obtain ⟨li, hl1, hl2⟩ := Rc hlast (by decide)
      have HLI := Vw (WA hl1 hl2)
      have HQ := Vw (WA hquiet (WA hwq (WA hwords hse)))
      have HRN := Vw (WA hrn (WA hTz (WA hrb hbc)))
      clear hrn hTz hrb hbc hset hquiet hwq hlast hwords hse hl1 hl2 HSX HT HRO HNN HAB HEO HOC HRUN
      go_wp2_with fail
      refine HMC.out.mono ?_
      rintro e w9 ⟨rfl, rfl⟩
      go_wp2_with fail
      refine HSE.out.mono ?_
      rintro e w10 ⟨T1, V1, LV1, ⟨vv, rfl⟩, hrn1, hrs1, hle⟩
      have HEV := Vw (He T1 L V1 C mk CS R rb LV1 mF evF (by omega) w10 hrn1)
      have H10 := Vw (WA hrn1 (WA hrs1 hle))
      clear hrn1 hrs1 hle HMC HSE
      go_wp2_with fail
      refine HEV.out.mono ?_
      rintro e w11 ⟨ES, rfl, hes, heo, hb11⟩
      have HTE := Vw (LR evF 0 (by have := H10.out.2.2; omega) ES w11 hes)
      have HB11 := Vw hb11
      clear hes heo hb11 HEV
      go_wp2_with fail
      refine HTE.out.mono ?_
      rintro e w12 ⟨TS, rfl, hts, hto, hb12⟩
      have HB12 := Vw (HB11.out.trans (hb12.mono HB11.out.size))
      have HTO := Vw (show ∀ k, TS.ownBlock = some k → w10.heap.size ≤ k from fun k hk => Vx HB11.out.size (hto k hk))
      have hr12 := H10.out.1.below HB12.out
      have HMC := Vw (Eo T1 L V1 C mk CS R rb LV1 mF evF w12 hr12)
      have HQU := Vw (Hp HQ.out.2.2.2.1 HQ.out.2.2.2.2.1 hr12)
      have HTS := Vw hts
      obtain ⟨g, off, AV, hv', hcap', _⟩ := DK hts HLI.out.2
      rw [HLI.out.1] at hv' hcap'
      subst hv'
      have hli0 : (0 : Int) ≤ (li : Int) := by omega
      have hcI2 : (li : Int) + 1 ≤ (AV : Int) := by omega
      have hliN : (li : Int) + 1 < 100000 := by
       have h1 := LS 0 evF
       have h2 := H10.out.2.2
       have h3 := HLI.out.1
       omega
      clear hts hto hb12 hr12 HTE hcap'
      go_wp2_with fail
      refine HMC.out.mono ?_
      rintro e w12' ⟨rfl, rfl⟩
      go_wp2_with fail
      refine HQU.out.mono ?_
      rintro e w13 ⟨rfl, T2, V2, hrn2, hrs2⟩
      rw [HQ.out.1]
      have HKEEP := Vw (show ∀ k, k < wx.heap.size → w13.heap[k]? = wc.heap[k]? from fun k hk => by
       have hkc : k < wc.heap.size := Vy hk HRN.out.2.2.2.size
       have h0 := HRN.out.2.1 k hk
       have h1 : T1 k = 0 := (H10.out.2.1.lab k hkc).trans h0
       have hne : k ≠ rb := by have := HRN.out.2.2.1; omega
       have hk10 := Vy hkc H10.out.2.1.pres.size
       have a1 := H10.out.2.1.pres.block k hkc ⟨by rw [h0]; rfl, hne, by simp [Value.ownBlock]⟩
       have a2 := HB12.out.block k hk10
       have a3 := hrs2.pres.block k (Vy hk10 HB12.out.size) ⟨by rw [h1]; rfl, hne, fun e => by
        rcases H10.out.2.1.mv k e with h | h
        · simp [Value.ownBlock] at h
        · omega⟩
       exact a3.trans (a2.trans a1))
      have hts13 : AH w13 27 1 (.slice (some ⟨g, off, none⟩) (li + 1) AV) (BT 0 evF).length (AX (BT 0 evF)) := HTS.out.kept fun k hk => hrs2.pres.block k (HTS.out.lt k hk) ⟨by rw [H10.out.1.low k (HTO.out k hk)]; rfl, fun e => by
       have := AF H10.out.1.head
       have := HTO.out k hk
       omega, fun e => by
       have := H10.out.1.row.lt k e
       have := HTO.out k hk
       omega⟩
      obtain ⟨g', off', cap'', hv', _, x13⟩ := DK hts13 HLI.out.2
      rw [HLI.out.1] at hv'
      cases hv'
      obtain ⟨x0, x1, x2, x3, hmem⟩ := hrn2.mem5
      have HMP := Vw (JV T2 L V2 C mk CS R rb LV1 mF evF x0 x1 x2 x3 mF.s.words HQ.out.2.1 hmem w13 hrn2)
      have HB13 := Vw (show Below w w w13 from ⟨hrs2.pres.os.trans (HB12.out.os.trans (H10.out.2.1.pres.os.trans (HRN.out.2.2.2.os.trans HBX.out.os))), hrs2.pres.tape.trans (HB12.out.tape.trans (H10.out.2.1.pres.tape.trans (HRN.out.2.2.2.tape.trans HBX.out.tape))), hrs2.pres.output.trans (HB12.out.output.trans (H10.out.2.1.pres.output.trans (HRN.out.2.2.2.output.trans HBX.out.output))), Vx HBX.out.size (Vx HRN.out.2.2.2.size (Vx H10.out.2.1.pres.size (Vx HB12.out.size hrs2.pres.size))), fun k hk => (HKEEP.out k (Vy hk HBX.out.size)).trans ((HRN.out.2.2.2.block k (Vy hk HBX.out.size)).trans (HBX.out.block k hk))⟩)
      have HW13 := Vw (show AH w13 27 1 (.slice (some mb) 8 8) 8 (Ln.cells BZ) from (HWX.out wc HRN.out.2.2.2).kept fun k hk => by
       have hk' : mb = k := (by simpa [Value.ownBlock] using hk)
       exact HKEEP.out k (hk' ▸ HMB.out))
      clear hrn2 hrs2 hts13 hmem HMC HQU
      go_wp2_with fail
      refine HMP.out.mono ?_
      rintro e w14 ⟨MV, rfl, hm14, ho14, hb14⟩
      rw [Nw HQ.out.2.2.1] at hm14
      have HWD := Vw (Mz [1, 2, 3, 4, 5, 6, 7, 8] [1, 2, 3, 4, 5, 6, 7, 8] (by decide) (by decide) MV (.slice (some mb) 8 8) w14 hm14 (HW13.out.below hb14))
      have HB14 := Vw (HB13.out.trans (hb14.mono HB13.out.size))
      clear hm14 ho14 hb14 x13 HMP
      go_wp2_with fail
      refine HWD.out.mono ?_
      rintro e w15 ⟨rfl, hb15⟩
      have HB15 := Vw (HB14.out.trans (hb15.mono HB14.out.size))
      clear hb15 HWD
      go_wp2_with fail
      refine (HWK.out w15).mono ?_
      rintro e w16 ⟨rfl, hb16⟩
      have HB16 := Vw (HB15.out.trans (hb16.mono HB15.out.size))
      clear hb16
      go_wp2_with fail
      go_ret
      exact ⟨rfl, HB16.out⟩
end Go.Proofs.YtkoplblbeapfgaaGreatDoor
