/-
Parts of the walk of TopEnds. Conditions stand in each statement.
-/
import Derived.Test.YtkoplblbeapfgaaGreatDoorX30
import Derived.Test.YtkoplblbeapfgaaGreatDoorX31
namespace Go.Proofs.YtkoplblbeapfgaaGreatDoor
open Go.RowKit
open Tryz
set_option linter.all false
set_option maxRecDepth 100000
set_option maxHeartbeats 8000000
def Ae (t : TxI) : BS := (Dq ⟨[], [], []⟩ t).add [⟨22, 0, 0, 0, 0⟩]
theorem Di (t : TxI) (X : Value) (OA : Option Addr) (on oc : Nat) (w0 : World) (hX : AH w0 31 2 X 1 [.slice OA on oc, .bool t.abort]) (hg : ∀ w, Below w0 w0 w → Y 51 #[.agg #[.slice OA on oc, t.abort]] w fun e w' => e = Z (.bool true) ∧ Below w.heap.size w w') (htx : Jz w0 (.slice OA on oc) t) (hok : Bk (BE [t]) = true) (hjo : Bm (Ae t) = true) (hln : decide (0 < (Ae t).l.length ∧ (Ae t).l.length ≤ 4096 ∧ (Ae t).jumps.length ≤ 4096 ∧ (Ae t).marks.length ≤ 4096) = true) (hl2 : (Dq ⟨[], [], []⟩ t).l.length ≤ 4096) : Fr w0 X (BE [t]) := by
 intro w hw0
 obtain ⟨xg, xo, xc, xcs, rfl, hxg, hxc, _, hxx⟩ := hX.lies (by decide)
 obtain ⟨n1, n2, n3, n4⟩ := of_decide_eq_true hln
 have hgo := CA
 have hdn := Vw (fun Av bb w h => GL Av bb (Ae t) n1 n2 n3 n4 (Jh hjo) (Dk hok) w h)
 have HG0 := Vw hg
 have HT0 := Vw htx
 have hxw := (hw0.block xg (AF hxg)).trans hxg
 have hlx := AF hxg
 have HW0 := Vw hw0
 have HXW := Vw hxw
 have HXX := Vw hxx
 have hcx : (1 : Int) ≤ (xc : Int) := by omega
 have HL2 := Vw hl2
 clear hX hg htx hok hjo hln n1 n2 n3 n4 hxg hw0 hxw hl2
 simp only [Ai] at hgo ⊢
 obtain ⟨W1, hE, hb1, hI1⟩ := alloc_new w (.cells KA 25)
 have c1 := AA hI1
 have HB1 := Vw hb1
 have HI1 := Vw hI1
 clear hb1 hI1
 go_enter func27, ntmps27
 go_wp2_with fail
 refine (hgo _).mono ?_
 rintro e w2 ⟨rfl, hb2⟩
 have HB2 := Vw (HB1.out.trans (hb2.mono HB1.out.size))
 have c2 := AA (AB hb2 HI1.out)
 have HI2 := Vw (AB hb2 HI1.out)
 have hx2 := AB HB2.out HXW.out
 have x0 : w2.cell? ⟨xg, xo, none⟩ = some (.slice OA on oc) := AD hx2 _ (HXX.out 0 _ rfl)
 have x1 : w2.cell? ⟨xg, xo + 1, none⟩ = t.abort := AD hx2 _ (HXX.out 1 _ rfl)
 have HX2 := Vw hx2
 clear hx2
 clear hb2 c1 hE
 go_wp2_with fail
 refine wp_loop_rounds 2 ?_
 rw [rounds_succ]
 obtain ⟨W3, hE3, hb3, hI3⟩ := alloc_new w2 (.cells #[.slice OA on oc, t.abort] 31)
 have c3 := AA hI3
 have HB3 := Vw (HB2.out.trans (hb3.mono HB2.out.size))
 have hgd := Vw (HG0.out W3 (HW0.out.trans (HB3.out.mono HW0.out.size)))
 clear hb3 hI3
 go_wp2_with fail
 refine hgd.out.mono ?_
 rintro e w4 ⟨rfl, hb4⟩
 have HB4 := Vw (HB3.out.trans (hb4.mono HB3.out.size))
 have hx4 := AB HB4.out HXW.out
 have y0 : w4.cell? ⟨xg, xo, none⟩ = some (.slice OA on oc) := AD hx4 _ (HXX.out 0 _ rfl)
 have y1 : w4.cell? ⟨xg, xo + 1, none⟩ = t.abort := AD hx4 _ (HXX.out 1 _ rfl)
 have HI4b := Vw (AB HB4.out (show w.heap[xg]? = _ from HXW.out))
 have c4 := AA (show w4.heap[w.heap.size]? = _ from (AB hb4 (hE3 ▸ AB (AC w2 _) HI2.out)))
 have HI5 := Vw (show w4.heap[w.heap.size]? = _ from (AB hb4 (hE3 ▸ AB (AC w2 _) HI2.out)))
 clear hb4 x0 x1 c2 c3 hx4
 go_wp2_with fail
 rw [rounds_succ]
 obtain ⟨W5, hE5⟩ := ex_ (w4.alloc (.cells #[.slice none 0 0, .slice none 0 0, .slice none 0 0, false] 159))
 have hs5 : W5.heap.size = w4.heap.size + 1 := by rw [← hE5]; simp
 obtain ⟨W6, hE6, hb6, hI6⟩ := alloc_new W5 (.cells #[w4.heap.size, I 2, I 5, I 1, I 1, I 2, I 2, I 2, I 2, I 1, I 0, I 0, I 0] 161)
 have G0 : Ap (fun k => k < w4.heap.size) W5 w4.heap.size ⟨[], [], []⟩ := hE5 ▸ Ap.new w4
 have G := Vw (show Ap (fun k => k < w4.heap.size ∨ k = W5.heap.size) W6 w4.heap.size ⟨[], [], []⟩ from hE6 ▸ G0.guard _)
 rw [hs5] at hI6 G
 have HW5 := Vw (show Below w w W5 from hE5 ▸ HB4.out.trans ((AC w4 _).mono HB4.out.size))
 have HW6 := Vw (HW5.out.trans (hb6.mono HW5.out.size))
 have c5 := AA (show W5.heap[w.heap.size]? = _ from hE5 ▸ AB (AC w4 _) HI5.out)
 have HI6 := Vw hI6
 have hz4 := Vw HB4.out.size
 have hz6 := Vw (show w4.heap.size + 1 < W6.heap.size from AF hI6)
 have hx6 := AB HW6.out HXW.out
 have z0 : W6.cell? ⟨xg, xo, none⟩ = some (.slice OA on oc) := AD hx6 _ (HXX.out 0 _ rfl)
 have z1 : W6.cell? ⟨xg, xo + 1, none⟩ = t.abort := AD hx6 _ (HXX.out 1 _ rfl)
 obtain ⟨W7, hE7, hb7, -⟩ := alloc_new W6 (.cells #[.slice OA on oc, t.abort] 31)
 have c7 := AA (show W7.heap[W6.heap.size]? = some (.cells #[.slice OA on oc, t.abort] 31) from hE7 ▸ AE W6 _)
 have HW7 := Vw (HW6.out.trans (hb7.mono HW6.out.size))
 have hz7 := hb7.size
 have htx := Vw (HT0.out (fun k => k < w4.heap.size) w4.heap.size (w4.heap.size + 1) ⟨[], [], []⟩ 0 0 0 W7 (HW0.out.trans (HW7.out.mono HW0.out.size)) (fun k hk => by have := HW0.out.size; have := hz4.out; omega) (fun k hk => by have := hz6.out; omega) (by omega) (by decide) (by decide) (by decide) (G.out.below hb7) (AB hb7 HI6.out))
 clear G0 hb6 hI6 hx6 hb7
 generalize hbb : w4.heap.size = bb at *
 go_wp2_with fail
 refine wp_loop_rounds 2 ?_
 rw [rounds_succ]
 clear c4 c5 y0 y1
 go_wp2_with fail
 refine htx.out.mono ?_
 rintro e w8 ⟨rfl, g8, ⟨f8, k8, e8, hwr⟩, hp8⟩
 have G8 := Vw g8
 have HWR := Vw hwr
 have HP8 := Vw hp8
 have c8 := AA hwr
 unfold TV at c8
 have hA8 := Vw (show ∀ k, (k < bb ∨ k = bb + 1) → k < w8.heap.size from fun k hk => by have := hp8.size; have := hz6.out; omega)
 clear g8 hwr hp8 c7 z0 z1
 go_wp2_with fail
 rw [rounds_succ]
 go_wp2_with fail
 refine (Dw _ bb (Dq ⟨[], [], []⟩ t) [⟨22, 0, 0, 0, 0⟩] 1 rfl _ G8.out hA8.out (by have := HL2.out; omega)).mono ?_
 rintro e w9 ⟨rfl, g9, hp9⟩
 have G9 := Vw (show Ap (fun k => k < bb ∨ k = bb + 1) w9 bb (Ae t) from g9)
 have HP9 := Vw hp9
 have hwr9 := (hp9.block (bb + 1) (AF HWR.out) (.inr rfl)).trans HWR.out
 have c9 := AA hwr9
 unfold TV at c9
 clear g9 hp9 c8 hwr9
 go_wp2_with fail
 refine (hdn.out _ bb _ G9.out).mono ?_
 rintro e w10 ⟨S, rfl, hr, ho, hb⟩
 have h1 := HW7.out.size
 have h2 := HP8.out.size
 have h3 := HP9.out.size
 have h4 := hz4.out
 have HF := Vw (show AH w10 27 1 S (BE [t]).length (AX ((BE [t]).map BG)) ∧ (∀ k, S.ownBlock = some k → w.heap.size ≤ k) ∧ Below w w w10 from ⟨hr, fun k hk => by have := ho k hk; omega, ⟨hb.os.trans (HP9.out.os.trans (HP8.out.os.trans HW7.out.os)), hb.tape.trans (HP9.out.tape.trans (HP8.out.tape.trans HW7.out.tape)), hb.output.trans (HP9.out.output.trans (HP8.out.output.trans HW7.out.output)), by have := hb.size; omega, fun k hk => (hb.block k (by omega)).trans ((HP9.out.block k (by omega) (.inl (by omega))).trans ((HP8.out.block k (by omega) (by omega)).trans (HW7.out.block k hk)))⟩⟩)
 clear hr ho hb h1 h2 h3 h4
 go_wp2_with fail
 go_ret2
 exact ⟨S, rfl, HF.out⟩
def SW (i : Ins) : Bool := i.op == 1 && i.a == 4
theorem SO {l : List Ins} (h : ∀ i ∈ l, CF i = true) : Bk l = true := by
 induction l with
 | nil => rfl
 | cons a l ih => simp only [Bk, Bool.and_eq_true]; exact ⟨h a (by simp), ih fun i hi => h i (by simp [hi])⟩
theorem CT {l : List Ins} {n : Nat} {v : Int} (hv : 0 ≤ v ∧ v < 256) (h1 : l.filter SW = List.replicate n ⟨1, 4, 0, 0, v + 10⟩) (h2 : (l.filter fun i => !SW i).all CF = true) : Bk l = true := by
 refine SO fun i hi => ?_
 cases hv' : SW i with
 | true =>
   have : i ∈ l.filter SW := List.mem_filter.2 ⟨hi, hv'⟩
   rw [h1] at this
   obtain ⟨_, rfl⟩ := List.mem_replicate.1 this
   have := Uo (v + 10).toNat (by omega)
   rwa [Int.toNat_of_nonneg (by omega)] at this
 | false => exact List.all_eq_true.1 h2 i (List.mem_filter.2 ⟨hi, by simp [hv']⟩)
theorem VX (v : Int) (hv : 0 ≤ v ∧ v < 256) : Bk (BE [AU 0 0 v]) = true ∧ Bm (Ae (AU 0 0 v)) = true ∧ decide (0 < (Ae (AU 0 0 v)).l.length ∧ (Ae (AU 0 0 v)).l.length ≤ 4096 ∧ (Ae (AU 0 0 v)).jumps.length ≤ 4096 ∧ (Ae (AU 0 0 v)).marks.length ≤ 4096) = true ∧ decide ((Dq ⟨[], [], []⟩ (AU 0 0 v)).l.length ≤ 4096) = true :=
 ⟨CT (n := 3) hv (by kernel_rfl) (by kernel_rfl), by kernel_rfl, by kernel_rfl, by kernel_rfl⟩
theorem VW (v : Int) (hv : 0 ≤ v ∧ v < 256) : Bk (BE [AU 0 1 v]) = true ∧ Bm (Ae (AU 0 1 v)) = true ∧ decide (0 < (Ae (AU 0 1 v)).l.length ∧ (Ae (AU 0 1 v)).l.length ≤ 4096 ∧ (Ae (AU 0 1 v)).jumps.length ≤ 4096 ∧ (Ae (AU 0 1 v)).marks.length ≤ 4096) = true ∧ decide ((Dq ⟨[], [], []⟩ (AU 0 1 v)).l.length ≤ 4096) = true :=
 ⟨CT (n := 3) hv (by kernel_rfl) (by kernel_rfl), by kernel_rfl, by kernel_rfl, by kernel_rfl⟩
theorem VV (v : Int) (hv : 0 ≤ v ∧ v < 256) : Bk (BE [AU 0 2 v]) = true ∧ Bm (Ae (AU 0 2 v)) = true ∧ decide (0 < (Ae (AU 0 2 v)).l.length ∧ (Ae (AU 0 2 v)).l.length ≤ 4096 ∧ (Ae (AU 0 2 v)).jumps.length ≤ 4096 ∧ (Ae (AU 0 2 v)).marks.length ≤ 4096) = true ∧ decide ((Dq ⟨[], [], []⟩ (AU 0 2 v)).l.length ≤ 4096) = true :=
 ⟨CT (n := 3) hv (by kernel_rfl) (by kernel_rfl), by kernel_rfl, by kernel_rfl, by kernel_rfl⟩
theorem VU (v : Int) (hv : 0 ≤ v ∧ v < 256) : Bk (BE [AU 1 0 v]) = true ∧ Bm (Ae (AU 1 0 v)) = true ∧ decide (0 < (Ae (AU 1 0 v)).l.length ∧ (Ae (AU 1 0 v)).l.length ≤ 4096 ∧ (Ae (AU 1 0 v)).jumps.length ≤ 4096 ∧ (Ae (AU 1 0 v)).marks.length ≤ 4096) = true ∧ decide ((Dq ⟨[], [], []⟩ (AU 1 0 v)).l.length ≤ 4096) = true :=
 ⟨CT (n := 4) hv (by kernel_rfl) (by kernel_rfl), by kernel_rfl, by kernel_rfl, by kernel_rfl⟩
theorem VT (v : Int) (hv : 0 ≤ v ∧ v < 256) : Bk (BE [AU 1 1 v]) = true ∧ Bm (Ae (AU 1 1 v)) = true ∧ decide (0 < (Ae (AU 1 1 v)).l.length ∧ (Ae (AU 1 1 v)).l.length ≤ 4096 ∧ (Ae (AU 1 1 v)).jumps.length ≤ 4096 ∧ (Ae (AU 1 1 v)).marks.length ≤ 4096) = true ∧ decide ((Dq ⟨[], [], []⟩ (AU 1 1 v)).l.length ≤ 4096) = true :=
 ⟨CT (n := 4) hv (by kernel_rfl) (by kernel_rfl), by kernel_rfl, by kernel_rfl, by kernel_rfl⟩
theorem VS (v : Int) (hv : 0 ≤ v ∧ v < 256) : Bk (BE [AU 1 2 v]) = true ∧ Bm (Ae (AU 1 2 v)) = true ∧ decide (0 < (Ae (AU 1 2 v)).l.length ∧ (Ae (AU 1 2 v)).l.length ≤ 4096 ∧ (Ae (AU 1 2 v)).jumps.length ≤ 4096 ∧ (Ae (AU 1 2 v)).marks.length ≤ 4096) = true ∧ decide ((Dq ⟨[], [], []⟩ (AU 1 2 v)).l.length ≤ 4096) = true :=
 ⟨CT (n := 4) hv (by kernel_rfl) (by kernel_rfl), by kernel_rfl, by kernel_rfl, by kernel_rfl⟩
theorem VR (v : Int) (hv : 0 ≤ v ∧ v < 256) : Bk (BE [AU 2 0 v]) = true ∧ Bm (Ae (AU 2 0 v)) = true ∧ decide (0 < (Ae (AU 2 0 v)).l.length ∧ (Ae (AU 2 0 v)).l.length ≤ 4096 ∧ (Ae (AU 2 0 v)).jumps.length ≤ 4096 ∧ (Ae (AU 2 0 v)).marks.length ≤ 4096) = true ∧ decide ((Dq ⟨[], [], []⟩ (AU 2 0 v)).l.length ≤ 4096) = true :=
 ⟨CT (n := 5) hv (by kernel_rfl) (by kernel_rfl), by kernel_rfl, by kernel_rfl, by kernel_rfl⟩
theorem VQ (v : Int) (hv : 0 ≤ v ∧ v < 256) : Bk (BE [AU 2 1 v]) = true ∧ Bm (Ae (AU 2 1 v)) = true ∧ decide (0 < (Ae (AU 2 1 v)).l.length ∧ (Ae (AU 2 1 v)).l.length ≤ 4096 ∧ (Ae (AU 2 1 v)).jumps.length ≤ 4096 ∧ (Ae (AU 2 1 v)).marks.length ≤ 4096) = true ∧ decide ((Dq ⟨[], [], []⟩ (AU 2 1 v)).l.length ≤ 4096) = true :=
 ⟨CT (n := 5) hv (by kernel_rfl) (by kernel_rfl), by kernel_rfl, by kernel_rfl, by kernel_rfl⟩
theorem VP (v : Int) (hv : 0 ≤ v ∧ v < 256) : Bk (BE [AU 2 2 v]) = true ∧ Bm (Ae (AU 2 2 v)) = true ∧ decide (0 < (Ae (AU 2 2 v)).l.length ∧ (Ae (AU 2 2 v)).l.length ≤ 4096 ∧ (Ae (AU 2 2 v)).jumps.length ≤ 4096 ∧ (Ae (AU 2 2 v)).marks.length ≤ 4096) = true ∧ decide ((Dq ⟨[], [], []⟩ (AU 2 2 v)).l.length ≤ 4096) = true :=
 ⟨CT (n := 5) hv (by kernel_rfl) (by kernel_rfl), by kernel_rfl, by kernel_rfl, by kernel_rfl⟩
theorem VO (v : Int) (hv : 0 ≤ v ∧ v < 256) : Bk (BE [AU 3 0 v]) = true ∧ Bm (Ae (AU 3 0 v)) = true ∧ decide (0 < (Ae (AU 3 0 v)).l.length ∧ (Ae (AU 3 0 v)).l.length ≤ 4096 ∧ (Ae (AU 3 0 v)).jumps.length ≤ 4096 ∧ (Ae (AU 3 0 v)).marks.length ≤ 4096) = true ∧ decide ((Dq ⟨[], [], []⟩ (AU 3 0 v)).l.length ≤ 4096) = true :=
 ⟨CT (n := 6) hv (by kernel_rfl) (by kernel_rfl), by kernel_rfl, by kernel_rfl, by kernel_rfl⟩
theorem VN (v : Int) (hv : 0 ≤ v ∧ v < 256) : Bk (BE [AU 3 1 v]) = true ∧ Bm (Ae (AU 3 1 v)) = true ∧ decide (0 < (Ae (AU 3 1 v)).l.length ∧ (Ae (AU 3 1 v)).l.length ≤ 4096 ∧ (Ae (AU 3 1 v)).jumps.length ≤ 4096 ∧ (Ae (AU 3 1 v)).marks.length ≤ 4096) = true ∧ decide ((Dq ⟨[], [], []⟩ (AU 3 1 v)).l.length ≤ 4096) = true :=
 ⟨CT (n := 6) hv (by kernel_rfl) (by kernel_rfl), by kernel_rfl, by kernel_rfl, by kernel_rfl⟩
theorem VM (v : Int) (hv : 0 ≤ v ∧ v < 256) : Bk (BE [AU 3 2 v]) = true ∧ Bm (Ae (AU 3 2 v)) = true ∧ decide (0 < (Ae (AU 3 2 v)).l.length ∧ (Ae (AU 3 2 v)).l.length ≤ 4096 ∧ (Ae (AU 3 2 v)).jumps.length ≤ 4096 ∧ (Ae (AU 3 2 v)).marks.length ≤ 4096) = true ∧ decide ((Dq ⟨[], [], []⟩ (AU 3 2 v)).l.length ≤ 4096) = true :=
 ⟨CT (n := 6) hv (by kernel_rfl) (by kernel_rfl), by kernel_rfl, by kernel_rfl, by kernel_rfl⟩
theorem Lh : Bk (BE [Cy]) = true ∧ Bm (Ae Cy) = true ∧ decide (0 < (Ae Cy).l.length ∧ (Ae Cy).l.length ≤ 4096 ∧ (Ae Cy).jumps.length ≤ 4096 ∧ (Ae Cy).marks.length ≤ 4096) = true ∧ decide ((Dq ⟨[], [], []⟩ Cy).l.length ≤ 4096) = true := ⟨by kernel_rfl, by kernel_rfl, by kernel_rfl, by kernel_rfl⟩
theorem Lg : Bk (BE [Cx]) = true ∧ Bm (Ae Cx) = true ∧ decide (0 < (Ae Cx).l.length ∧ (Ae Cx).l.length ≤ 4096 ∧ (Ae Cx).jumps.length ≤ 4096 ∧ (Ae Cx).marks.length ≤ 4096) = true ∧ decide ((Dq ⟨[], [], []⟩ Cx).l.length ≤ 4096) = true := ⟨by kernel_rfl, by kernel_rfl, by kernel_rfl, by kernel_rfl⟩
end Go.Proofs.YtkoplblbeapfgaaGreatDoor
