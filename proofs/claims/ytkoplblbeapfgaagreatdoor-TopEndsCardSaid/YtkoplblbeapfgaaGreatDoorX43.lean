/-
Parts of the walk of TopEnds. Conditions stand in each statement.
-/
import Derived.Deep.Cut
import Derived.Deep.CutRange
import Derived.Test.YtkoplblbeapfgaaGreatDoorX50
import Derived.Test.YtkoplblbeapfgaaGreatDoorX35
import Derived.Test.YtkoplblbeapfgaaGreatDoorX42
namespace Go.Proofs.YtkoplblbeapfgaaGreatDoor
open Go.RowKit
open Tryz
set_option linter.all false
set_option maxRecDepth 100000
set_option maxHeartbeats 8000000
theorem wp_dag {P : Program} {ops : Array Oper} {Q : Exit → Act → World → Prop} {md : Region.Mode} {S : World → Prop} {R : Nat → Array Bool → Act → World → Prop} (h0 : ∀ l a w, ¬ R 0 l a w)
 (hn : ∀ n l a w, R (n + 1) l a w → Region.ready md ops l ≠ [])
 (h : ∀ n l a w, R (n + 1) l a w → ∀ i ∈ Region.ready md ops l, ∃ o, ops[i]? = some o ∧ ∀ K' : Act → World → Prop, Shut (∀ a w, S w → (S w → R n (l.setIfInBounds i true) a w ∨ wpAnyH P md ops Q S n (l.setIfInBounds i true) a w) → K' a w) → if Region.wanted o (yielded ops a.tmps) = true then Oper.wp P o a w K' Q else K' (a.put o.dst undef) w) :
 ∀ n l a w, R n l a w → wpAnyH P md ops Q S n l a w
 | 0, l, a, w, hr => (h0 l a w hr).elim
 | n + 1, l, a, w, hr => wpAnyH_ready rfl (hn n l a w hr) fun i hi => by
   obtain ⟨o, ho, hs⟩ := h n l a w hr i hi
   exact wpOp_step ho (fun K' hK => hs K' (fun a w hS hR => hK a w ⟨hS, (hR hS).elim (wp_dag h0 hn h n _ _ _) id⟩))
theorem AV {P : Program} {ops : Array Oper} {Q : Exit → Act → World → Prop} {md : Region.Mode} {S : World → Prop} {n : Nat} {l : Array Bool} {t : Array Value} {D : List Deferred} {w : World} (h : ∀ t0, t0 = t → wpAnyH P md ops Q S n l ⟨t0, D⟩ w) : wpAnyH P md ops Q S n l ⟨t, D⟩ w := h t rfl
def all6 (g : Bool → Bool → Bool → Bool → Bool → Bool → Bool) : Bool := [false, true].all fun a => [false, true].all fun b => [false, true].all fun c => [false, true].all fun d => [false, true].all fun e => [false, true].all fun f => g a b c d e f
theorem all6_at {g : Bool → Bool → Bool → Bool → Bool → Bool → Bool} (h : all6 g = true) (a b c d e f : Bool) : g a b c d e f = true := by
 have m : ∀ x : Bool, x ∈ [false, true] := by decide
 have h1 := List.all_eq_true.1 h a (m a)
 have h2 := List.all_eq_true.1 h1 b (m b)
 have h3 := List.all_eq_true.1 h2 c (m c)
 have h4 := List.all_eq_true.1 h3 d (m d)
 have h5 := List.all_eq_true.1 h4 e (m e)
 exact List.all_eq_true.1 h5 f (m f)
theorem ready_of {md : Region.Mode} {ops : Array Oper} {i : Nat} (L : Bool → Bool → Bool → Bool → Bool → Bool → Array Bool) (chk : Nat → Bool → Bool → Bool → Bool → Bool → Bool → Bool) (a b c d e f : Bool) (hi : i ∈ Region.ready md ops (L a b c d e f))
 (h : all6 (fun a b c d e f => (Region.ready md ops (L a b c d e f)).all fun i => chk i a b c d e f) = true) : chk i a b c d e f = true :=
 List.all_eq_true.1 (all6_at h a b c d e f) i hi
theorem ready_some {md : Region.Mode} {ops : Array Oper} (L : Bool → Bool → Bool → Bool → Bool → Bool → Array Bool) (a b c d e f : Bool) (h : all6 (fun a b c d e f => !(Region.ready md ops (L a b c d e f)).isEmpty) = true) : Region.ready md ops (L a b c d e f) ≠ [] := fun e' => by
 have := all6_at h a b c d e f
 rw [e'] at this
 cases this
def FN : Bool → Nat
 | true => 0
 | false => 1
def Bt (W0 : World) (a b : Value) (b0 b1 b3 b5 b6 : Bool) (x0 x1 x3 x5 x6 : Value) (w : World) : Prop :=
 Below W0 W0 w ∧ (b0 = true → x0 = .agg KA) ∧
 (b1 = true → ∃ k : Nat, x1 = .slice (some k) 8 8 ∧ w.heap[k]? = some (.cells KD 27)) ∧
 (b3 = true → ∃ k : Nat, x3 = .slice (some k) 1 1 ∧ w.heap[k]? = some (.cells #[a, false] 31)) ∧
 (b5 = true → ∃ k : Nat, x5 = .slice (some k) 1 1 ∧ w.heap[k]? = some (.cells #[b, false] 31)) ∧
 (b6 = true → b3 = true ∧ b5 = true ∧ ∃ k k3 k5 : Nat, x6 = .slice (some k) 2 2 ∧ x3 = .slice (some k3) 1 1 ∧ x5 = .slice (some k5) 1 1 ∧ w.heap[k]? = some (.cells #[.slice (some k3) 1 1, .slice (some k5) 1 1] 38))
section
variable {W0 w w' : World} {a b : Value} {b0 b1 b3 b5 b6 : Bool} {x0 x1 x3 x5 x6 : Value}
theorem Bt.start (h : Below W0 W0 w) : Bt W0 a b false false false false false x0 x1 x3 x5 x6 w := ⟨h, nofun, nofun, nofun, nofun, nofun⟩
theorem Bt.below (h : Bt W0 a b b0 b1 b3 b5 b6 x0 x1 x3 x5 x6 w) (hb : Below w w w') : Bt W0 a b b0 b1 b3 b5 b6 x0 x1 x3 x5 x6 w' := by
 obtain ⟨h1, h2, h3, h4, h5, h6⟩ := h
 refine ⟨h1.trans (hb.mono h1.size), h2, fun e => ?_, fun e => ?_, fun e => ?_, fun e => ?_⟩
 · obtain ⟨k, e1, e2⟩ := h3 e
   exact ⟨k, e1, AB hb e2⟩
 · obtain ⟨k, e1, e2⟩ := h4 e
   exact ⟨k, e1, AB hb e2⟩
 · obtain ⟨k, e1, e2⟩ := h5 e
   exact ⟨k, e1, AB hb e2⟩
 · obtain ⟨p, q, k, k3, k5, e1, e2, e3, e4⟩ := h6 e
   exact ⟨p, q, k, k3, k5, e1, e2, e3, AB hb e4⟩
theorem Bt.s0 (h : Bt W0 a b b0 b1 b3 b5 b6 x0 x1 x3 x5 x6 w) (hb : Below w w w') : Bt W0 a b true b1 b3 b5 b6 (.agg KA) x1 x3 x5 x6 w' := ⟨(h.below hb).1, fun _ => rfl, (h.below hb).2.2⟩
theorem Bt.s1 (h : Bt W0 a b b0 b1 b3 b5 b6 x0 x1 x3 x5 x6 w) : Bt W0 a b b0 true b3 b5 b6 x0 (.slice (some w) 8 8) x3 x5 x6 (w.alloc (.cells KD 27)) := by
 obtain ⟨h1, h2, h3, h4⟩ := h.below (AC w (.cells KD 27))
 exact ⟨h1, h2, fun _ => ⟨_, rfl, AE w _⟩, h4⟩
theorem Bt.s3 (h : Bt W0 a b b0 b1 false b5 b6 x0 x1 x3 x5 x6 w) : Bt W0 a b b0 b1 true b5 b6 x0 x1 (.slice (some w) 1 1) x5 x6 (w.alloc (.cells #[a, false] 31)) := by
 obtain ⟨h1, h2, h3, h4, h5, h6⟩ := h.below (AC w (.cells #[a, false] 31))
 exact ⟨h1, h2, h3, fun _ => ⟨_, rfl, AE w _⟩, h5, fun e => by cases (h6 e).1⟩
theorem Bt.s5 (h : Bt W0 a b b0 b1 b3 false b6 x0 x1 x3 x5 x6 w) : Bt W0 a b b0 b1 b3 true b6 x0 x1 x3 (.slice (some w) 1 1) x6 (w.alloc (.cells #[b, false] 31)) := by
 obtain ⟨h1, h2, h3, h4, h5, h6⟩ := h.below (AC w (.cells #[b, false] 31))
 exact ⟨h1, h2, h3, h4, fun _ => ⟨_, rfl, AE w _⟩, fun e => by cases (h6 e).2.1⟩
theorem Bt.s6 {k3 k5 : Nat} (h : Bt W0 a b b0 b1 true true b6 x0 x1 (.slice (some k3) 1 1) (.slice (some k5) 1 1) x6 w) :
 Bt W0 a b b0 b1 true true true x0 x1 (.slice (some k3) 1 1) (.slice (some k5) 1 1) (.slice (some w) 2 2) (w.alloc (.cells #[.slice (some k3) 1 1, .slice (some k5) 1 1] 38)) := by
 obtain ⟨h1, h2, h3, h4, h5, h6⟩ := h.below (AC w (.cells #[.slice (some k3) 1 1, .slice (some k5) 1 1] 38))
 exact ⟨h1, h2, h3, h4, h5, fun _ => ⟨rfl, rfl, _, k3, k5, rfl, rfl, rfl, AE w _⟩⟩
theorem Bt.two (h : Bt W0 a b b0 b1 true true b6 x0 x1 x3 x5 x6 w) : ∃ k3 k5 : Nat, x3 = .slice (some k3) 1 1 ∧ x5 = .slice (some k5) 1 1 := by
 obtain ⟨k3, e3, _⟩ := h.2.2.2.1 rfl
 obtain ⟨k5, e5, _⟩ := h.2.2.2.2.1 rfl
 exact ⟨k3, k5, e3, e5⟩
theorem Bt.all (h : Bt W0 a b true true b3 b5 true x0 x1 x3 x5 x6 w) : b3 = true ∧ b5 = true ∧ x0 = .agg KA ∧ ∃ k1 k3 k5 k6 : Nat, x1 = .slice (some k1) 8 8 ∧ x6 = .slice (some k6) 2 2 ∧ Below W0 W0 w ∧
 w.heap[k6]? = some (.cells #[.slice (some k3) 1 1, .slice (some k5) 1 1] 38) ∧ w.heap[k1]? = some (.cells KD 27) ∧ w.heap[k3]? = some (.cells #[a, false] 31) ∧ w.heap[k5]? = some (.cells #[b, false] 31) := by
 obtain ⟨h1, h2, h3, h4, h5, h6⟩ := h
 obtain ⟨rfl, rfl, k6, k3, k5, e6, e3, e5, hk6⟩ := h6 rfl
 obtain ⟨k1, e1, hk1⟩ := h3 rfl
 obtain ⟨k, e, hk3⟩ := h4 rfl
 rw [e3] at e
 cases e
 obtain ⟨k, e, hk5⟩ := h5 rfl
 rw [e5] at e
 cases e
 exact ⟨rfl, rfl, h2 rfl, k1, _, _, k6, e1, e6, h1, hk6, hk1, hk3, hk5⟩
end
theorem Ud (w : World) : Y 15 #[] w fun e w' => e = Z (.bool true) ∧ Below w w w' := by
 have hta := txX.1
 have htb := txX.2
 have hpl := Ie
 go_enter func15, ntmps15
 go_wp2_with fail
 refine (hta _).mono ?_
 rintro e w1 ⟨A0, rfl, ha0, ho0, hb1⟩
 obtain ⟨a0A, a0c, rfl⟩ := ha0.form
 obtain ⟨W2, hE2, hb2, hI2⟩ := alloc_new w1 (.cells #[.slice a0A 2 a0c, false] 31)
 have HB2 := Vw (hb1.trans (hb2.mono hb1.size))
 have HA0 := Vw (ha0.below hb2)
 have HI2 := Vw hI2
 have HE2 := Vw hE2
 have HZ1 := Vw hb1.size
 clear ha0 ho0 hb1 hE2 hb2 hI2
 go_wp2_with fail
 rw [HE2.out]
 clear HE2
 refine (htb _).mono ?_
 rintro e w3 ⟨A1, rfl, ha1, ho1, hb3⟩
 obtain ⟨a1A, a1c, rfl⟩ := ha1.form
 obtain ⟨W4, hE4, hb4, hI4⟩ := alloc_new w3 (.cells #[.slice a1A 2 a1c, false] 31)
 have hbx := hb3.trans (hb4.mono hb3.size)
 have HB4 := Vw (HB2.out.trans (hbx.mono HB2.out.size))
 have HA0' := Vw (HA0.out.below hbx)
 have HA1 := Vw (ha1.below hb4)
 have HI2' := Vw (AB hbx HI2.out)
 have HI4 := Vw hI4
 have HE4 := Vw hE4
 have HZ3 := Vw (show w1.heap.size < w3.heap.size from Vy (AF HI2.out) hb3.size)
 clear ha1 ho1 hb3 hE4 hb4 hI4 hbx hta htb HA0 HI2 HB2
 go_wp2_with fail
 rw [HE4.out]
 clear HE4
 obtain ⟨ta, hta⟩ := ex_ w1.heap.size
 obtain ⟨tb, htb⟩ := ex_ w3.heap.size
 rw [hta] at HI2'
 rw [htb] at HI4
 rw [hta, htb]
 have HAB := Vw (show w.heap.size ≤ ta ∧ ta < tb from ⟨hta ▸ HZ1.out, hta ▸ htb ▸ HZ3.out⟩)
 clear hta htb HZ1 HZ3
 have HSS := Vw (show ∀ W : World, W.heap[ta]? = some (.cells #[.slice a0A 2 a0c, false] 31) → W.heap[tb]? = some (.cells #[.slice a1A 2 a1c, false] 31) → (fun w' => w'.cell? ta = some (.slice a0A 2 a0c) ∧ w'.cell? ⟨ta, 1, none⟩ = some (.bool false) ∧ w'.cell? tb = some (.slice a1A 2 a1c) ∧ w'.cell? ⟨tb, 1, none⟩ = some (.bool false)) W from fun W a b => ⟨AD a 0 rfl, AD a 1 rfl, AD b 0 rfl, AD b 1 rfl⟩)
 have HNW := Vw (show ∀ (W : World) (bm b3 b5 b6 : Nat), Below W4 W4 W → W.heap[b6]? = some (.cells #[.slice (some ⟨b3, 0, none⟩) 1 1, .slice (some ⟨b5, 0, none⟩) 1 1] 38) → W.heap[bm]? = some (.cells KD 27) → W.heap[b3]? = some (.cells #[.slice a0A 2 a0c, false] 31) → W.heap[b5]? = some (.cells #[.slice a1A 2 a1c, false] 31) → Y 7 #[Ai, .slice (some ⟨bm, 0, none⟩) 8 8, .slice (some ⟨b6, 0, none⟩) 2 2] W fun e w' => ∃ T L V C mk CS R rb, e = Z (.tuple #[.pointer (some ⟨rb, 0, none⟩), I 0]) ∧ RnAt T w' L V C mk CS R rb (.slice none 0 0) Ga [] ∧ (∀ k, k < W4.heap.size → T k = 0) ∧ W4.heap.size ≤ rb ∧ Below W4 W4 w' from fun W bm b3 b5 b6 hb h6 hm h3 h5 => by
  have hp1 : (BE [Cy]).length ≤ 4096 := by
   rw [show (BE [Cy]).length = (Ae Cy).l.length from Cb _ _ _]
   exact (of_decide_eq_true Lh.2.2.1).2.1
  have hp2 : (BE [Cx]).length ≤ 4096 := by
   rw [show (BE [Cx]).length = (Ae Cx).l.length from Cb _ _ _]
   exact (of_decide_eq_true Lg.2.2.1).2.1
  have hrA : AH W 33 3 (.slice a0A 2 a0c) 2 (BI [⟨3, 3, 5, false⟩, ⟨1, 3, 0, false⟩]) := HA0'.out.below hb
  have hrB : AH W 33 3 (.slice a1A 2 a1c) 2 (BI [⟨2, 2, 9, false⟩, ⟨4, 3, 1, false⟩]) := HA1.out.below hb
  have hcA := Di Cy (.slice (some b3) 1 1) a0A 2 a0c W (AH.one h3 rfl) (fun w' hb' => by
   have h := BN [⟨3, 3, 5, false⟩, ⟨1, 3, 0, false⟩] false (by decide) (.slice a0A 2 a0c) w' (hrA.below hb')
   rw [show DE [⟨3, 3, 5, false⟩, ⟨1, 3, 0, false⟩] = true by kernel_rfl] at h
   exact h) (Ix [⟨3, 3, 5, false⟩, ⟨1, 3, 0, false⟩] false W (.slice a0A 2 a0c) hrA (by decide) (by decide) (by decide) (.inr (by decide))) Lh.1 Lh.2.1 Lh.2.2.1 (of_decide_eq_true Lh.2.2.2)
  have hcB := Di Cx (.slice (some b5) 1 1) a1A 2 a1c W (AH.one h5 rfl) (fun w' hb' => by
   have h := BN [⟨2, 2, 9, false⟩, ⟨4, 3, 1, false⟩] false (by decide) (.slice a1A 2 a1c) w' (hrB.below hb')
   rw [show DE [⟨2, 2, 9, false⟩, ⟨4, 3, 1, false⟩] = true by kernel_rfl] at h
   exact h) (Ix [⟨2, 2, 9, false⟩, ⟨4, 3, 1, false⟩] false W (.slice a1A 2 a1c) hrB (by decide) (by decide) (by decide) (.inr (by decide))) Lg.1 Lg.2.1 Lg.2.2.1 (of_decide_eq_true Lg.2.2.2)
  refine (DM Ln.zero (BE [Cy]) (BE [Cx]) hp1 hp2 Lh.1 Lg.1 (.slice (some bm) 8 8) (.slice (some b6) 2 2) _ _ W (AH.made (m := 8) hm rfl) (AH.made (m := 2) h6 rfl) hcA hcB).mono ?_
  rintro e w' ⟨T, L, V, C, mk, CS, R, rb, he, hrn, hT, hrb, hbn⟩
  exact ⟨T, L, V, C, mk, CS, R, rb, he, hrn, fun k hk => hT k (Vy hk hb.size), Vx hb.size hrb, hb.trans (hbn.mono hb.size)⟩)
 simp only [Ai] at HNW
 have hms : ∀ w : World, (Instr.makeSlice 28 (I 8) (I 8)).run prog w = .ok (.slice (some ⟨w.heap.size, 0, none⟩) 8 8) (w.alloc (.cells KD 27)) := fun w => by kernel_rfl
 go_cut [5, 6] from 18 to 28 (fun s5 s6 wc => s6 = I 0 ∧ ∃ T L V C mk CS R rb, s5 = .pointer (some ⟨rb, 0, none⟩) ∧ RnAt T wc L V C mk CS R rb (.slice none 0 0) Ga [] ∧ (∀ k, k < W4.heap.size → T k = 0) ∧ W4.heap.size ≤ rb ∧ Below W4 W4 wc)
 case first =>
  have HS := Vw (show ∀ W : World, Below W4 W4 W → (fun w' => w'.cell? ta = some (.slice a0A 2 a0c) ∧ w'.cell? ⟨ta, 1, none⟩ = some (.bool false) ∧ w'.cell? tb = some (.slice a1A 2 a1c) ∧ w'.cell? ⟨tb, 1, none⟩ = some (.bool false)) W from fun W hb => HSS.out W (AB hb HI2'.out) (AB hb HI4.out))
  have hk0 := HS.out _ (Below.refl _ W4).drew
  refine wp_region_held_drew (S := fun w' => w'.cell? ta = some (.slice a0A 2 a0c) ∧ w'.cell? ⟨ta, 1, none⟩ = some (.bool false) ∧ w'.cell? tb = some (.slice a1A 2 a1c) ∧ w'.cell? ⟨tb, 1, none⟩ = some (.bool false)) (by kernel_rfl) hk0 (fun hHeld => ?_)
  refine tk 2 21 ?_
  refine tk 4 23 ?_
  refine AV fun t0 ht => ?_
  refine wp_dag (R := fun n l a w => ∃ (b0 b1 b3 b5 b6 : Bool) (x0 x1 x3 x5 x6 : Value), l = #[b0, b1, true, b3, true, b5, b6, false, false, false, false, false, false] ∧ a = ⟨(((((t0.setIfInBounds 19 x0).setIfInBounds 20 x1).setIfInBounds 22 x3).setIfInBounds 24 x5).setIfInBounds 25 x6), []⟩ ∧ n = 6 + FN b0 + FN b1 + FN b3 + FN b5 + FN b6 ∧ Bt W4 (.slice a0A 2 a0c) (.slice a1A 2 a1c) b0 b1 b3 b5 b6 x0 x1 x3 x5 x6 w) ?_ ?_ ?_ _ _ _ _ ?_
  · intro l a w hr
    obtain ⟨b0, b1, b3, b5, b6, x0, x1, x3, x5, x6, _, _, hn, _⟩ := hr
    omega
  · intro n l a w hr
    obtain ⟨b0, b1, b3, b5, b6, x0, x1, x3, x5, x6, rfl, _⟩ := hr
    exact ready_some (fun b0 b1 b3 b5 b6 b8 => #[b0, b1, true, b3, true, b5, b6, false, false, false, false, false, false]) b0 b1 b3 b5 b6 false (by kernel_rfl)
  · intro n l a w hr i hi
    obtain ⟨b0, b1, b3, b5, b6, x0, x1, x3, x5, x6, rfl, rfl, hn, hL⟩ := hr
    have hs := ready_of (fun b0 b1 b3 b5 b6 b8 => #[b0, b1, true, b3, true, b5, b6, false, false, false, false, false, false]) (fun i b0 b1 b3 b5 b6 b8 => (i == 0 && !b0) || (i == 1 && !b1) || (i == 3 && !b3) || (i == 5 && !b5) || (i == 6 && !b6 && b3 && b5) || (i == 7 && b0 && b1 && b6)) b0 b1 b3 b5 b6 false hi (by kernel_rfl)
    simp only [Bool.or_eq_true, Bool.and_eq_true, beq_iff_eq, Bool.not_eq_true'] at hs
    clear hi hk0 hHeld
    rcases hs with ((((⟨rfl, rfl⟩ | ⟨rfl, rfl⟩) | ⟨rfl, rfl⟩) | ⟨rfl, rfl⟩) | ⟨⟨⟨rfl, rfl⟩, rfl⟩, rfl⟩) | ⟨⟨⟨rfl, rfl⟩, rfl⟩, rfl⟩
    · refine ⟨_, rfl, fun K hK => ?_⟩
      subst ht
      simp only [List.setIfInBounds_toArray, List.set_cons_zero, List.set_cons_succ]
      go_simp
      refine (hpl _).mono ?_
      rintro e w5 ⟨rfl, hb5⟩
      refine hK.out _ _ (HS.out _ (hL.below hb5).1) (fun _ => .inl ⟨true, b1, b3, b5, b6, _, x1, x3, x5, x6, by simp only [List.setIfInBounds_toArray, List.set_cons_zero, List.set_cons_succ], by (simp only [Act.put, List.setIfInBounds_toArray, List.set_cons_zero, List.set_cons_succ]; try rfl), by (simp only [FN] at hn ⊢; omega), hL.s0 hb5⟩)
    · refine ⟨_, rfl, fun K hK => ?_⟩
      subst ht
      simp only [List.setIfInBounds_toArray, List.set_cons_zero, List.set_cons_succ]
      go_simp
      refine hK.out _ _ (HS.out _ hL.s1.1) (fun _ => .inl ⟨b0, true, b3, b5, b6, x0, _, x3, x5, x6, by simp only [List.setIfInBounds_toArray, List.set_cons_zero, List.set_cons_succ], by (simp only [Act.put, List.setIfInBounds_toArray, List.set_cons_zero, List.set_cons_succ]; try rfl), by (simp only [FN] at hn ⊢; omega), hL.s1⟩)
    · refine ⟨_, rfl, fun K hK => ?_⟩
      subst ht
      simp only [List.setIfInBounds_toArray, List.set_cons_zero, List.set_cons_succ]
      go_simp
      refine hK.out _ _ (HS.out _ hL.s3.1) (fun _ => .inl ⟨b0, b1, true, b5, b6, x0, x1, _, x5, x6, by simp only [List.setIfInBounds_toArray, List.set_cons_zero, List.set_cons_succ], by (simp only [Act.put, List.setIfInBounds_toArray, List.set_cons_zero, List.set_cons_succ]; try rfl), by (simp only [FN] at hn ⊢; omega), hL.s3⟩)
    · refine ⟨_, rfl, fun K hK => ?_⟩
      subst ht
      simp only [List.setIfInBounds_toArray, List.set_cons_zero, List.set_cons_succ]
      go_simp
      refine hK.out _ _ (HS.out _ hL.s5.1) (fun _ => .inl ⟨b0, b1, b3, true, b6, x0, x1, x3, _, x6, by simp only [List.setIfInBounds_toArray, List.set_cons_zero, List.set_cons_succ], by (simp only [Act.put, List.setIfInBounds_toArray, List.set_cons_zero, List.set_cons_succ]; try rfl), by (simp only [FN] at hn ⊢; omega), hL.s5⟩)
    · obtain ⟨k3, k5, rfl, rfl⟩ := hL.two
      refine ⟨_, rfl, fun K hK => ?_⟩
      subst ht
      simp only [List.setIfInBounds_toArray, List.set_cons_zero, List.set_cons_succ]
      go_simp
      refine hK.out _ _ (HS.out _ hL.s6.1) (fun _ => .inl ⟨b0, b1, true, true, true, x0, x1, _, _, _, by simp only [List.setIfInBounds_toArray, List.set_cons_zero, List.set_cons_succ], by (simp only [Act.put, List.setIfInBounds_toArray, List.set_cons_zero, List.set_cons_succ]; try rfl), by (simp only [FN] at hn ⊢; omega), hL.s6⟩)
    · obtain ⟨rfl, rfl, rfl, k1, k3, k5, k6, rfl, rfl, hb, h6, h1, h3, h5⟩ := hL.all
      obtain rfl : n = 5 := by simp only [FN] at hn; omega
      refine ⟨_, rfl, fun K hK => ?_⟩
      subst ht
      simp only [List.setIfInBounds_toArray, List.set_cons_zero, List.set_cons_succ]
      go_simp
      refine (HNW.out _ k1 k3 k5 k6 hb h6 h1 h3 h5).mono ?_
      rintro e w6 ⟨T, L, V, C, mk, CS, R, rb, rfl, hrn, hTz, hrb, hbn⟩
      refine hK.out _ _ (HS.out _ hbn) (fun hS => .inr ?_)
      clear hK
      simp only [Act.put, List.setIfInBounds_toArray, List.set_cons_zero, List.set_cons_succ]
      refine tk 8 18 ?_
      refine tk 9 27 ?_
      refine tk 10 28 ?_
      refine tk 11 5 ?_
      refine tk 12 6 ?_
      refine td ?_
      go_wp2_with fail
      go_meet
      exact ⟨rfl, T, L, V, C, mk, CS, R, rb, rfl, hrn, hTz, hrb, hbn⟩
  · exact ⟨false, false, false, false, false, _, _, _, _, _, by kernel_rfl, by (rw [ht]; simp only [List.setIfInBounds_toArray, List.set_cons_zero, List.set_cons_succ]; try rfl), rfl, Bt.start (Below.refl _ _).drew⟩
 case rest =>
  clear hms
  obtain ⟨rfl, T, L, V, C, mk, CS, R, rb, rfl, hrn, hTz, hrb, hbc⟩ := hcut
  obtain ⟨mF, evF, hset, hquiet, hwq, hwords, hel, hkeys⟩ := SY
  have hse := Gc _ _ _ hset
  have HSE := Vw (Hd Hh T L V C mk CS R rb (.slice none 0 0) Ga (fun i hi => by
   have hp1 : (BE [Cy]).length ≤ 4096 := by
    rw [show (BE [Cy]).length = (Ae Cy).l.length from Cb _ _ _]
    exact (of_decide_eq_true Lh.2.2.1).2.1
   have hp2 : (BE [Cx]).length ≤ 4096 := by
    rw [show (BE [Cx]).length = (Ae Cx).l.length from Cb _ _ _]
    exact (of_decide_eq_true Lg.2.2.1).2.1
   rcases Aa hi with rfl | rfl
   · exact hp1
   · exact hp2) 600 (by decide) mF evF hset wc hrn)
  have HQ := Vw (WA hquiet (WA hwq (WA hwords (WA hel (WA hkeys hse)))))
  have HRN := Vw (WA hrn (WA hTz (WA hrb hbc)))
  clear hrn hTz hrb hbc hset hquiet hwq hwords hse hel hkeys HNW
  go_wp2_with fail
  refine HSE.out.mono ?_
  rintro e w10 ⟨T1, V1, LV1, ⟨vv, rfl⟩, hrn1, hrs1, hle⟩
  have HMC := Vw (Eo T1 L V1 C mk CS R rb LV1 mF evF w10 hrn1)
  have HQU := Vw (Hp HQ.out.2.2.2.2.2.1 HQ.out.2.2.2.2.2.2.1 hrn1)
  have H10 := Vw (WA hrn1 hrs1)
  clear hrn1 hrs1 hle HSE
  go_wp2_with fail
  refine HMC.out.mono ?_
  rintro e w10a ⟨rfl, rfl⟩
  go_wp2_with fail
  refine HMC.out.mono ?_
  rintro e w10b ⟨rfl, rfl⟩
  go_wp2_with fail
  refine HQU.out.mono ?_
  rintro e w11 ⟨rfl, T2, V2, hrn2, hrs2⟩
  rw [HQ.out.1]
  obtain ⟨x0, x1, x2, x3, hmem⟩ := hrn2.mem5
  have HMP := Vw (JV T2 L V2 C mk CS R rb LV1 mF evF x0 x1 x2 x3 mF.s.words HQ.out.2.1 hmem w11 hrn2)
  have HKEEP := Vw (show ∀ k, k < W4.heap.size → w11.heap[k]? = W4.heap[k]? from fun k hk => by
   have hkc : k < wc.heap.size := Vy hk HRN.out.2.2.2.size
   have h0 := HRN.out.2.1 k hk
   have h1 : T1 k = 0 := (H10.out.2.lab k hkc).trans h0
   have hne : k ≠ rb := by have := HRN.out.2.2.1; omega
   have hk10 := Vy hkc H10.out.2.pres.size
   have a1 := H10.out.2.pres.block k hkc ⟨by rw [h0]; rfl, hne, by simp [Value.ownBlock]⟩
   have a3 := hrs2.pres.block k hk10 ⟨by rw [h1]; rfl, hne, fun e => by
    rcases H10.out.2.mv k e with h | h
    · simp [Value.ownBlock] at h
    · omega⟩
   exact a3.trans (a1.trans (HRN.out.2.2.2.block k hk)))
  have HB11 := Vw (show Below W4 W4 w11 from ⟨hrs2.pres.os.trans (H10.out.2.pres.os.trans HRN.out.2.2.2.os), hrs2.pres.tape.trans (H10.out.2.pres.tape.trans HRN.out.2.2.2.tape), hrs2.pres.output.trans (H10.out.2.pres.output.trans HRN.out.2.2.2.output), Vx HRN.out.2.2.2.size (Vx H10.out.2.pres.size hrs2.pres.size), HKEEP.out⟩)
  have HRN2 := Vw hrn2
  clear hrn2 hrs2 hmem HMC HQU
  go_wp2_with fail
  refine HMP.out.mono ?_
  rintro e w12 ⟨MV, rfl, hm12, ho12, hb12⟩
  rw [Nw HQ.out.2.2.1] at hm12
  have HR12 := Vw (HRN2.out.below hb12)
  have HB12 := Vw (HB11.out.trans (hb12.mono HB11.out.size))
  obtain ⟨mg, mo, mc, mcs, rfl, hmg, hmc, _, hmx⟩ := hm12.lies (by decide)
  have HMX := Vw (show ∀ W : World, Below w12 w12 W → W.cell? ⟨mg, mo + 2, none⟩ = some (U 9) ∧ W.cell? ⟨mg, mo + 3, none⟩ = some (U 5) from fun W h => ⟨AD (AB h hmg) _ (hmx 2 _ rfl), AD (AB h hmg) _ (hmx 3 _ rfl)⟩)
  have hmcI : (8 : Int) ≤ (mc : Int) := by omega
  have HIa := Vw (AB HB12.out HI2'.out)
  have HIb := Vw (AB HB12.out HI4.out)
  have HEV := Vw (show ∀ W : World, Below w12 w12 W → Y 11 #[rb] W fun r w' => ∃ S, r = Z S ∧ AH w' 92 5 S evF.length (AY evF) ∧ (∀ k, S.ownBlock = some k → W.heap.size ≤ k) ∧ Below W.heap.size W w' from fun W h => He T2 L V2 C mk CS R rb LV1 mF evF (by have := HQ.out.2.2.2.1; omega) W (HR12.out.below h))
  have HNC := Vw (show ∀ (W : World) (bm b3 b5 b6 : Nat) (ES : Value), Below w12 w12 W → W.heap[b6]? = some (.cells #[.slice (some ⟨b3, 0, none⟩) 1 1, .slice (some ⟨b5, 0, none⟩) 1 1] 38) → W.heap[bm]? = some (.cells KD 27) → W.heap[b3]? = some (.cells #[.slice a0A 2 a0c, false] 31) → W.heap[b5]? = some (.cells #[.slice a1A 2 a1c, false] 31) → AH W 92 5 ES evF.length (AY evF) → Y 19 #[Ai, .slice (some ⟨bm, 0, none⟩) 8 8, .slice (some ⟨b6, 0, none⟩) 2 2, ES] W fun e w' => e = Z (.tuple #[I 2, I 0]) ∧ Below w12 w12 w' from fun W bm b3 b5 b6 ES hb h6 hm h3 h5 hes => by
   obtain ⟨k1, k2, k3, k4⟩ := OH HQ.out.2.2.2.2.1
   refine (LZ evF k1 k2 k3 k4 (by have := HQ.out.2.2.2.1; omega) (.slice (some bm) 8 8) (.slice (some b6) 2 2) _ _ (.slice a0A 2 a0c) (.slice a1A 2 a1c) ES W (AH.made (m := 8) hm rfl) (AH.made (m := 2) h6 rfl) (AH.one h3 rfl) (AH.one h5 rfl) (HA0'.out.below (HB12.out.trans (hb.mono HB12.out.size))) (HA1.out.below (HB12.out.trans (hb.mono HB12.out.size))) hes).mono ?_
   rintro e w' ⟨he, hbn⟩
   exact ⟨he, hb.trans (hbn.mono hb.size)⟩)
  simp only [Ai] at HNC
  have HSS2 := HSS
  clear hm12 ho12 hb12 HMP HB11 HRN2 HKEEP hmg hmc hmx
  go_wp2_with fail
  have hms : ∀ w : World, (Instr.makeSlice 28 (I 8) (I 8)).run prog w = .ok (.slice (some ⟨w.heap.size, 0, none⟩) 8 8) (w.alloc (.cells KD 27)) := fun w => by kernel_rfl
  go_cut [8, 9] from 56 to 68 (fun s8 s9 wd => s8 = I 2 ∧ s9 = I 0 ∧ Below w12 w12 wd)
  case first =>
   have HS := Vw (show ∀ W : World, Below w12 w12 W → (fun w' => w'.cell? ta = some (.slice a0A 2 a0c) ∧ w'.cell? ⟨ta, 1, none⟩ = some (.bool false) ∧ w'.cell? tb = some (.slice a1A 2 a1c) ∧ w'.cell? ⟨tb, 1, none⟩ = some (.bool false)) W from fun W hb => HSS.out W (AB hb HIa.out) (AB hb HIb.out))
   have hk0 := HS.out _ (Below.refl _ w12).drew
   refine wp_region_held_drew (S := fun w' => w'.cell? ta = some (.slice a0A 2 a0c) ∧ w'.cell? ⟨ta, 1, none⟩ = some (.bool false) ∧ w'.cell? tb = some (.slice a1A 2 a1c) ∧ w'.cell? ⟨tb, 1, none⟩ = some (.bool false)) (by kernel_rfl) hk0 (fun hHeld => ?_)
   refine tk 2 59 ?_
   refine tk 4 61 ?_
   refine tk 7 64 ?_
   refine AV fun t0 ht => ?_
   refine wp_dag (R := fun n l a w => ∃ (b0 b1 b3 b5 b6 b8 : Bool) (x0 x1 x3 x5 x6 x8 : Value), l = #[b0, b1, true, b3, true, b5, b6, true, b8, false, false, false, false, false, false] ∧ a = ⟨((((((t0.setIfInBounds 57 x0).setIfInBounds 58 x1).setIfInBounds 60 x3).setIfInBounds 62 x5).setIfInBounds 63 x6).setIfInBounds 65 x8), []⟩ ∧ n = 6 + FN b0 + FN b1 + FN b3 + FN b5 + FN b6 + FN b8 ∧ Bt w12 (.slice a0A 2 a0c) (.slice a1A 2 a1c) b0 b1 b3 b5 b6 x0 x1 x3 x5 x6 w ∧ (b8 = true → AH w 92 5 x8 evF.length (AY evF))) ?_ ?_ ?_ _ _ _ _ ?_
   · intro l a w hr
     obtain ⟨b0, b1, b3, b5, b6, b8, x0, x1, x3, x5, x6, x8, _, _, hn, _⟩ := hr
     omega
   · intro n l a w hr
     obtain ⟨b0, b1, b3, b5, b6, b8, x0, x1, x3, x5, x6, x8, rfl, _⟩ := hr
     exact ready_some (fun b0 b1 b3 b5 b6 b8 => #[b0, b1, true, b3, true, b5, b6, true, b8, false, false, false, false, false, false]) b0 b1 b3 b5 b6 b8 (by kernel_rfl)
   · intro n l a w hr i hi
     obtain ⟨b0, b1, b3, b5, b6, b8, x0, x1, x3, x5, x6, x8, rfl, rfl, hn, hL, hR⟩ := hr
     have hs := ready_of (fun b0 b1 b3 b5 b6 b8 => #[b0, b1, true, b3, true, b5, b6, true, b8, false, false, false, false, false, false]) (fun i b0 b1 b3 b5 b6 b8 => (i == 0 && !b0) || (i == 1 && !b1) || (i == 3 && !b3) || (i == 5 && !b5) || (i == 6 && !b6 && b3 && b5) || (i == 8 && !b8) || (i == 9 && b0 && b1 && b6 && b8)) b0 b1 b3 b5 b6 b8 hi (by kernel_rfl)
     simp only [Bool.or_eq_true, Bool.and_eq_true, beq_iff_eq, Bool.not_eq_true'] at hs
     clear hi hk0 hHeld
     rcases hs with (((((⟨rfl, rfl⟩ | ⟨rfl, rfl⟩) | ⟨rfl, rfl⟩) | ⟨rfl, rfl⟩) | ⟨⟨⟨rfl, rfl⟩, rfl⟩, rfl⟩) | ⟨rfl, rfl⟩) | ⟨⟨⟨⟨rfl, rfl⟩, rfl⟩, rfl⟩, rfl⟩
     · refine ⟨_, rfl, fun K hK => ?_⟩
       subst ht
       simp only [List.setIfInBounds_toArray, List.set_cons_zero, List.set_cons_succ]
       go_simp
       refine (hpl _).mono ?_
       rintro e w5 ⟨rfl, hb5⟩
       refine hK.out _ _ (HS.out _ (hL.below hb5).1) (fun _ => .inl ⟨true, b1, b3, b5, b6, b8, _, x1, x3, x5, x6, x8, by simp only [List.setIfInBounds_toArray, List.set_cons_zero, List.set_cons_succ], by (simp only [Act.put, List.setIfInBounds_toArray, List.set_cons_zero, List.set_cons_succ]; try rfl), by (simp only [FN] at hn ⊢; omega), hL.s0 hb5, fun e => (hR e).below hb5⟩)
     · refine ⟨_, rfl, fun K hK => ?_⟩
       subst ht
       simp only [List.setIfInBounds_toArray, List.set_cons_zero, List.set_cons_succ]
       go_simp
       refine hK.out _ _ (HS.out _ hL.s1.1) (fun _ => .inl ⟨b0, true, b3, b5, b6, b8, x0, _, x3, x5, x6, x8, by simp only [List.setIfInBounds_toArray, List.set_cons_zero, List.set_cons_succ], by (simp only [Act.put, List.setIfInBounds_toArray, List.set_cons_zero, List.set_cons_succ]; try rfl), by (simp only [FN] at hn ⊢; omega), hL.s1, fun e => (hR e).below (AC w _)⟩)
     · refine ⟨_, rfl, fun K hK => ?_⟩
       subst ht
       simp only [List.setIfInBounds_toArray, List.set_cons_zero, List.set_cons_succ]
       go_simp
       refine hK.out _ _ (HS.out _ hL.s3.1) (fun _ => .inl ⟨b0, b1, true, b5, b6, b8, x0, x1, _, x5, x6, x8, by simp only [List.setIfInBounds_toArray, List.set_cons_zero, List.set_cons_succ], by (simp only [Act.put, List.setIfInBounds_toArray, List.set_cons_zero, List.set_cons_succ]; try rfl), by (simp only [FN] at hn ⊢; omega), hL.s3, fun e => (hR e).below (AC w _)⟩)
     · refine ⟨_, rfl, fun K hK => ?_⟩
       subst ht
       simp only [List.setIfInBounds_toArray, List.set_cons_zero, List.set_cons_succ]
       go_simp
       refine hK.out _ _ (HS.out _ hL.s5.1) (fun _ => .inl ⟨b0, b1, b3, true, b6, b8, x0, x1, x3, _, x6, x8, by simp only [List.setIfInBounds_toArray, List.set_cons_zero, List.set_cons_succ], by (simp only [Act.put, List.setIfInBounds_toArray, List.set_cons_zero, List.set_cons_succ]; try rfl), by (simp only [FN] at hn ⊢; omega), hL.s5, fun e => (hR e).below (AC w _)⟩)
     · obtain ⟨k3, k5, rfl, rfl⟩ := hL.two
       refine ⟨_, rfl, fun K hK => ?_⟩
       subst ht
       simp only [List.setIfInBounds_toArray, List.set_cons_zero, List.set_cons_succ]
       go_simp
       refine hK.out _ _ (HS.out _ hL.s6.1) (fun _ => .inl ⟨b0, b1, true, true, true, b8, x0, x1, _, _, _, x8, by simp only [List.setIfInBounds_toArray, List.set_cons_zero, List.set_cons_succ], by (simp only [Act.put, List.setIfInBounds_toArray, List.set_cons_zero, List.set_cons_succ]; try rfl), by (simp only [FN] at hn ⊢; omega), hL.s6, fun e => (hR e).below (AC w _)⟩)
     · refine ⟨_, rfl, fun K hK => ?_⟩
       subst ht
       simp only [List.setIfInBounds_toArray, List.set_cons_zero, List.set_cons_succ]
       go_simp
       refine (HEV.out w hL.1).mono ?_
       rintro e w7 ⟨ES, rfl, hes, heo, hb7⟩
       refine hK.out _ _ (HS.out _ (hL.below hb7).1) (fun _ => .inl ⟨b0, b1, b3, b5, b6, true, x0, x1, x3, x5, x6, _, by simp only [List.setIfInBounds_toArray, List.set_cons_zero, List.set_cons_succ], by (simp only [Act.put, List.setIfInBounds_toArray, List.set_cons_zero, List.set_cons_succ]; try rfl), by (simp only [FN] at hn ⊢; omega), hL.below hb7, fun _ => hes⟩)
     · obtain ⟨rfl, rfl, rfl, k1, k3, k5, k6, rfl, rfl, hb, h6, h1, h3, h5⟩ := hL.all
       obtain rfl : n = 5 := by simp only [FN] at hn; omega
       refine ⟨_, rfl, fun K hK => ?_⟩
       subst ht
       simp only [List.setIfInBounds_toArray, List.set_cons_zero, List.set_cons_succ]
       go_simp
       refine (HNC.out _ k1 k3 k5 k6 x8 hb h6 h1 h3 h5 (hR rfl)).mono ?_
       rintro e w6 ⟨rfl, hbn⟩
       refine hK.out _ _ (HS.out _ hbn) (fun hS => .inr ?_)
       clear hK
       simp only [Act.put, List.setIfInBounds_toArray, List.set_cons_zero, List.set_cons_succ]
       refine tk 10 56 ?_
       refine tk 11 67 ?_
       refine tk 12 68 ?_
       refine tk 13 8 ?_
       refine tk 14 9 ?_
       refine td ?_
       go_wp2_with fail
       go_meet
       exact ⟨rfl, rfl, hbn⟩
   · exact ⟨false, false, false, false, false, false, _, _, _, _, _, _, by kernel_rfl, by (rw [ht]; simp only [List.setIfInBounds_toArray, List.set_cons_zero, List.set_cons_succ]; try rfl), rfl, Bt.start (Below.refl _ _).drew, nofun⟩
  case rest =>
   obtain ⟨rfl, rfl, hbd⟩ := hcut
   obtain ⟨z2, z3⟩ := HMX.out _ hbd
   have HBD := Vw (HB4.out.trans ((HB12.out.trans (hbd.mono HB12.out.size)).mono HB4.out.size))
   clear hbd hms
   go_wp2_with fail
   go_ret
   exact ⟨rfl, HBD.out⟩
end Go.Proofs.YtkoplblbeapfgaaGreatDoor
