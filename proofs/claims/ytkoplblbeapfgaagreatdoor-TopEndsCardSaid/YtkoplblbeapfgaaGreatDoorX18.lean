/-
Parts of the walk of TopEnds. Conditions stand in each statement.
-/
import Derived.Test.YtkoplblbeapfgaaGreatDoorX04
import Derived.Test.YtkoplblbeapfgaaGreatDoorX15
namespace Go.Proofs.YtkoplblbeapfgaaGreatDoor
open Go.RowKit
open Tryz
set_option linter.all false
set_option maxRecDepth 100000
set_option maxHeartbeats 8000000
theorem Lf (x : Int) (w : World) : Y 230 #[I x] w fun e w' => ∃ S, e = Z S ∧ AH w' 92 5 S 1 (AY [⟨5, 0, x, 0, 0⟩]) ∧ (∀ k, S.ownBlock = some k → w.heap.size ≤ k) ∧ Below w w w' := by
 go_enter func230, ntmps230
 go_wp2_with fail
 go_ret
 exact ⟨_, rfl, AH.one (AE w _) rfl, fun k hk => by cases hk; exact Nat.le_refl _, AC w _⟩
theorem Ks (T0 : Nat → Nat) (w0 : World) (L : SL) (s : Sys) (i : Int) (hi : AK i = true) (hu : (s.q i 1).length < 1000) (hs : (s.q i 2).length < 1000) (hd : (s.q i 3).length < 1000) (w : World) (h : Sy T0 w0 L s w) : Y 36 #[L.sb, I i] w fun e w' => ∃ S1 S2 S3, e = Z (.tuple #[S1, S2, S3]) ∧ AH w' 253 12 S1 (s.q i 1).length (Ao (s.q i 1)) ∧ AH w' 253 12 S2 (s.q i 2).length (Ao (s.q i 2)) ∧ AH w' 253 12 S3 (s.q i 3).length (Ao (s.q i 3)) ∧ Sy T0 w0 L s w' := by
 have hat := Vw (Bi T0 w0 L s i hi)
 have h1 := Vw (fun w h => OT T0 w0 L s i 1 hi (by decide) hu w h)
 have h2 := Vw (fun w h => OT T0 w0 L s i 2 hi (by decide) hs w h)
 have h3 := Vw (fun w h => OT T0 w0 L s i 3 hi (by decide) hd w h)
 simp only [show qo i 1 = qo i 0 + 1 from rfl, show qo i 2 = qo i 0 + 2 from rfl, show qo i 3 = qo i 0 + 3 from rfl] at h1 h2 h3
 have H := Vw h
 clear h hu hs hd
 generalize ho : qo i 0 = o at *
 go_enter func36, ntmps36
 go_wp2_with fail
 refine (hat.out _ H.out).mono ?_
 rintro e w1 ⟨rfl, g1⟩
 have H1 := Vw g1.drew
 clear g1
 go_wp2_with fail
 go_region_with (first
  | (go_at_call 72; refine (h3.out _ H3.out).mono ?_; rintro e w4 ⟨S3, rfl, hr3, hS3, hb4⟩; have H4 := Vw (WA (hr1.below (hb3.trans (hb4.mono hb3.size))) (WA (hr2.below hb4) (WA hr3 (H3.out.below hb4)))))
  | (go_at_call 72; refine (h2.out _ H2.out).mono ?_; rintro e w3 ⟨S2, rfl, hr2, hS2, hb3⟩; have H3 := Vw (H2.out.below hb3))
  | (go_at_call 72; refine (h1.out _ H1.out).mono ?_; rintro e w2 ⟨S1, rfl, hr1, hS1, hb2⟩; have H2 := Vw (H1.out.below hb2)))
 go_wp2_with fail
 go_ret3
 exact ⟨S1, S2, S3, rfl, H4.out.1, H4.out.2.1, H4.out.2.2.1, H4.out.2.2.2⟩
theorem NA (qb d mb : Nat) (r q : Int) (l : List Ln) (A : Option Addr) (AV : Nat) (w : World) (hq : w.heap[qb]? = some (.cells #[d, I 2, .slice A 0 AV] 295)) (h : Bh w d mb r q l) : Y 129 #[qb] w fun e w' => ∃ S, e = Z S ∧ AH w' 109 8 S 5 (l.flatMap Ln.cells) ∧ (∀ k, S.ownBlock = some k → w.heap.size ≤ k) ∧ Below w w w' := by
 have him := Vw (Lt d mb r q l w h)
 have HQ := Vw hq
 have c1 := AA hq
 clear hq h
 go_enter func129, ntmps129
 go_wp2_with fail
 refine him.out.mono ?_
 rintro e w2 ⟨S, rfl, hr, hS, hb⟩
 have HR := Vw (WA hr (WA hS hb))
 have c2 := AA (AB hb HQ.out)
 clear c1 hr hS hb
 go_wp2_with fail
 refine wp_loop_rounds 1 ?_
 rw [rounds_succ]
 go_wp2_with fail
 go_ret
 exact ⟨S, rfl, HR.out⟩
def EO : Prop := ∀ (i : Ins), CF i = true → ∀ w, Y 307 #[U (BG i)] w fun e w' => e = Z (.tuple #[.agg i, I 0]) ∧ Below w.heap.size w w'
structure CodeAt (w : World) (pb o n : Nat) (l : List Value) (F : Nat → Option Value) : Prop where
 has : ∃ cs, w.heap[pb]? = some (.cells cs 249) ∧ cs.size = n ∧ (∀ j u, l[j]? = some u → cs[o + j]? = some u) ∧ ∀ p, p < o ∨ o + 10 ≤ p → cs[p]? = F p
 len : l.length = 10
 fit : o + 10 ≤ n
section
variable {w : World} {pb o n : Nat} {l : List Value} {F : Nat → Option Value}
theorem CodeAt.cell (h : CodeAt w pb o n l F) (j : Nat) {u : Value} (hu : l[j]? = some u) : w.cell? ⟨pb, o + j, none⟩ = some u := by
 obtain ⟨cs, h1, _, h2, _⟩ := h.has
 exact AD h1 _ (h2 j u hu)
theorem CodeAt.free (h : CodeAt w pb o n l F) : ∀ k, w.frozen? ⟨pb, k, none⟩ = false := by
 obtain ⟨cs, h1, _⟩ := h.has
 exact AJ h1
theorem CodeAt.lt (h : CodeAt w pb o n l F) : pb < w.heap.size := by
 obtain ⟨cs, h1, _⟩ := h.has
 exact AF h1
theorem CodeAt.block (h : CodeAt w pb o n l F) {w' : World} (hb : w'.heap[pb]? = w.heap[pb]?) : CodeAt w' pb o n l F := by
 obtain ⟨cs, h1, h2⟩ := h.has
 exact ⟨⟨cs, hb.trans h1, h2⟩, h.len, h.fit⟩
theorem CodeAt.ne (h : CodeAt w pb o n l F) {b : Nat} {cs : Array Value} {T : TypeId} {f : Nat × Nat} (hb : w.heap[b]? = some (.cells cs T f)) (hT : T ≠ 249) : b ≠ pb := by
 obtain ⟨cs', h1, _⟩ := h.has
 exact AG hb h1 hT
theorem CodeAt.set (h : CodeAt w pb o n l F) (j : Nat) (hj : j < 10) (v : Value) : CodeAt (w.setCell ⟨pb, o + j, none⟩ v) pb o n (l.set j v) F := by
 obtain ⟨cs, h1, h2, h3, h4⟩ := h.has
 have := h.len
 have := h.fit
 refine ⟨⟨_, AI h1 _ _, by simpa using h2, fun k u hu => ?_, fun p hp => ?_⟩, by simpa using h.len, h.fit⟩
 · by_cases e : j = k
   · subst e
     rw [List.getElem?_set_self (by omega)] at hu
     rw [Array.getElem?_setIfInBounds_self_of_lt (by omega), hu]
   · rw [List.getElem?_set_ne e] at hu
     rw [Array.getElem?_setIfInBounds_ne (by omega)]
     exact h3 k u hu
 · rw [Array.getElem?_setIfInBounds_ne (by omega)]
   exact h4 p hp
end
def LK (a b c : Value) (u : Int) (i : Ins) (ok : Bool) : List Value := [a, b, c, U u, I i.op, I i.a, I i.b, I i.c, I i.imm, .bool ok]
theorem Pres.setNews {Av : Nat → Prop} {a : World} {g : Nat} (hg : a.heap.size ≤ g) : ∀ (vs : List Value) {b : World} (h : Pres Av a b) (o : Nat), Pres Av a (b.setCells g o vs)
 | [], _, h, _ => h
 | v :: vs, _, h, o => Pres.setNews hg vs (h.setNew (p := ⟨g, o, none⟩) hg v) (o + 1)
theorem Nl (hdec : EO) (i : Ins) (hd : CF i = true) (pb o n bb : Nat) (F : Nat → Option Value) (a b c : Value) (w : World) (h : CodeAt w pb o n (LK a b c (BG i) ⟨0, 0, 0, 0, 0⟩ false) F) (hb : w.heap[bb]? = some (.cells #[.pointer (some ⟨pb, o, none⟩)] 410)) : Y 306 #[bb] w fun e w' => e = Z (.tuple #[]) ∧ CodeAt w' pb o n (LK a b c (BG i) i true) F ∧ Pres (fun k => k ≠ pb) w w' := by
 have hdc := Vw (hdec i hd w)
 have c1 := AA hb
 have u3 : w.cell? ⟨pb, o + 3, none⟩ = U (BG i) := h.cell 3 rfl
 have HB := Vw hb
 have H := Vw h
 generalize BG i = u at *
 clear h hb
 go_enter func306, ntmps306
 go_wp2_with fail
 refine hdc.out.mono ?_
 rintro e w1 ⟨rfl, hb1⟩
 obtain ⟨W2, hE, -, hI2⟩ := alloc_new w1 (.cells i 165)
 have hb2 : Below w w W2 := hE ▸ (hb1.trans ((AC w1 _).mono hb1.size))
 have h2 := H.out.block (hb2.block _ H.out.lt)
 have c1 := AA (AB hb2 HB.out)
 have c2 := AA hI2
 have e4 : W2.cell? ⟨pb, o + 4, none⟩ = _ := h2.cell 4 rfl
 have e5 : W2.cell? ⟨pb, o + 5, none⟩ = _ := h2.cell 5 rfl
 have e6 : W2.cell? ⟨pb, o + 6, none⟩ = _ := h2.cell 6 rfl
 have e7 : W2.cell? ⟨pb, o + 7, none⟩ = _ := h2.cell 7 rfl
 have e8 : W2.cell? ⟨pb, o + 8, none⟩ = _ := h2.cell 8 rfl
 have e9 : W2.cell? ⟨pb, o + 9, none⟩ = _ := h2.cell 9 rfl
 have ff := h2.free
 have n1 := h2.ne (AB hb2 HB.out) (by decide)
 have n2 := h2.ne hI2 (by decide)
 have H2 := Vw h2
 have HB2 := Vw hb2
 have HI := Vw (WA (AB hb2 HB.out) hI2)
 clear h2 hb1 hb2 hI2 u3
 go_wp2_with fail
 have HS := Vw (show ∀ w', Pres (fun k => k ≠ pb) W2 w' → (fun w' => w'.cell? bb = some (.pointer (some ⟨pb, o, none⟩)) ∧ w'.cell? w1 = some (I i.op) ∧ w'.cell? ⟨w1, 1, none⟩ = some (I i.a) ∧ w'.cell? ⟨w1, 2, none⟩ = some (I i.b) ∧ w'.cell? ⟨w1, 3, none⟩ = some (I i.c) ∧ w'.cell? ⟨w1, 4, none⟩ = some (I i.imm)) w' from fun w' h => by
  have h1 := (h.block _ (AF HI.out.1) n1).trans HI.out.1
  have h2 := (h.block _ (AF HI.out.2) n2).trans HI.out.2
  exact ⟨AD h1 0 rfl, AD h2 0 rfl, AD h2 1 rfl, AD h2 2 rfl, AD h2 3 rfl, AD h2 4 rfl⟩)
 have hk0 : (fun w' => w'.cell? bb = some (.pointer (some ⟨pb, o, none⟩)) ∧ w'.cell? w1 = some (I i.op) ∧ w'.cell? ⟨w1, 1, none⟩ = some (I i.a) ∧ w'.cell? ⟨w1, 2, none⟩ = some (I i.b) ∧ w'.cell? ⟨w1, 3, none⟩ = some (I i.c) ∧ w'.cell? ⟨w1, 4, none⟩ = some (I i.imm)) W2.drew := HS.out _ (Pres.refl _ W2).drew
 have hk1 : (fun w' => w'.cell? bb = some (.pointer (some ⟨pb, o, none⟩)) ∧ w'.cell? w1 = some (I i.op) ∧ w'.cell? ⟨w1, 1, none⟩ = some (I i.a) ∧ w'.cell? ⟨w1, 2, none⟩ = some (I i.b) ∧ w'.cell? ⟨w1, 3, none⟩ = some (I i.c) ∧ w'.cell? ⟨w1, 4, none⟩ = some (I i.imm)) (((((W2.setCell ⟨pb, o + 4, none⟩ (I i.op)).setCell ⟨pb, o + 4 + 1, none⟩ (I i.a)).setCell ⟨pb, o + 4 + 2, none⟩ (I i.b)).setCell ⟨pb, o + 4 + 3, none⟩ (I i.c)).setCell ⟨pb, o + 4 + 4, none⟩ (I i.imm)).drew := HS.out _ ((((((Pres.refl _ W2).setCell (p := ⟨pb, o + 4, none⟩) (by simp) (I i.op)).setCell (p := ⟨pb, o + 4 + 1, none⟩) (by simp) (I i.a)).setCell (p := ⟨pb, o + 4 + 2, none⟩) (by simp) (I i.b)).setCell (p := ⟨pb, o + 4 + 3, none⟩) (by simp) (I i.c)).setCell (p := ⟨pb, o + 4 + 4, none⟩) (by simp) (I i.imm)).drew
 have hk2 : (fun w' => w'.cell? bb = some (.pointer (some ⟨pb, o, none⟩)) ∧ w'.cell? w1 = some (I i.op) ∧ w'.cell? ⟨w1, 1, none⟩ = some (I i.a) ∧ w'.cell? ⟨w1, 2, none⟩ = some (I i.b) ∧ w'.cell? ⟨w1, 3, none⟩ = some (I i.c) ∧ w'.cell? ⟨w1, 4, none⟩ = some (I i.imm)) ((((((W2.setCell ⟨pb, o + 4, none⟩ (I i.op)).setCell ⟨pb, o + 4 + 1, none⟩ (I i.a)).setCell ⟨pb, o + 4 + 2, none⟩ (I i.b)).setCell ⟨pb, o + 4 + 3, none⟩ (I i.c)).setCell ⟨pb, o + 4 + 4, none⟩ (I i.imm)).setCell ⟨pb, o + 9, none⟩ (.bool true)).drew := HS.out _ (((((((Pres.refl _ W2).setCell (p := ⟨pb, o + 4, none⟩) (by simp) (I i.op)).setCell (p := ⟨pb, o + 4 + 1, none⟩) (by simp) (I i.a)).setCell (p := ⟨pb, o + 4 + 2, none⟩) (by simp) (I i.b)).setCell (p := ⟨pb, o + 4 + 3, none⟩) (by simp) (I i.c)).setCell (p := ⟨pb, o + 4 + 4, none⟩) (by simp) (I i.imm)).setCell (p := ⟨pb, o + 9, none⟩) (by simp) (.bool true)).drew
 have hk3 : (fun w' => w'.cell? bb = some (.pointer (some ⟨pb, o, none⟩)) ∧ w'.cell? w1 = some (I i.op) ∧ w'.cell? ⟨w1, 1, none⟩ = some (I i.a) ∧ w'.cell? ⟨w1, 2, none⟩ = some (I i.b) ∧ w'.cell? ⟨w1, 3, none⟩ = some (I i.c) ∧ w'.cell? ⟨w1, 4, none⟩ = some (I i.imm)) (W2.setCell ⟨pb, o + 9, none⟩ (.bool true)).drew := HS.out _ ((Pres.refl _ W2).setCell (p := ⟨pb, o + 9, none⟩) (by simp) (.bool true)).drew
 have hk4 : (fun w' => w'.cell? bb = some (.pointer (some ⟨pb, o, none⟩)) ∧ w'.cell? w1 = some (I i.op) ∧ w'.cell? ⟨w1, 1, none⟩ = some (I i.a) ∧ w'.cell? ⟨w1, 2, none⟩ = some (I i.b) ∧ w'.cell? ⟨w1, 3, none⟩ = some (I i.c) ∧ w'.cell? ⟨w1, 4, none⟩ = some (I i.imm)) ((((((W2.setCell ⟨pb, o + 9, none⟩ (.bool true)).setCell ⟨pb, o + 4, none⟩ (I i.op)).setCell ⟨pb, o + 4 + 1, none⟩ (I i.a)).setCell ⟨pb, o + 4 + 2, none⟩ (I i.b)).setCell ⟨pb, o + 4 + 3, none⟩ (I i.c)).setCell ⟨pb, o + 4 + 4, none⟩ (I i.imm)).drew := HS.out _ (((((((Pres.refl _ W2).setCell (p := ⟨pb, o + 9, none⟩) (by simp) (.bool true)).setCell (p := ⟨pb, o + 4, none⟩) (by simp) (I i.op)).setCell (p := ⟨pb, o + 4 + 1, none⟩) (by simp) (I i.a)).setCell (p := ⟨pb, o + 4 + 2, none⟩) (by simp) (I i.b)).setCell (p := ⟨pb, o + 4 + 3, none⟩) (by simp) (I i.c)).setCell (p := ⟨pb, o + 4 + 4, none⟩) (by simp) (I i.imm)).drew
 go_region_held3 (fun w' => w'.cell? bb = some (.pointer (some ⟨pb, o, none⟩)) ∧ w'.cell? w1 = some (I i.op) ∧ w'.cell? ⟨w1, 1, none⟩ = some (I i.a) ∧ w'.cell? ⟨w1, 2, none⟩ = some (I i.b) ∧ w'.cell? ⟨w1, 3, none⟩ = some (I i.c) ∧ w'.cell? ⟨w1, 4, none⟩ = some (I i.imm)) (first | with_reducible exact hk0 | with_reducible exact hk1 | with_reducible exact hk2 | with_reducible exact hk3 | with_reducible exact hk4) (fail)
 all_goals
  go_wp2_with fail
  go_end0
  simp only [Nat.add_assoc, Nat.reduceAdd]
  have k9 := (((((H2.out.set 4 (by decide) (I i.op)).set 5 (by decide) (I i.a)).set 6 (by decide) (I i.b)).set 7 (by decide) (I i.c)).set 8 (by decide) (I i.imm)).set 9 (by decide) (.bool true)
  have hl : ((((((LK a b c u ⟨0, 0, 0, 0, 0⟩ false).set 4 (I i.op)).set 5 (I i.a)).set 6 (I i.b)).set 7 (I i.c)).set 8 (I i.imm)).set 9 (.bool true) = LK a b c u i true := rfl
  rw [hl] at k9
  have p9 := ((((((Pres.of_below (Av := fun k => k ≠ pb) HB2.out).setCell (p := ⟨pb, o + 4, none⟩) (by simp) (I i.op)).setCell (p := ⟨pb, o + 5, none⟩) (by simp) (I i.a)).setCell (p := ⟨pb, o + 6, none⟩) (by simp) (I i.b)).setCell (p := ⟨pb, o + 7, none⟩) (by simp) (I i.c)).setCell (p := ⟨pb, o + 8, none⟩) (by simp) (I i.imm)).setCell (p := ⟨pb, o + 9, none⟩) (by simp) (.bool true)
  generalize hW : World.setCell _ ⟨pb, o + 9, none⟩ _ = W9 at *
  exact ⟨trivial, k9.block rfl, p9.drew⟩
theorem RG (hdec : EO) (i : Ins) (hd : CF i = true) (pb o n bb : Nat) (F : Nat → Option Value) (w : World) (h : CodeAt w pb o n (Ct (BG i)) F) (hb : w.heap[bb]? = some (.cells #[.pointer (some ⟨pb, o, none⟩)] 410)) : Y 151 #[.pointer (some ⟨pb, o, none⟩), .func (.func 306) #[] #[bb]] w fun e w' => e = Z (.tuple #[]) ∧ CodeAt w' pb o n (Eg (BG i) i) F ∧ Pres (fun k => k ≠ pb) w w' := by
 have hA := h.set 1 (by decide) (.int .i32 1)
 have hl := Dp ⟨pb, o, none⟩ 0 _ (hA.cell 0 rfl)
 have hf := Nl hdec i hd pb o n bb F (.int .u32 0) (.int .i32 1) (.int .u32 0) _ hA ((Vz _ _ _ _ (h.ne hb (by decide))).trans hb)
 have hk := Hy ⟨pb, o + 1, none⟩ w (h.cell 1 rfl) (h.free _)
 have HP := Vw ((Pres.refl (fun k => k ≠ pb) w).setCell (p := ⟨pb, o + 1, none⟩) (by simp) (.int .i32 1))
 have hnot : ∀ (x : Bool) (w : World), (Op.unary .not (.bool x)).run prog w = .ok (.bool (!x)) w := fun _ _ => rfl
 clear h hb hA
 go_enter_defers func151, ntmps151
 go_wp2_with (first | (go_at_call 198; refine hk.mono ?_; rintro e w' ⟨rfl, rfl⟩) | (go_at_call 150; refine hl.mono ?_; rintro e w' ⟨rfl, rfl⟩) | (go_at_call 306; refine hf.mono ?_; rintro e w2 ⟨rfl, g1, g2⟩))
 refine leaves_cons (f := 200) (args := #[.pointer (some ⟨pb, o, none⟩), true]) (by simp) (by simp [go_sem]) ?_
 refine (Ek ⟨pb, o, none⟩ (.int .u32 0) .returning _ (g1.cell 0 rfl) (g1.free _)).mono ?_
 rintro e u' w'' ⟨rfl, rfl, rfl⟩
 have g3 := (g1.block (w' := w2.drew) rfl).set 0 (by decide) (.int .u32 1)
 refine leaves_cons (f := 199) (args := #[.pointer (some ⟨pb, o + 1, none⟩)]) (by simp [settle]) (by simp [go_sem]) ?_
 refine (EX ⟨pb, o + 1, none⟩ _ _ (g3.cell 1 rfl) (g3.free _)).mono ?_
 rintro e u' w'' ⟨rfl, rfl, rfl⟩
 have g4 := g3.set 1 (by decide) (.int .i32 0)
 have hp4 := (((HP.out.trans g2).drew).setCell (p := ⟨pb, o, none⟩) (by simp) (.int .u32 1)).setCell (p := ⟨pb, o + 1, none⟩) (by simp) (.int .i32 0)
 simp only [Leaves, settle, results, results151]
 exact ⟨.tuple #[], by simp, rfl, g4, hp4⟩
theorem UP (hdec : EO) (i : Ins) (hd : CF i = true) (pb o n bb : Nat) (F : Nat → Option Value) (w : World) (h : CodeAt w pb o n (Ct (BG i)) F) (hb : w.heap[bb]? = some (.cells #[.pointer (some ⟨pb, o, none⟩)] 410)) : Y 95 #[.pointer (some ⟨pb, o, none⟩), .func (.func 306) #[] #[bb]] w fun e w' => e = Z (.tuple #[]) ∧ CodeAt w' pb o n (Eg (BG i) i) F ∧ Pres (fun k => k ≠ pb) w w' := by
 have hl := Dp ⟨pb, o, none⟩ 0 w (h.cell 0 rfl)
 have hs := RG hdec i hd pb o n bb F w h hb
 have hnot : ∀ (x : Bool) (w : World), (Op.unary .not (.bool x)).run prog w = .ok (.bool (!x)) w := fun _ _ => rfl
 clear h hb
 go_enter func95, ntmps95
 go_wp2_with (first | (go_at_call 150; refine hl.mono ?_; rintro e w' ⟨rfl, rfl⟩) | (go_at_call 151; refine hs.mono ?_; rintro e w2 ⟨rfl, g1, g2⟩))
 go_end0
 exact ⟨rfl, g1, g2⟩
theorem PN (hdec : EO) (i : Ins) (hd : CF i = true) (pb o n bb : Nat) (F : Nat → Option Value) (w : World) (h : CodeAt w pb o n (Ct (BG i)) F ∨ CodeAt w pb o n (Eg (BG i) i) F) (hb : w.heap[bb]? = some (.cells #[.pointer (some ⟨pb, o, none⟩)] 410)) : Y 95 #[.pointer (some ⟨pb, o, none⟩), .func (.func 306) #[] #[bb]] w fun e w' => e = Z (.tuple #[]) ∧ CodeAt w' pb o n (Eg (BG i) i) F ∧ Pres (fun k => k ≠ pb) w w' := by
 rcases h with h | h
 · exact UP hdec i hd pb o n bb F w h hb
 · refine (TN ⟨pb, o, none⟩ _ w (h.cell 0 rfl)).mono ?_
   rintro e w' ⟨rfl, rfl⟩
   exact ⟨rfl, h, Pres.refl _ _⟩
theorem PU (hdec : EO) (i : Ins) (hd : CF i = true) (pb o n : Nat) (F : Nat → Option Value) (w : World) (h : CodeAt w pb o n (Ct (BG i)) F ∨ CodeAt w pb o n (Eg (BG i) i) F) : Y 258 #[.pointer (some ⟨pb, o, none⟩)] w fun e w' => e = Z (.tuple #[.agg i, true]) ∧ CodeAt w' pb o n (Eg (BG i) i) F ∧ Pres (fun k => k ≠ pb) w w' := by
 obtain ⟨W1, hE1, hb1, hI1⟩ := alloc_new w (.cells #[.pointer (some ⟨pb, o, none⟩)] 410)
 obtain ⟨W2, hE2, hb2, hI2⟩ := alloc_new W1 (.cells #[I 0, I 0, I 0, I 0, I 0] 165)
 have hb12 := hb1.trans (hb2.mono hb1.size)
 have hlt : pb < w.heap.size := by rcases h with h | h <;> exact h.lt
 have h' : CodeAt W2 pb o n (Ct (BG i)) F ∨ CodeAt W2 pb o n (Eg (BG i) i) F := by
  rcases h with h | h
  · exact .inl (h.block (hb12.block _ hlt))
  · exact .inr (h.block (hb12.block _ hlt))
 have hdo := Vw (PN hdec i hd pb o n w.heap.size F W2 h' (AB hb2 hI1))
 have HI := Vw (WA (AB hb2 hI1) hI2)
 have HB := Vw hb12
 have c1 := AA (AB hb2 hI1)
 have hlt1 := hb1.size
 have hl2 := AF hI1
 clear h h' hb1 hI1 hb2 hI2 hb12
 generalize BG i = u at *
 go_enter func258, ntmps258
 go_wp2_with fail
 refine hdo.out.mono ?_
 rintro e w3 ⟨rfl, g1, g2⟩
 have hn1 : w.heap.size ≠ pb := by omega
 have hn2 : W1.heap.size ≠ pb := by omega
 have i1 := (g2.block _ (AF HI.out.1) hn1).trans HI.out.1
 have i2 := (g2.block _ (AF HI.out.2) hn2).trans HI.out.2
 have HS := Vw (show ∀ w' : World, CodeAt w' pb o n (Eg u i) F → w'.cell? ⟨pb, o + 4, none⟩ = some (I i.op) ∧ w'.cell? ⟨pb, o + 5, none⟩ = some (I i.a) ∧ w'.cell? ⟨pb, o + 6, none⟩ = some (I i.b) ∧ w'.cell? ⟨pb, o + 7, none⟩ = some (I i.c) ∧ w'.cell? ⟨pb, o + 8, none⟩ = some (I i.imm) ∧ w'.cell? ⟨pb, o + 9, none⟩ = some (.bool true) from fun w' h => ⟨h.cell 4 rfl, h.cell 5 rfl, h.cell 6 rfl, h.cell 7 rfl, h.cell 8 rfl, h.cell 9 rfl⟩)
 obtain ⟨e4, e5, e6, e7, e8, e9⟩ := HS.out w3 g1
 have c1 := AA i1
 have c2 := AA i2
 have f2 := AJ i2
 have G := Vw (WA g1 g2)
 have HI1 := Vw i1
 have HI2 := Vw i2
 have hn3 : w.heap.size ≠ W1.heap.size := by omega
 clear g1 g2 i1 i2
 go_wp2_with fail
 have HS2 := Vw (show ∀ w', w'.heap[w.heap.size]? = w3.heap[w.heap.size]? → w'.heap[pb]? = w3.heap[pb]? → (fun w' => w'.cell? w = some (.pointer (some ⟨pb, o, none⟩)) ∧ w'.cell? ⟨pb, o + 4, none⟩ = some (I i.op) ∧ w'.cell? ⟨pb, o + 5, none⟩ = some (I i.a) ∧ w'.cell? ⟨pb, o + 6, none⟩ = some (I i.b) ∧ w'.cell? ⟨pb, o + 7, none⟩ = some (I i.c) ∧ w'.cell? ⟨pb, o + 8, none⟩ = some (I i.imm) ∧ w'.cell? ⟨pb, o + 9, none⟩ = some (.bool true)) w' from fun w' h1 h2 => ⟨AD (h1.trans HI1.out) 0 rfl, HS.out w' (G.out.1.block h2)⟩)
 have hk0 : (fun w' => w'.cell? w = some (.pointer (some ⟨pb, o, none⟩)) ∧ w'.cell? ⟨pb, o + 4, none⟩ = some (I i.op) ∧ w'.cell? ⟨pb, o + 5, none⟩ = some (I i.a) ∧ w'.cell? ⟨pb, o + 6, none⟩ = some (I i.b) ∧ w'.cell? ⟨pb, o + 7, none⟩ = some (I i.c) ∧ w'.cell? ⟨pb, o + 8, none⟩ = some (I i.imm) ∧ w'.cell? ⟨pb, o + 9, none⟩ = some (.bool true)) w3.drew := HS2.out _ rfl rfl
 have hk1 : (fun w' => w'.cell? w = some (.pointer (some ⟨pb, o, none⟩)) ∧ w'.cell? ⟨pb, o + 4, none⟩ = some (I i.op) ∧ w'.cell? ⟨pb, o + 5, none⟩ = some (I i.a) ∧ w'.cell? ⟨pb, o + 6, none⟩ = some (I i.b) ∧ w'.cell? ⟨pb, o + 7, none⟩ = some (I i.c) ∧ w'.cell? ⟨pb, o + 8, none⟩ = some (I i.imm) ∧ w'.cell? ⟨pb, o + 9, none⟩ = some (.bool true)) (((((w3.setCell W1 (I i.op)).setCell ⟨W1, 1, none⟩ (I i.a)).setCell ⟨W1, 2, none⟩ (I i.b)).setCell ⟨W1, 3, none⟩ (I i.c)).setCell ⟨W1, 4, none⟩ (I i.imm)).drew := HS2.out _ (AR (g := W1.heap.size) hn3 [I i.op, I i.a, I i.b, I i.c, I i.imm] w3 0) (AR (g := W1.heap.size) hn2.symm [I i.op, I i.a, I i.b, I i.c, I i.imm] w3 0)
 go_region_held3 (fun w' => w'.cell? w = some (.pointer (some ⟨pb, o, none⟩)) ∧ w'.cell? ⟨pb, o + 4, none⟩ = some (I i.op) ∧ w'.cell? ⟨pb, o + 5, none⟩ = some (I i.a) ∧ w'.cell? ⟨pb, o + 6, none⟩ = some (I i.b) ∧ w'.cell? ⟨pb, o + 7, none⟩ = some (I i.c) ∧ w'.cell? ⟨pb, o + 8, none⟩ = some (I i.imm) ∧ w'.cell? ⟨pb, o + 9, none⟩ = some (.bool true)) (first | with_reducible exact hk0 | with_reducible exact hk1) (fail)
 all_goals
  go_wp2_with fail
  generalize hW : World.setCell _ ⟨W1, 4, none⟩ _ = W9 at *
  have hW9 : W9 = w3.setCells W1.heap.size 0 [I i.op, I i.a, I i.b, I i.c, I i.imm] := hW.symm
  have hr9 : W9.heap[W1.heap.size]? = some (.cells i 165) := by rw [hW9]; exact AT _ HI2.out 0 _ (by kernel_rfl)
  have ho9 : W9.heap[pb]? = w3.heap[pb]? := by rw [hW9]; exact AR hn2.symm _ _ _
  have hp9 : Pres (fun k => k ≠ pb) w W9 := by rw [hW9]; exact Pres.setNews (by omega) _ ((Pres.of_below HB.out).trans G.out.2) 0
  have c9 := AA hr9
  refine bodyPost_ret (v := .tuple #[.agg i, true]) (by simp [results, results258, go_sem, c9]) rfl ?_
  exact ⟨rfl, G.out.1.block ho9, hp9.drew⟩
def SN (nb qb : Nat) (D : Value) : Array Value := #[I 2, I 5, I 1, I 1, I 2, I 2, I 2, .slice (some nb) 2 2, D, qb, I 0]
def VZ (p q : Value) : Array Value := #[p, .slice none 0 0, .slice none 0 0, .slice none 0 0, q, .slice none 0 0, .slice none 0 0, .slice none 0 0]
structure Bg (w : World) (sb qb nb : Nat) (D p q : Value) (W : World) : Prop where
 head : W.heap[sb]? = some (.cells (SN nb qb D) 190)
 nodes : W.heap[nb]? = some (.cells (VZ p q) 183)
 ne : sb ≠ nb
 base : w.heap.size ≤ nb
 pres : Pres (fun k => k ≠ sb) w W
theorem Bg.below {w : World} {sb qb nb : Nat} {D p q : Value} {W W' : World} (h : Bg w sb qb nb D p q W) (hb : Below W W W') : Bg w sb qb nb D p q W' :=
 ⟨AB hb h.head, AB hb h.nodes, h.ne, h.base, h.pres.trans (Pres.of_below hb)⟩
theorem Bg.set0 {w : World} {sb qb nb : Nat} {D p q : Value} {W : World} (h : Bg w sb qb nb D p q W) (x : Value) : Bg w sb qb nb D x q (W.setCell nb x) :=
 ⟨(Vz _ _ _ _ h.ne).trans h.head, AI h.nodes 0 x, h.ne, h.base, h.pres.setNew (p := nb) h.base x⟩
theorem Bg.set4 {w : World} {sb qb nb : Nat} {D p q : Value} {W : World} (h : Bg w sb qb nb D p q W) (x : Value) : Bg w sb qb nb D p x (W.setCell ⟨nb, 4, none⟩ x) :=
 ⟨(Vz _ _ _ _ h.ne).trans h.head, AI h.nodes 4 x, h.ne, h.base, h.pres.setNew (p := ⟨nb, 4, none⟩) h.base x⟩
theorem Ag.other {w : World} {g a l : Nat} {x : Arr} (h : Ag w g a l x) {nb : Nat} {cs : Array Value} {T : TypeId} (hn : w.heap[nb]? = some (.cells cs T (0, 0))) (h1 : 262 ≠ T) (h2 : 301 ≠ T) (h3 : 111 ≠ T) (k : Nat) (v : Value) : Ag (w.setCell ⟨nb, k, none⟩ v) g a l x :=
 ⟨(Vz _ _ _ _ (AG h.1 hn h1)).trans h.1, (Vz _ _ _ _ (AG h.2.head hn h2)).trans h.2.head, (Vz _ _ _ _ (AG h.2.row hn h3)).trans h.2.row⟩
theorem Ag.others {w : World} {g a l : Nat} {x : Arr} (h : Ag w g a l x) {nb : Nat} {cs : Array Value} {T : TypeId} (hn : w.heap[nb]? = some (.cells cs T (0, 0))) (h1 : 262 ≠ T) (h2 : 301 ≠ T) (h3 : 111 ≠ T) (k : Nat) (v : List Value) : Ag (w.setCells nb k v) g a l x :=
 ⟨(AR (AG h.1 hn h1) _ _ _).trans h.1, (AR (AG h.2.head hn h2) _ _ _).trans h.2.head, (AR (AG h.2.row hn h3) _ _ _).trans h.2.row⟩
def GJ : Nat → Array Value
 | 0 => #[.bool false, .bool false, U 0, U 0, U 0, U 0, U 0, U 0, U 0, U 0, I 0, .int .u8 0, I 0, I 0, .int .u8 0, .bool false, .bool false, U 0, U 0, U 0, U 0, U 0, U 0, U 0, U 0, I 0, .int .u8 0, I 0, I 0, .int .u8 0, .bool false, .bool false, U 0, U 0, U 0, U 0, U 0, U 0, U 0, U 0, I 0, .int .u8 0, I 0, I 0, .int .u8 0, .bool false, .bool false, U 0, U 0, U 0, U 0, U 0, U 0, U 0, U 0, I 0, .int .u8 0, I 0, I 0, .int .u8 0, .bool false, .bool false, U 0, U 0, U 0, U 0, U 0, U 0, U 0, U 0, I 0, .int .u8 0, I 0, I 0, .int .u8 0]
 | 1 => #[.bool false, .bool false, U 0, U 0, U 0, U 0, U 0, U 0, U 0, U 0, I (-1), .int .u8 0, I 0, I 0, .int .u8 0, .bool false, .bool false, U 0, U 0, U 0, U 0, U 0, U 0, U 0, U 0, I 0, .int .u8 0, I 0, I 0, .int .u8 0, .bool false, .bool false, U 0, U 0, U 0, U 0, U 0, U 0, U 0, U 0, I 0, .int .u8 0, I 0, I 0, .int .u8 0, .bool false, .bool false, U 0, U 0, U 0, U 0, U 0, U 0, U 0, U 0, I 0, .int .u8 0, I 0, I 0, .int .u8 0, .bool false, .bool false, U 0, U 0, U 0, U 0, U 0, U 0, U 0, U 0, I 0, .int .u8 0, I 0, I 0, .int .u8 0]
 | 2 => #[.bool false, .bool false, U 0, U 0, U 0, U 0, U 0, U 0, U 0, U 0, I (-1), .int .u8 0, I 0, I 0, .int .u8 0, .bool false, .bool false, U 0, U 0, U 0, U 0, U 0, U 0, U 0, U 0, I (-1), .int .u8 0, I 0, I 0, .int .u8 0, .bool false, .bool false, U 0, U 0, U 0, U 0, U 0, U 0, U 0, U 0, I 0, .int .u8 0, I 0, I 0, .int .u8 0, .bool false, .bool false, U 0, U 0, U 0, U 0, U 0, U 0, U 0, U 0, I 0, .int .u8 0, I 0, I 0, .int .u8 0, .bool false, .bool false, U 0, U 0, U 0, U 0, U 0, U 0, U 0, U 0, I 0, .int .u8 0, I 0, I 0, .int .u8 0]
 | 3 => #[.bool false, .bool false, U 0, U 0, U 0, U 0, U 0, U 0, U 0, U 0, I (-1), .int .u8 0, I 0, I 0, .int .u8 0, .bool false, .bool false, U 0, U 0, U 0, U 0, U 0, U 0, U 0, U 0, I (-1), .int .u8 0, I 0, I 0, .int .u8 0, .bool false, .bool false, U 0, U 0, U 0, U 0, U 0, U 0, U 0, U 0, I (-1), .int .u8 0, I 0, I 0, .int .u8 0, .bool false, .bool false, U 0, U 0, U 0, U 0, U 0, U 0, U 0, U 0, I 0, .int .u8 0, I 0, I 0, .int .u8 0, .bool false, .bool false, U 0, U 0, U 0, U 0, U 0, U 0, U 0, U 0, I 0, .int .u8 0, I 0, I 0, .int .u8 0]
 | 4 => #[.bool false, .bool false, U 0, U 0, U 0, U 0, U 0, U 0, U 0, U 0, I (-1), .int .u8 0, I 0, I 0, .int .u8 0, .bool false, .bool false, U 0, U 0, U 0, U 0, U 0, U 0, U 0, U 0, I (-1), .int .u8 0, I 0, I 0, .int .u8 0, .bool false, .bool false, U 0, U 0, U 0, U 0, U 0, U 0, U 0, U 0, I (-1), .int .u8 0, I 0, I 0, .int .u8 0, .bool false, .bool false, U 0, U 0, U 0, U 0, U 0, U 0, U 0, U 0, I (-1), .int .u8 0, I 0, I 0, .int .u8 0, .bool false, .bool false, U 0, U 0, U 0, U 0, U 0, U 0, U 0, U 0, I 0, .int .u8 0, I 0, I 0, .int .u8 0]
 | _ => #[.bool false, .bool false, U 0, U 0, U 0, U 0, U 0, U 0, U 0, U 0, I (-1), .int .u8 0, I 0, I 0, .int .u8 0, .bool false, .bool false, U 0, U 0, U 0, U 0, U 0, U 0, U 0, U 0, I (-1), .int .u8 0, I 0, I 0, .int .u8 0, .bool false, .bool false, U 0, U 0, U 0, U 0, U 0, U 0, U 0, U 0, I (-1), .int .u8 0, I 0, I 0, .int .u8 0, .bool false, .bool false, U 0, U 0, U 0, U 0, U 0, U 0, U 0, U 0, I (-1), .int .u8 0, I 0, I 0, .int .u8 0, .bool false, .bool false, U 0, U 0, U 0, U 0, U 0, U 0, U 0, U 0, I (-1), .int .u8 0, I 0, I 0, .int .u8 0]
structure Bd (w : World) (sb qb nb db g0 a0 l0 g1 a1 l1 j : Nat) (W : World) : Prop where
 bg : Bg w sb qb nb (.slice (some db) 5 5) (.pointer (some g0)) (.pointer (some g1)) W
 dir : W.heap[db]? = some (.cells (GJ j) 114)
 ag0 : Ag W g0 a0 l0 ⟨Slot.zero, Slot.zero, 0⟩
 ag1 : Ag W g1 a1 l1 ⟨Slot.zero, Slot.zero, 0⟩
 new : w.heap.size ≤ db
theorem Bd.below {w : World} {sb qb nb db g0 a0 l0 g1 a1 l1 j : Nat} {W W' : World} (h : Bd w sb qb nb db g0 a0 l0 g1 a1 l1 j W) (hb : Below W W W') : Bd w sb qb nb db g0 a0 l0 g1 a1 l1 j W' :=
 ⟨h.bg.below hb, AB hb h.dir, h.ag0.below hb, h.ag1.below hb, h.new⟩
def VF : List Value := [.bool false, .bool false, U 0, U 0, U 0, U 0, U 0, U 0, U 0, U 0, I (-1), .int .u8 0, I 0, I 0, .int .u8 0]
theorem Bd.next {w : World} {sb qb nb db g0 a0 l0 g1 a1 l1 j o : Nat} {W : World} (h : Bd w sb qb nb db g0 a0 l0 g1 a1 l1 j W) (ho : EB (GJ j) o VF = GJ (j + 1)) : Bd w sb qb nb db g0 a0 l0 g1 a1 l1 (j + 1) (W.setCells db o VF) :=
 ⟨⟨(AR (AG h.bg.head h.dir (by decide)) _ _ _).trans h.bg.head, (AR (AG h.bg.nodes h.dir (by decide)) _ _ _).trans h.bg.nodes, h.bg.ne, h.bg.base, Pres.setNews h.new _ h.bg.pres o⟩, AT _ h.dir o _ ho, h.ag0.others h.dir (by decide) (by decide) (by decide) o _, h.ag1.others h.dir (by decide) (by decide) (by decide) o _, h.new⟩
theorem Bg.s {w : World} {sb qb nb : Nat} {D p q : Value} {W : World} (h : Bg w sb qb nb D p q W) : (fun w' => w'.cell? ⟨sb, 7, none⟩ = some (.slice (some nb) 2 2) ∧ w'.cell? ⟨sb, 2, none⟩ = some (I 1) ∧ w'.cell? ⟨sb, 3, none⟩ = some (I 1) ∧ w'.cell? ⟨sb, 4, none⟩ = some (I 2)) W := by
 have h := h.head
 unfold SN at h
 exact ⟨AD h 7 rfl, AD h 2 rfl, AD h 3 rfl, AD h 4 rfl⟩
theorem Lz (sb qb : Nat) (w : World) (h : w.heap[sb]? = some (.cells #[I 2, I 5, I 1, I 1, I 2, I 2, I 2, .slice none 0 0, .slice none 0 0, qb, I 0] 190)) : Y 123 #[sb] w fun e w' => e = Z (.tuple #[]) ∧ ∃ nb db g0 a0 l0 g1 a1 l1, Bd w sb qb nb db g0 a0 l0 g1 a1 l1 5 w' ∧ g0 ≠ g1 ∧ a0 ≠ a1 ∧ l0 ≠ l1 ∧ w.heap.size ≤ g0 ∧ w.heap.size ≤ a0 ∧ w.heap.size ≤ l0 ∧ w.heap.size ≤ g1 ∧ w.heap.size ≤ a1 ∧ w.heap.size ≤ l1 := by
 have hmk1 : ∀ w : World, (Instr.makeSlice 186 (I 2) (I 2)).run prog w = .ok (.slice (some ⟨w.heap.size, 0, none⟩) 2 2) (w.alloc (.cells #[.pointer none, .slice none 0 0, .slice none 0 0, .slice none 0 0, .pointer none, .slice none 0 0, .slice none 0 0, .slice none 0 0] 183)) := fun w => by kernel_rfl
 have hmk2 : ∀ w : World, (Instr.makeSlice 187 (I 5) (I 5)).run prog w = .ok (.slice (some ⟨w.heap.size, 0, none⟩) 5 5) (w.alloc (.cells (GJ 0) 114)) := fun w => by kernel_rfl
 obtain ⟨W1, hE, hb1, hI1⟩ := alloc_new w (.cells #[.pointer none, .slice none 0 0, .slice none 0 0, .slice none 0 0, .pointer none, .slice none 0 0, .slice none 0 0, .slice none 0 0] 183)
 have h1 := AB hb1 h
 have c0 := AA h
 have c1 := AA h1
 have f1 := AJ h1
 have HX := Vw (WA hb1 (WA hI1 h1))
 have hlt := AF h
 have hne := Vw (Nat.ne_of_lt hlt)
 clear hb1 hI1 h1 h
 go_enter func123, ntmps123
 go_wp2_with fail
 refine wp_loop_rounds 3 ?_
 rw [rounds_succ]
 go_wp2_with fail
 generalize hW : W1.setCell ⟨sb, 7, none⟩ _ = W2
 have g0 : Bg w sb qb w.heap.size (.slice none 0 0) (.pointer none) (.pointer none) W2 := by
  rw [← hW]
  exact ⟨AI HX.out.2.2 7 _, (Vz _ _ _ _ hne.out.symm).trans HX.out.2.1, hne.out, Nat.le_refl _, (Pres.of_below HX.out.1).setCell (p := ⟨sb, 7, none⟩) (by simp) _⟩
 clear hW c0 c1 f1
 have hk0 := (g0.below (Below.refl _ _).drew).s
 have G0 := Vw g0
 clear g0
 go_region_held3 (fun w' => w'.cell? ⟨sb, 7, none⟩ = some (.slice (some w) 2 2) ∧ w'.cell? ⟨sb, 2, none⟩ = some (I 1) ∧ w'.cell? ⟨sb, 3, none⟩ = some (I 1) ∧ w'.cell? ⟨sb, 4, none⟩ = some (I 2)) (first | with_reducible exact hk0 | with_reducible exact hk1 | with_reducible exact hk2)
  (first
   | (go_at_call 165; refine (Iw _).mono ?_; rintro e w3 ⟨g0, a0, l0, rfl, hag0, h1, h2, h3, hb3⟩; have g1 := (G0.out.below (Below.refl _ _).drew).below hb3; have hk1 := g1.s; have hk2 := (g1.set0 (.pointer (some g0))).s; have d0 := AD g1.nodes 0 rfl; have f0 := AJ g1.nodes))
 have G1 := Vw (WA (g1.set0 (.pointer (some g0))) (WA (hag0.other g1.nodes (by decide) (by decide) (by decide) 0 (.pointer (some g0))) (WA (show w.heap.size ≤ g0 from Vx G0.out.pres.size h1) (WA (show w.heap.size ≤ a0 from Vx G0.out.pres.size h2) (show w.heap.size ≤ l0 from Vx G0.out.pres.size h3)))))
 clear g1 hag0 h1 h2 h3 hb3 hk0 hk1 hk2 d0 f0
 generalize World.setCell w3 _ _ = W4 at *
 have q7 := G1.out.1.s.1
 go_wp2_with fail
 rw [rounds_succ]
 go_wp2_with fail
 have hk0 := (G1.out.1.below (Below.refl _ _).drew).s
 go_region_held3 (fun w' => w'.cell? ⟨sb, 7, none⟩ = some (.slice (some w) 2 2) ∧ w'.cell? ⟨sb, 2, none⟩ = some (I 1) ∧ w'.cell? ⟨sb, 3, none⟩ = some (I 1) ∧ w'.cell? ⟨sb, 4, none⟩ = some (I 2)) (first | with_reducible exact hk0 | with_reducible exact hk1 | with_reducible exact hk2)
  (first
   | (go_at_call 165; refine (Iw _).mono ?_; rintro e w5 ⟨g1, a1, l1, rfl, hag1, h1, h2, h3, hb5⟩; have g5 := (G1.out.1.below (Below.refl _ _).drew).below hb5; have hk1 := g5.s; have hk2 := (g5.set4 (.pointer (some g1))).s; have d0 := AD g5.nodes 4 rfl; have f0 := AJ g5.nodes; have hag0 := (G1.out.2.1.below (Below.refl _ _).drew).below hb5))
 have z0 := AF G1.out.2.1.1
 have z1 := AF G1.out.2.1.2.head
 have z2 := AF G1.out.2.1.2.row
 have hs4 : w.heap.size ≤ W4.heap.size := G1.out.1.pres.size
 have h1 : W4.heap.size ≤ g1 := h1
 have h2 : W4.heap.size ≤ a1 := h2
 have h3 : W4.heap.size ≤ l1 := h3
 have G2 := Vw (WA (g5.set4 (.pointer (some g1))) (WA (hag0.other g5.nodes (by decide) (by decide) (by decide) 4 (.pointer (some g1))) (hag1.other g5.nodes (by decide) (by decide) (by decide) 4 (.pointer (some g1)))))
 have HN := Vw (show g0 ≠ g1 ∧ a0 ≠ a1 ∧ l0 ≠ l1 ∧ w.heap.size ≤ g0 ∧ w.heap.size ≤ a0 ∧ w.heap.size ≤ l0 ∧ w.heap.size ≤ g1 ∧ w.heap.size ≤ a1 ∧ w.heap.size ≤ l1 from ⟨by omega, by omega, by omega, G1.out.2.2.1, G1.out.2.2.2.1, G1.out.2.2.2.2, by omega, by omega, by omega⟩)
 clear g5 hag0 hag1 h1 h2 h3 hb5 hk0 hk1 hk2 d0 f0 q7 z0 z1 z2 hs4
 generalize World.setCell w5 _ _ = W5 at *
 have q7 := G2.out.1.s.1
 have q1 : W5.cell? ⟨sb, 1, none⟩ = I 5 := AD G2.out.1.head 1 rfl
 obtain ⟨W6, hE6, hb6, hI6⟩ := alloc_new W5 (.cells (GJ 0) 114)
 have g6 := G2.out.1.below hb6
 have c6 := AA g6.head
 unfold SN at c6
 have f6 := AJ g6.head
 have hlt6 := AF G2.out.1.head
 have G6 := Vw (WA g6 (WA hI6 (WA (G2.out.2.1.below hb6) (G2.out.2.2.below hb6))))
 have hs5 := Vw (show w.heap.size ≤ W5.heap.size from G2.out.1.pres.size)
 clear g6 hb6 hI6
 go_wp2_with fail
 rw [rounds_succ]
 go_wp2_with fail
 refine wp_loop_rounds 6 ?_
 generalize hdb : W5.heap.size = db at *
 generalize hW : W6.setCell ⟨sb, 8, none⟩ _ = V0
 have B0 := Vw (show Bd w sb qb w.heap.size db g0 a0 l0 g1 a1 l1 0 V0 by
  rw [← hW]
  obtain ⟨g6, hI6, x1, x2⟩ := G6.out
  exact ⟨⟨AI g6.head 8 _, (Vz _ _ _ _ g6.ne.symm).trans g6.nodes, g6.ne, g6.base, g6.pres.setCell (p := ⟨sb, 8, none⟩) (by simp) _⟩, (Vz _ _ _ _ (AG g6.head hI6 (by decide)).symm).trans hI6, x1.other g6.head (by decide) (by decide) (by decide) 8 _, x2.other g6.head (by decide) (by decide) (by decide) 8 _, hs5.out⟩)
 have hde := Vw (show ∀ w, Y 76 #[] w fun e w' => e = Z (.agg KG) ∧ Below w.heap.size w w' from fun w => MR w)
 clear hW c6 f6 q7 q1 hlt6 hE6 hE hmk1 hmk2
 have e8 := AD B0.out.bg.head 8 rfl
 rw [rounds_succ]
 go_wp2_with fail
 have hk0 : (fun w' => w'.cell? ⟨sb, 8, none⟩ = some (.slice (some db) 5 5)) V0.drew := e8
 go_region_held3 (fun w' => w'.cell? ⟨sb, 8, none⟩ = some (.slice (some db) 5 5)) (first | with_reducible exact hk0 | with_reducible exact hk1 | with_reducible exact hk2)
  (first
   | (go_at_call 76; refine (hde.out _).mono ?_; rintro e w7 ⟨rfl, hb7⟩; have b7 := (B0.out.below (Below.refl _ _).drew).below hb7; have hk1 : (fun w' => w'.cell? ⟨sb, 8, none⟩ = some (.slice (some db) 5 5)) w7 := AD b7.bg.head 8 rfl; have hd7 := b7.dir; unfold GJ at hd7; have c7 := AA hd7; have f7 := AJ hd7; have hk2 : (fun w' => w'.cell? ⟨sb, 8, none⟩ = some (.slice (some db) 5 5)) (((((((((((((((w7.setCell db (.bool false)).setCell ⟨db, 1, none⟩ (.bool false)).setCell ⟨db, 2, none⟩ (U 0)).setCell ⟨db, 3, none⟩ (U 0)).setCell ⟨db, 4, none⟩ (U 0)).setCell ⟨db, 5, none⟩ (U 0)).setCell ⟨db, 6, none⟩ (U 0)).setCell ⟨db, 7, none⟩ (U 0)).setCell ⟨db, 8, none⟩ (U 0)).setCell ⟨db, 9, none⟩ (U 0)).setCell ⟨db, 10, none⟩ (I (-1))).setCell ⟨db, 11, none⟩ (.int .u8 0)).setCell ⟨db, 12, none⟩ (I 0)).setCell ⟨db, 13, none⟩ (I 0)).setCell ⟨db, 14, none⟩ (.int .u8 0)) := AD (b7.next (o := 0) (by kernel_rfl)).bg.head 8 rfl))
 generalize hW : World.setCell _ ⟨db, 14, none⟩ _ = V1 at *
 have B1 := Vw (show Bd w sb qb w.heap.size db g0 a0 l0 g1 a1 l1 1 V1 by
  rw [← hW]
  exact b7.next (o := 0) (by kernel_rfl))
 clear hW c7 f7 hd7 hk0 hk1 hk2 e8 b7 hb7
 go_wp2_with fail
 have e8 := AD B1.out.bg.head 8 rfl
 rw [rounds_succ]
 go_wp2_with fail
 have hk0 : (fun w' => w'.cell? ⟨sb, 8, none⟩ = some (.slice (some db) 5 5)) V1.drew := e8
 go_region_held3 (fun w' => w'.cell? ⟨sb, 8, none⟩ = some (.slice (some db) 5 5)) (first | with_reducible exact hk0 | with_reducible exact hk1 | with_reducible exact hk2)
  (first
   | (go_at_call 76; refine (hde.out _).mono ?_; rintro e w7 ⟨rfl, hb7⟩; have b7 := (B1.out.below (Below.refl _ _).drew).below hb7; have hk1 : (fun w' => w'.cell? ⟨sb, 8, none⟩ = some (.slice (some db) 5 5)) w7 := AD b7.bg.head 8 rfl; have hd7 := b7.dir; unfold GJ at hd7; have c7 := AA hd7; have f7 := AJ hd7; have hk2 : (fun w' => w'.cell? ⟨sb, 8, none⟩ = some (.slice (some db) 5 5)) (((((((((((((((w7.setCell ⟨db, 15, none⟩ (.bool false)).setCell ⟨db, 16, none⟩ (.bool false)).setCell ⟨db, 17, none⟩ (U 0)).setCell ⟨db, 18, none⟩ (U 0)).setCell ⟨db, 19, none⟩ (U 0)).setCell ⟨db, 20, none⟩ (U 0)).setCell ⟨db, 21, none⟩ (U 0)).setCell ⟨db, 22, none⟩ (U 0)).setCell ⟨db, 23, none⟩ (U 0)).setCell ⟨db, 24, none⟩ (U 0)).setCell ⟨db, 25, none⟩ (I (-1))).setCell ⟨db, 26, none⟩ (.int .u8 0)).setCell ⟨db, 27, none⟩ (I 0)).setCell ⟨db, 28, none⟩ (I 0)).setCell ⟨db, 29, none⟩ (.int .u8 0)) := AD (b7.next (o := 15) (by kernel_rfl)).bg.head 8 rfl))
 generalize hW : World.setCell _ ⟨db, 29, none⟩ _ = V2 at *
 have B2 := Vw (show Bd w sb qb w.heap.size db g0 a0 l0 g1 a1 l1 2 V2 by
  rw [← hW]
  exact b7.next (o := 15) (by kernel_rfl))
 clear hW c7 f7 hd7 hk0 hk1 hk2 e8 b7 hb7
 go_wp2_with fail
 have e8 := AD B2.out.bg.head 8 rfl
 rw [rounds_succ]
 go_wp2_with fail
 have hk0 : (fun w' => w'.cell? ⟨sb, 8, none⟩ = some (.slice (some db) 5 5)) V2.drew := e8
 go_region_held3 (fun w' => w'.cell? ⟨sb, 8, none⟩ = some (.slice (some db) 5 5)) (first | with_reducible exact hk0 | with_reducible exact hk1 | with_reducible exact hk2)
  (first
   | (go_at_call 76; refine (hde.out _).mono ?_; rintro e w7 ⟨rfl, hb7⟩; have b7 := (B2.out.below (Below.refl _ _).drew).below hb7; have hk1 : (fun w' => w'.cell? ⟨sb, 8, none⟩ = some (.slice (some db) 5 5)) w7 := AD b7.bg.head 8 rfl; have hd7 := b7.dir; unfold GJ at hd7; have c7 := AA hd7; have f7 := AJ hd7; have hk2 : (fun w' => w'.cell? ⟨sb, 8, none⟩ = some (.slice (some db) 5 5)) (((((((((((((((w7.setCell ⟨db, 30, none⟩ (.bool false)).setCell ⟨db, 31, none⟩ (.bool false)).setCell ⟨db, 32, none⟩ (U 0)).setCell ⟨db, 33, none⟩ (U 0)).setCell ⟨db, 34, none⟩ (U 0)).setCell ⟨db, 35, none⟩ (U 0)).setCell ⟨db, 36, none⟩ (U 0)).setCell ⟨db, 37, none⟩ (U 0)).setCell ⟨db, 38, none⟩ (U 0)).setCell ⟨db, 39, none⟩ (U 0)).setCell ⟨db, 40, none⟩ (I (-1))).setCell ⟨db, 41, none⟩ (.int .u8 0)).setCell ⟨db, 42, none⟩ (I 0)).setCell ⟨db, 43, none⟩ (I 0)).setCell ⟨db, 44, none⟩ (.int .u8 0)) := AD (b7.next (o := 30) (by kernel_rfl)).bg.head 8 rfl))
 generalize hW : World.setCell _ ⟨db, 44, none⟩ _ = V3 at *
 have B3 := Vw (show Bd w sb qb w.heap.size db g0 a0 l0 g1 a1 l1 3 V3 by
  rw [← hW]
  exact b7.next (o := 30) (by kernel_rfl))
 clear hW c7 f7 hd7 hk0 hk1 hk2 e8 b7 hb7
 go_wp2_with fail
 have e8 := AD B3.out.bg.head 8 rfl
 rw [rounds_succ]
 go_wp2_with fail
 have hk0 : (fun w' => w'.cell? ⟨sb, 8, none⟩ = some (.slice (some db) 5 5)) V3.drew := e8
 go_region_held3 (fun w' => w'.cell? ⟨sb, 8, none⟩ = some (.slice (some db) 5 5)) (first | with_reducible exact hk0 | with_reducible exact hk1 | with_reducible exact hk2)
  (first
   | (go_at_call 76; refine (hde.out _).mono ?_; rintro e w7 ⟨rfl, hb7⟩; have b7 := (B3.out.below (Below.refl _ _).drew).below hb7; have hk1 : (fun w' => w'.cell? ⟨sb, 8, none⟩ = some (.slice (some db) 5 5)) w7 := AD b7.bg.head 8 rfl; have hd7 := b7.dir; unfold GJ at hd7; have c7 := AA hd7; have f7 := AJ hd7; have hk2 : (fun w' => w'.cell? ⟨sb, 8, none⟩ = some (.slice (some db) 5 5)) (((((((((((((((w7.setCell ⟨db, 45, none⟩ (.bool false)).setCell ⟨db, 46, none⟩ (.bool false)).setCell ⟨db, 47, none⟩ (U 0)).setCell ⟨db, 48, none⟩ (U 0)).setCell ⟨db, 49, none⟩ (U 0)).setCell ⟨db, 50, none⟩ (U 0)).setCell ⟨db, 51, none⟩ (U 0)).setCell ⟨db, 52, none⟩ (U 0)).setCell ⟨db, 53, none⟩ (U 0)).setCell ⟨db, 54, none⟩ (U 0)).setCell ⟨db, 55, none⟩ (I (-1))).setCell ⟨db, 56, none⟩ (.int .u8 0)).setCell ⟨db, 57, none⟩ (I 0)).setCell ⟨db, 58, none⟩ (I 0)).setCell ⟨db, 59, none⟩ (.int .u8 0)) := AD (b7.next (o := 45) (by kernel_rfl)).bg.head 8 rfl))
 generalize hW : World.setCell _ ⟨db, 59, none⟩ _ = V4 at *
 have B4 := Vw (show Bd w sb qb w.heap.size db g0 a0 l0 g1 a1 l1 4 V4 by
  rw [← hW]
  exact b7.next (o := 45) (by kernel_rfl))
 clear hW c7 f7 hd7 hk0 hk1 hk2 e8 b7 hb7
 go_wp2_with fail
 have e8 := AD B4.out.bg.head 8 rfl
 rw [rounds_succ]
 go_wp2_with fail
 have hk0 : (fun w' => w'.cell? ⟨sb, 8, none⟩ = some (.slice (some db) 5 5)) V4.drew := e8
 go_region_held3 (fun w' => w'.cell? ⟨sb, 8, none⟩ = some (.slice (some db) 5 5)) (first | with_reducible exact hk0 | with_reducible exact hk1 | with_reducible exact hk2)
  (first
   | (go_at_call 76; refine (hde.out _).mono ?_; rintro e w7 ⟨rfl, hb7⟩; have b7 := (B4.out.below (Below.refl _ _).drew).below hb7; have hk1 : (fun w' => w'.cell? ⟨sb, 8, none⟩ = some (.slice (some db) 5 5)) w7 := AD b7.bg.head 8 rfl; have hd7 := b7.dir; unfold GJ at hd7; have c7 := AA hd7; have f7 := AJ hd7; have hk2 : (fun w' => w'.cell? ⟨sb, 8, none⟩ = some (.slice (some db) 5 5)) (((((((((((((((w7.setCell ⟨db, 60, none⟩ (.bool false)).setCell ⟨db, 61, none⟩ (.bool false)).setCell ⟨db, 62, none⟩ (U 0)).setCell ⟨db, 63, none⟩ (U 0)).setCell ⟨db, 64, none⟩ (U 0)).setCell ⟨db, 65, none⟩ (U 0)).setCell ⟨db, 66, none⟩ (U 0)).setCell ⟨db, 67, none⟩ (U 0)).setCell ⟨db, 68, none⟩ (U 0)).setCell ⟨db, 69, none⟩ (U 0)).setCell ⟨db, 70, none⟩ (I (-1))).setCell ⟨db, 71, none⟩ (.int .u8 0)).setCell ⟨db, 72, none⟩ (I 0)).setCell ⟨db, 73, none⟩ (I 0)).setCell ⟨db, 74, none⟩ (.int .u8 0)) := AD (b7.next (o := 60) (by kernel_rfl)).bg.head 8 rfl))
 generalize hW : World.setCell _ ⟨db, 74, none⟩ _ = V5 at *
 have B5 := Vw (show Bd w sb qb w.heap.size db g0 a0 l0 g1 a1 l1 5 V5 by
  rw [← hW]
  exact b7.next (o := 60) (by kernel_rfl))
 clear hW c7 f7 hd7 hk0 hk1 hk2 e8 b7 hb7
 go_wp2_with fail
 have e8 := AD B5.out.bg.head 8 rfl
 rw [rounds_succ]
 go_wp2_with fail
 go_end0
 exact ⟨rfl, w.heap.size, db, g0, a0, l0, g1, a1, l1, B5.out, HN.out⟩
def Ds (sb nb db qb dv mb g0 g1 a0 a1 l0 l1 : Nat) : Nat → Nat := fun k => if k = sb then 1 else if k = nb then 2 else if k = db then 3 else if k = qb then 4 else if k = dv then 5 else if k = mb then 6 else if k = g0 then 7 else if k = g1 then 8 else if k = a0 then 9 else if k = a1 then 10 else if k = l0 then 11 else if k = l1 then 12 else 0
def OP (mem : List Ln) : Sys := ⟨LG, LG, [Ent.empty, Ent.empty, Ent.empty, Ent.empty, Ent.empty], [], mem⟩
theorem Sd {w0 w : World} {sb nb db qb dv mb g0 g1 a0 a1 l0 l1 : Nat} {r q : Int} {mem : List Ln} (hB : Bd w0 sb qb nb db g0 a0 l0 g1 a1 l1 5 w) (hg : g0 ≠ g1) (ha : a0 ≠ a1) (hl : l0 ≠ l1) (hq : w.heap[qb]? = some (.cells #[dv, I 2, .slice none 0 0] 295)) (hm : Bh w dv mb r q mem) : SysAt (Ds sb nb db qb dv mb g0 g1 a0 a1 l0 l1) w ⟨sb, nb, db, qb, dv, mb, g0, g1, a0, a1, l0, l1⟩ ⟨.slice none 0 0, .slice none 0 0, .slice none 0 0, .slice none 0 0, .slice none 0 0, .slice none 0 0, .slice none 0 0, 0, r, q⟩ (OP mem) := by
 have h1 := hB.bg.head
 have h2 := hB.bg.nodes
 have h3 := hB.dir
 have h7 := hB.ag0.1
 have h8 := hB.ag1.1
 have h9 := hB.ag0.2.head
 have h10 := hB.ag1.2.head
 have h11 := hB.ag0.2.row
 have h12 := hB.ag1.2.row
 have h5 := hm.1
 have h6 := hm.2.1
 have n1_0 : nb ≠ sb := AG h2 h1 (by decide)
 have n2_0 : db ≠ sb := AG h3 h1 (by decide)
 have n2_1 : db ≠ nb := AG h3 h2 (by decide)
 have n3_0 : qb ≠ sb := AG hq h1 (by decide)
 have n3_1 : qb ≠ nb := AG hq h2 (by decide)
 have n3_2 : qb ≠ db := AG hq h3 (by decide)
 have n4_0 : dv ≠ sb := AG h5 h1 (by decide)
 have n4_1 : dv ≠ nb := AG h5 h2 (by decide)
 have n4_2 : dv ≠ db := AG h5 h3 (by decide)
 have n4_3 : dv ≠ qb := AG h5 hq (by decide)
 have n5_0 : mb ≠ sb := AG h6 h1 (by decide)
 have n5_1 : mb ≠ nb := AG h6 h2 (by decide)
 have n5_2 : mb ≠ db := AG h6 h3 (by decide)
 have n5_3 : mb ≠ qb := AG h6 hq (by decide)
 have n5_4 : mb ≠ dv := AG h6 h5 (by decide)
 have n6_0 : g0 ≠ sb := AG h7 h1 (by decide)
 have n6_1 : g0 ≠ nb := AG h7 h2 (by decide)
 have n6_2 : g0 ≠ db := AG h7 h3 (by decide)
 have n6_3 : g0 ≠ qb := AG h7 hq (by decide)
 have n6_4 : g0 ≠ dv := AG h7 h5 (by decide)
 have n6_5 : g0 ≠ mb := AG h7 h6 (by decide)
 have n7_0 : g1 ≠ sb := AG h8 h1 (by decide)
 have n7_1 : g1 ≠ nb := AG h8 h2 (by decide)
 have n7_2 : g1 ≠ db := AG h8 h3 (by decide)
 have n7_3 : g1 ≠ qb := AG h8 hq (by decide)
 have n7_4 : g1 ≠ dv := AG h8 h5 (by decide)
 have n7_5 : g1 ≠ mb := AG h8 h6 (by decide)
 have n7_6 : g1 ≠ g0 := hg.symm
 have n8_0 : a0 ≠ sb := AG h9 h1 (by decide)
 have n8_1 : a0 ≠ nb := AG h9 h2 (by decide)
 have n8_2 : a0 ≠ db := AG h9 h3 (by decide)
 have n8_3 : a0 ≠ qb := AG h9 hq (by decide)
 have n8_4 : a0 ≠ dv := AG h9 h5 (by decide)
 have n8_5 : a0 ≠ mb := AG h9 h6 (by decide)
 have n8_6 : a0 ≠ g0 := AG h9 h7 (by decide)
 have n8_7 : a0 ≠ g1 := AG h9 h8 (by decide)
 have n9_0 : a1 ≠ sb := AG h10 h1 (by decide)
 have n9_1 : a1 ≠ nb := AG h10 h2 (by decide)
 have n9_2 : a1 ≠ db := AG h10 h3 (by decide)
 have n9_3 : a1 ≠ qb := AG h10 hq (by decide)
 have n9_4 : a1 ≠ dv := AG h10 h5 (by decide)
 have n9_5 : a1 ≠ mb := AG h10 h6 (by decide)
 have n9_6 : a1 ≠ g0 := AG h10 h7 (by decide)
 have n9_7 : a1 ≠ g1 := AG h10 h8 (by decide)
 have n9_8 : a1 ≠ a0 := ha.symm
 have n10_0 : l0 ≠ sb := AG h11 h1 (by decide)
 have n10_1 : l0 ≠ nb := AG h11 h2 (by decide)
 have n10_2 : l0 ≠ db := AG h11 h3 (by decide)
 have n10_3 : l0 ≠ qb := AG h11 hq (by decide)
 have n10_4 : l0 ≠ dv := AG h11 h5 (by decide)
 have n10_5 : l0 ≠ mb := AG h11 h6 (by decide)
 have n10_6 : l0 ≠ g0 := AG h11 h7 (by decide)
 have n10_7 : l0 ≠ g1 := AG h11 h8 (by decide)
 have n10_8 : l0 ≠ a0 := AG h11 h9 (by decide)
 have n10_9 : l0 ≠ a1 := AG h11 h10 (by decide)
 have n11_0 : l1 ≠ sb := AG h12 h1 (by decide)
 have n11_1 : l1 ≠ nb := AG h12 h2 (by decide)
 have n11_2 : l1 ≠ db := AG h12 h3 (by decide)
 have n11_3 : l1 ≠ qb := AG h12 hq (by decide)
 have n11_4 : l1 ≠ dv := AG h12 h5 (by decide)
 have n11_5 : l1 ≠ mb := AG h12 h6 (by decide)
 have n11_6 : l1 ≠ g0 := AG h12 h7 (by decide)
 have n11_7 : l1 ≠ g1 := AG h12 h8 (by decide)
 have n11_8 : l1 ≠ a0 := AG h12 h9 (by decide)
 have n11_9 : l1 ≠ a1 := AG h12 h10 (by decide)
 have n11_10 : l1 ≠ l0 := hl.symm
 have rn : ∀ e size, AH w e size (.slice none 0 0) 0 [] := fun e size => AH.nil w e size
 have lb : ∀ T r, Fq T (.slice none 0 0) r := fun T r k hk => by simp [Value.ownBlock] at hk
 refine ⟨h1, h2, h7, h8, hB.ag0.2, hB.ag1.2, rn _ _, rn _ _, rn _ _, rn _ _, rn _ _, rn _ _, h3, rfl, hq, rn _ _, hm, ?_, ?_, ?_, ?_, ?_, ?_, ?_, ?_, ?_, ?_, ?_, ?_, lb _ _, lb _ _, lb _ _, lb _ _, lb _ _, lb _ _, lb _ _, fun k hk => ?_⟩
 · simp [Ds]
 · simp [Ds, n1_0]
 · simp [Ds, n2_0, n2_1]
 · simp [Ds, n3_0, n3_1, n3_2]
 · simp [Ds, n4_0, n4_1, n4_2, n4_3]
 · simp [Ds, n5_0, n5_1, n5_2, n5_3, n5_4]
 · simp [Ds, n6_0, n6_1, n6_2, n6_3, n6_4, n6_5]
 · simp [Ds, n7_0, n7_1, n7_2, n7_3, n7_4, n7_5, n7_6]
 · simp [Ds, n8_0, n8_1, n8_2, n8_3, n8_4, n8_5, n8_6, n8_7]
 · simp [Ds, n9_0, n9_1, n9_2, n9_3, n9_4, n9_5, n9_6, n9_7, n9_8]
 · simp [Ds, n10_0, n10_1, n10_2, n10_3, n10_4, n10_5, n10_6, n10_7, n10_8, n10_9]
 · simp [Ds, n11_0, n11_1, n11_2, n11_3, n11_4, n11_5, n11_6, n11_7, n11_8, n11_9, n11_10]
 · unfold Ds at hk
   have q1 := AF h1
   have q2 := AF h2
   have q3 := AF h3
   have q4 := AF hq
   have q5 := AF h5
   have q6 := AF h6
   have q7 := AF h7
   have q8 := AF h8
   have q9 := AF h9
   have q10 := AF h10
   have q11 := AF h11
   have q12 := AF h12
   by_cases e1 : k = sb
   · omega
   by_cases e2 : k = nb
   · omega
   by_cases e3 : k = db
   · omega
   by_cases e4 : k = qb
   · omega
   by_cases e5 : k = dv
   · omega
   by_cases e6 : k = mb
   · omega
   by_cases e7 : k = g0
   · omega
   by_cases e8 : k = g1
   · omega
   by_cases e9 : k = a0
   · omega
   by_cases e10 : k = a1
   · omega
   by_cases e11 : k = l0
   · omega
   by_cases e12 : k = l1
   · omega
   simp [e1, e2, e3, e4, e5, e6, e7, e8, e9, e10, e11, e12] at hk
theorem Oh (y0 y1 y2 y3 y4 : Ln) (S : Value) (w : World) (hr : AH w 109 8 S 5 ([y0, y1, y2, y3, y4].flatMap Ln.cells)) : Y 68 #[Dv, S] w fun e w' => ∃ T L V, e = Z (.tuple #[.pointer (some ⟨L.sb, 0, none⟩), I 0]) ∧ SysAt T w' L V (OP [Ln.zero, y1, y2, y3, y4]) ∧ (∀ k, k < w.heap.size → T k = 0) ∧ Below w w w' := by
 unfold Dv
 obtain ⟨g, off, AV, cs, rfl, _⟩ := hr.lies (by decide)
 obtain ⟨W1, hE, hb1, hI1⟩ := alloc_new w (.cells KE 23)
 have hwg := Vw (show ∀ w, Y 118 #[.agg KE] w fun e w' => e = Z (.bool true) ∧ Below w.heap.size w w' from fun w => IZ w)
 have c1 := AA hI1
 have HB1 := Vw hb1
 have HI1 := Vw hI1
 have HR := Vw (hr.below hb1)
 have hg0 := Vw (hr.lt g rfl)
 clear hr hb1 hI1
 go_enter func68, ntmps68
 go_wp2_with fail
 refine (hwg.out _).mono ?_
 rintro e w2 ⟨rfl, hb2⟩
 have HB2 := Vw (HB1.out.trans (hb2.mono HB1.out.size))
 have HI2 := Vw (AB hb2 HI1.out)
 have HR2 := Vw (HR.out.below hb2)
 have c2 := AA HI2.out
 clear hb2 c1 hE
 go_wp2_with fail
 refine (Lp _).mono ?_
 rintro e w3 ⟨d, mb, rfl, hd, hd1, hd2, hb3⟩
 have HB3 := Vw (HB2.out.trans (hb3.mono HB2.out.size))
 have HI3 := Vw (AB hb3 HI2.out)
 have HR3 := Vw (HR2.out.below hb3)
 have HD := Vw hd
 have hgm : g ≠ mb := by have := hg0.out; have := HB2.out.size; omega
 have hsd : w.heap.size ≤ d ∧ w.heap.size ≤ mb := ⟨Vx HB2.out.size hd1, Vx HB2.out.size hd2⟩
 have c3 := AA HI3.out
 clear hd hd1 hd2 hb3 c2
 go_wp2_with fail
 refine (KO d mb g off AV 0 0 Ln.zero Ln.zero Ln.zero Ln.zero Ln.zero y0 y1 y2 y3 y4 hgm _ ⟨HD.out.1, HD.out.2.1⟩ HR3.out).mono ?_
 rintro e w4 ⟨rfl, hd4, hp4⟩
 have HD4 := Vw hd4
 have HP4 := Vw hp4
 have hnb : w.heap.size ≠ mb := fun e => AG HI3.out HD.out.2.1 (by decide) e
 have HI4 := Vw ((hp4.block _ (AF HI3.out) hnb).trans HI3.out)
 have c4 := AA HI4.out
 clear hd4 hp4 c3
 go_wp2_with fail
 refine (NO d mb 0 0 y0 y1 y2 y3 y4 _ HD4.out).mono ?_
 rintro e w5 ⟨rfl, hd5, hp5⟩
 have HD5 := Vw hd5
 have HP5 := Vw (HP4.out.trans hp5)
 have HI5 := Vw ((hp5.block _ (AF HI4.out) hnb).trans HI4.out)
 have c5 := AA HI5.out
 clear hd5 hp5 c4
 go_wp2_with fail
 refine (LO d _).mono ?_
 rintro e w6 ⟨rfl, hq6, hb6⟩
 have HQ6 := Vw hq6
 have HB6 := Vw hb6
 have HI6 := Vw (AB hb6 HI5.out)
 have c6 := AA HI6.out
 have hw35 := HP5.out.size
 generalize hqb : w5.heap.size = qb at *
 clear hq6 c5
 obtain ⟨W7, hE7, hb7, hI7⟩ := alloc_new w6 (.cells #[I 2, I 5, I 1, I 1, I 2, I 2, I 2, .slice none 0 0, .slice none 0 0, qb, I 0] 190)
 have HB7 := Vw hb7
 have HX := Vw (Lz w6.heap.size qb W7 hI7)
 clear hb7 hI7 hb6
 go_wp2_with fail
 refine HX.out.mono ?_
 rintro e w8 ⟨rfl, nb, db, g0, a0, l0, g1, a1, l1, hB, n1, n2, n3, s1, s2, s3, s4, s5, s6⟩
 have z6 := hqb ▸ HB6.out.size
 have z3 := HB3.out.size
 have z7 := HB7.out.size
 have ex := AF HQ6.out
 have HP8 := hB.bg.pres
 have q8 := (HP8.block _ (Vy ex z7) (by omega)).trans (AB HB7.out HQ6.out)
 have d6 : Bh w6 d mb 0 0 [Ln.zero, y1, y2, y3, y4] := ⟨(HB6.out.block _ (by have := AF HD5.out.1; omega)).trans HD5.out.1, (HB6.out.block _ (by have := AF HD5.out.2.1; omega)).trans HD5.out.2.1, HD5.out.2.2⟩
 have l61 := AF d6.1
 have l62 := AF d6.2.1
 have d8 : Bh w8 d mb 0 0 [Ln.zero, y1, y2, y3, y4] := ⟨(HP8.block _ (by omega) (by omega)).trans (AB HB7.out d6.1), (HP8.block _ (by omega) (by omega)).trans (AB HB7.out d6.2.1), d6.2.2⟩
 have HS := Vw (Sd hB n1 n2 n3 q8 d8)
 have HF := Vw (WA (show ∀ k, k < w.heap.size → Ds w6.heap.size nb db qb d mb g0 g1 a0 a1 l0 l1 k = 0 from fun k hk => by
  have := hB.bg.base
  have := hB.new
  have : w.heap.size ≤ W7.heap.size := by omega
  unfold Ds
  rw [if_neg (by omega), if_neg (by omega), if_neg (by omega), if_neg (by omega), if_neg (by omega), if_neg (by omega), if_neg (by omega), if_neg (by omega), if_neg (by omega), if_neg (by omega), if_neg (by omega), if_neg (by omega)]) (show Below w w w8 from ⟨HP8.os.trans (HB7.out.os.trans (HB6.out.os.trans (HP5.out.os.trans HB3.out.os))), HP8.tape.trans (HB7.out.tape.trans (HB6.out.tape.trans (HP5.out.tape.trans HB3.out.tape))), HP8.output.trans (HB7.out.output.trans (HB6.out.output.trans (HP5.out.output.trans HB3.out.output))), by have := HP8.size; omega, fun k hk => (HP8.block k (by omega) (by omega)).trans ((HB7.out.block k (by omega)).trans ((HB6.out.block k (by omega)).trans ((HP5.out.block k (by omega) (by omega)).trans (HB3.out.block k hk))))⟩))
 clear hB q8 d8 d6 n1 n2 n3
 go_wp2_with fail
 go_ret2
 exact ⟨_, _, _, rfl, HS.out, HF.out.1, HF.out.2⟩
end Go.Proofs.YtkoplblbeapfgaaGreatDoor
