/-
Parts of the walk of TopEnds. Conditions stand in each statement.
-/
import Derived.Test.YtkoplblbeapfgaaGreatDoorX04
import Derived.Test.YtkoplblbeapfgaaGreatDoorX14
namespace Go.Proofs.YtkoplblbeapfgaaGreatDoor
open Go.RowKit
open Tryz
set_option linter.all false
set_option maxRecDepth 100000
set_option maxHeartbeats 8000000
theorem Mt : ET prog 29 33 3 24 := ET.of underlying29 (z := .agg KF) (by kernel_rfl) rfl
def DB (W0 : World) (xb : Nat) (ab : Bool) (l : List OpI) (W : World) : Prop := ∃ S, W.heap[xb]? = some (.cells #[S, ab] 31) ∧ AH W 33 3 S l.length (BI l) ∧ (∀ k, S.ownBlock = some k → W0.heap.size ≤ k) ∧ Pres (fun k => k ≠ xb) W0 W
theorem DB.grow {W0 W w7 : World} {xb n : Nat} {ab : Bool} {l : List OpI} {S S' : Value} {o : OpI} {X : Obj} {xs : List Value} (hx : xb < W0.heap.size) (hc : W.heap[xb]? = some (.cells #[S, ab] 31)) (hS : ∀ k, S.ownBlock = some k → W0.heap.size ≤ k) (hp : Pres (fun k => k ≠ xb) W0 W) (hr : AH w7 33 3 S' n xs) (hn : n = l.length + 1) (hxs : xs = BI l ++ o.l) (hg : (W.alloc X).grownBy w7 S.ownBlock) (hm : Bf (W.alloc X) S S') : DB W0 xb ab (l ++ [o]) (w7.setCell xb S') := by
 subst hn hxs
 have hba := AC W X
 have hlt := Vy (Vy hx hp.size) hba.size
 have h7 : w7.heap[xb]? = some (.cells #[S, ab] 31) := (hg.block xb hlt (fun e => by have := hS xb e.symm; omega)).trans (AB hba hc)
 refine ⟨S', AI h7 0 S', ?_, ?_, ?_⟩
 · have h := hr.stored h7 (by decide) 0 S'
   rw [List.length_append]
   rw [show BI (l ++ [o]) = BI l ++ o.l by simp [BI]]
   exact h
 · intro k hk
   rcases hm with hm | ⟨g, hm, hle⟩
   · exact hS k (hm ▸ hk)
   · rw [hm] at hk
     cases hk
     have := hp.size; have := hba.size
     omega
 · refine ⟨hg.os.trans (hba.os.trans hp.os), hg.tape.trans (hba.tape.trans hp.tape), hg.output.trans (hba.output.trans hp.output), ?_, fun k hk ha => ?_⟩
   · have h1 := hp.size; have h2 := hba.size; have h3 := hg.size
     simp only [World.setCell, Array.size_modify]
     omega
   · have hk1 := Vy hk hp.size
     exact (Vz _ _ _ _ ha).trans ((hg.block k (Vy hk1 hba.size) (fun e => by have := hS k e.symm; omega)).trans ((hba.block k hk1).trans (hp.block k hk ha)))
theorem DB.flag {W0 W : World} {xb : Nat} {ab : Bool} {l : List OpI} (h : DB W0 xb ab l W) : DB W0 xb true l (W.setCell ⟨xb, 1, none⟩ (.bool true)) := by
 obtain ⟨S, hc, hr, hS, hp⟩ := h
 exact ⟨S, AI hc 1 _, hr.stored hc (by decide) _ _, hS, hp.setCell (by simp) _⟩
def CP (w : World) (tb xb : Nat) (ws : List ByteArray) (l : List OpI) (W : World) : Prop := Tk W tb ws ∧ (∃ S, W.heap[xb]? = some (.cells #[S, false] 31) ∧ AH W 33 3 S l.length (BI l) ∧ ∀ k, S.ownBlock = some k → w.heap.size ≤ k) ∧ W.heap[w.heap.size]? = some (.cells #[.slice none 0 0, false] 31) ∧ Below w w W ∧ w.heap.size < tb ∧ w.heap.size < xb ∧ tb ≠ xb
theorem CP.took {w W w5 : World} {tb xb : Nat} {ws ws' : List ByteArray} {l : List OpI} (h : CP w tb xb ws l W) (hk : Tk w5 tb ws') (hp : Pres (fun k => k ≠ tb) W w5) : CP w tb xb ws' l w5 := by
 obtain ⟨h1, ⟨S, h2, h3, h4⟩, h5, h6, h7, h8, h9⟩ := h
 refine ⟨hk, ⟨S, (hp.block _ (AF h2) (fun e => h9 e.symm)).trans h2, h3.kept fun k hj => hp.block k (h3.lt k hj) (fun e => ?_), h4⟩, (hp.block _ (AF h5) (by omega)).trans h5, ⟨hp.os.trans h6.os, hp.tape.trans h6.tape, hp.output.trans h6.output, Vx h6.size hp.size, fun k hk => (hp.block k (Vy hk h6.size) (by omega)).trans (h6.block k hk)⟩, h7, h8, h9⟩
 subst e
 obtain ⟨cs, hc⟩ := h3.type _ hj
 obtain ⟨S', h1', _⟩ := h1
 rw [h1'] at hc
 cases hc
theorem CP.drew {w W : World} {tb xb : Nat} {ws : List ByteArray} {l : List OpI} (h : CP w tb xb ws l W) : CP w tb xb ws l W.drew := ⟨h.1, h.2.1, h.2.2.1, h.2.2.2.1.drew, h.2.2.2.2⟩
theorem CP.row {w W : World} {tb xb : Nat} {ws : List ByteArray} {l : List OpI} {S : Value} {b : Bool} (h : CP w tb xb ws l W) (hc : W.heap[xb]? = some (.cells #[S, b] 31)) : AH W 33 3 S l.length (BI l) := by
 obtain ⟨_, ⟨S0, h2, h3, _⟩, _⟩ := h
 rw [hc] at h2
 cases h2
 exact h3
theorem CP.grow {w W w7 : World} {tb xb n : Nat} {ws : List ByteArray} {l : List OpI} {S S' : Value} {o : OpI} {X : Obj} {xs : List Value} (h : CP w tb xb ws l W) (hc : W.heap[xb]? = some (.cells #[S, false] 31)) (hr : AH w7 33 3 S' n xs) (hn : n = l.length + 1) (hxs : xs = BI l ++ o.l) (hg : (W.alloc X).grownBy w7 S.ownBlock) (hm : Bf (W.alloc X) S S') : CP w tb xb ws (l ++ [o]) (w7.setCell xb S') := by
 obtain ⟨h1, ⟨S0, h2, h3, h4⟩, h5, h6, h7, h8, h9⟩ := h
 rw [hc] at h2
 cases h2
 have hba := AC W X
 have hkeep : ∀ {k : Nat} {cs : Array Value} {T : TypeId}, W.heap[k]? = some (.cells cs T (0, 0)) → T ≠ 33 → w7.heap[k]? = some (.cells cs T (0, 0)) := fun {k cs T} hk hT => AW (h3.below hba) hg (AB hba hk) hT
 have h7x := hkeep hc (by decide)
 obtain ⟨S1, t1, t2⟩ := h1
 refine ⟨⟨S1, (Vz _ _ _ _ h9).trans (hkeep t1 (by decide)), AH.stored (t2.below hba |>.kept fun k hk => hg.block k ((t2.below hba).lt k hk) (fun e => ?_)) h7x (by decide) _ _⟩, ⟨S', AI h7x 0 S', ?_, ?_⟩, (Vz _ _ _ _ (by simp; omega)).trans (hkeep h5 (by decide)), ?_, h7, h8, h9⟩
 · obtain ⟨cs, e1⟩ := (h3.below hba).type k e.symm
   obtain ⟨cs2, e2⟩ := (t2.below hba).type k hk
   rw [e1] at e2
   cases e2
 · subst hn hxs
   have h := hr.stored h7x (by decide) 0 S'
   rw [List.length_append, show BI (l ++ [o]) = BI l ++ o.l by simp [BI]]
   exact h
 · intro k hk
   rcases hm with hm | ⟨g, hm, hle⟩
   · exact h4 k (hm ▸ hk)
   · rw [hm] at hk
     cases hk
     have := h6.size; have := hba.size
     omega
 · have hb7 : Below w w w7 := (h6.trans (hba.mono h6.size)).grown hg (Vx h6.size hba.size) h4
   have hp := (Pres.of_below hb7 : Pres (fun _ => True) w w7).setNew (p := xb) (by simp; omega) S'
   exact ⟨hp.os, hp.tape, hp.output, hp.size, fun k hk => hp.block k hk trivial⟩
theorem txX :
  (∀ (w : World), Y 44 #[.string ⟨#[97, 100, 100, 32, 51, 32, 53, 32, 114, 101, 97, 100, 32, 51, 32, 99, 111, 109, 109, 105, 116]⟩] w fun e w' => ∃ S, e = Z (.tuple #[.agg #[S, false], I 0]) ∧ AH w' 33 3 S 2 (BI [⟨3, 3, 5, false⟩, ⟨1, 3, 0, false⟩]) ∧ (∀ k, S.ownBlock = some k → w.heap.size ≤ k) ∧ Below w w w') ∧
  (∀ (w : World), Y 44 #[.string ⟨#[119, 114, 105, 116, 101, 32, 50, 32, 57, 32, 116, 97, 107, 101, 32, 51, 32, 49, 32, 99, 111, 109, 109, 105, 116]⟩] w fun e w' => ∃ S, e = Z (.tuple #[.agg #[S, false], I 0]) ∧ AH w' 33 3 S 2 (BI [⟨2, 2, 9, false⟩, ⟨4, 3, 1, false⟩]) ∧ (∀ k, S.ownBlock = some k → w.heap.size ≤ k) ∧ Below w w w') := by
 refine ⟨?m0, ?m1⟩
 case' m0 =>
  intro w
  have mk_0 := trivial
 case' m1 =>
  intro w
  have mk_1 := trivial
 all_goals
  first
   | guard_hyp mk_1
     have hwl : Hk ⟨#[119, 114, 105, 116, 101, 32, 50, 32, 57, 32, 116, 97, 107, 101, 32, 51, 32, 49, 32, 99, 111, 109, 109, 105, 116]⟩ = [⟨#[119, 114, 105, 116, 101]⟩, ⟨#[50]⟩, ⟨#[57]⟩, ⟨#[116, 97, 107, 101]⟩, ⟨#[51]⟩, ⟨#[49]⟩, ⟨#[99, 111, 109, 109, 105, 116]⟩] := by kernel_rfl
     have hasc : ∀ i (h : i < ByteArray.size ⟨#[119, 114, 105, 116, 101, 32, 50, 32, 57, 32, 116, 97, 107, 101, 32, 51, 32, 49, 32, 99, 111, 109, 109, 105, 116]⟩), ((⟨#[119, 114, 105, 116, 101, 32, 50, 32, 57, 32, 116, 97, 107, 101, 32, 51, 32, 49, 32, 99, 111, 109, 109, 105, 116]⟩ : ByteArray)[i]'h).toNat < 128 := by decide
     have hcw := fun w => II ⟨#[119, 114, 105, 116, 101, 32, 50, 32, 57, 32, 116, 97, 107, 101, 32, 51, 32, 49, 32, 99, 111, 109, 109, 105, 116]⟩ hasc (by decide) w
   | have hwl : Hk ⟨#[97, 100, 100, 32, 51, 32, 53, 32, 114, 101, 97, 100, 32, 51, 32, 99, 111, 109, 109, 105, 116]⟩ = [⟨#[97, 100, 100]⟩, ⟨#[51]⟩, ⟨#[53]⟩, ⟨#[114, 101, 97, 100]⟩, ⟨#[51]⟩, ⟨#[99, 111, 109, 109, 105, 116]⟩] := by kernel_rfl
     have hasc : ∀ i (h : i < ByteArray.size ⟨#[97, 100, 100, 32, 51, 32, 53, 32, 114, 101, 97, 100, 32, 51, 32, 99, 111, 109, 109, 105, 116]⟩), ((⟨#[97, 100, 100, 32, 51, 32, 53, 32, 114, 101, 97, 100, 32, 51, 32, 99, 111, 109, 109, 105, 116]⟩ : ByteArray)[i]'h).toNat < 128 := by decide
     have hcw := fun w => II ⟨#[97, 100, 100, 32, 51, 32, 53, 32, 114, 101, 97, 100, 32, 51, 32, 99, 111, 109, 109, 105, 116]⟩ hasc (by decide) w
  rw [hwl] at hcw
  clear hasc hwl
  have HCW := Vw hcw
  clear hcw
  go_enter func44, ntmps44
  go_wp2_with fail
  refine (HCW.out _).mono ?_
  rintro e w2 ⟨S2, rfl, hr2, ho2, hb2⟩
  have hb := (show Below w w w2 from (AC w _).trans (hb2.mono (by simp)))
  have hrb := AB hb2 (AE w (.cells #[.slice none 0 0, false] 31))
  have hz : w.heap.size < w2.heap.size := by have := hb2.size; simp at this; omega
  obtain ⟨A2, cap2, rfl⟩ := hr2.form
  first
   | guard_hyp mk_1
     obtain ⟨W4, hE4⟩ : ∃ W, (w2.alloc (.cells #[.slice A2 7 cap2, true] 197)).alloc (.cells #[.slice none 0 0, false] 31) = W := ⟨_, rfl⟩
   | obtain ⟨W4, hE4⟩ : ∃ W, (w2.alloc (.cells #[.slice A2 6 cap2, true] 197)).alloc (.cells #[.slice none 0 0, false] 31) = W := ⟨_, rfl⟩
  have hb4 : Below w2 w2 W4 := hE4 ▸ JF (AC w2 _) (by simp) _
  first
   | guard_hyp mk_1
     have H := Vw (show CP w w2.heap.size (w2.heap.size + 1) [⟨#[119, 114, 105, 116, 101]⟩, ⟨#[50]⟩, ⟨#[57]⟩, ⟨#[116, 97, 107, 101]⟩, ⟨#[51]⟩, ⟨#[49]⟩, ⟨#[99, 111, 109, 109, 105, 116]⟩] [] W4 from ⟨⟨_, hE4 ▸ AB (AC _ _) (AE w2 _), hr2.below hb4⟩, ⟨.slice none 0 0, by
      have h := AE (w2.alloc (.cells #[.slice A2 7 cap2, true] 197)) (.cells #[.slice none 0 0, false] 31)
      rw [hE4] at h
      simpa using h, AH.nil _ _ _, by simp [Value.ownBlock]⟩, AB hb4 hrb, hb.trans (hb4.mono hb.size), hz, by omega, by omega⟩)
   | have H := Vw (show CP w w2.heap.size (w2.heap.size + 1) [⟨#[97, 100, 100]⟩, ⟨#[51]⟩, ⟨#[53]⟩, ⟨#[114, 101, 97, 100]⟩, ⟨#[51]⟩, ⟨#[99, 111, 109, 109, 105, 116]⟩] [] W4 from ⟨⟨_, hE4 ▸ AB (AC _ _) (AE w2 _), hr2.below hb4⟩, ⟨.slice none 0 0, by
      have h := AE (w2.alloc (.cells #[.slice A2 6 cap2, true] 197)) (.cells #[.slice none 0 0, false] 31)
      rw [hE4] at h
      simpa using h, AH.nil _ _ _, by simp [Value.ownBlock]⟩, AB hb4 hrb, hb.trans (hb4.mono hb.size), hz, by omega, by omega⟩)
  have HE4 := Vw hE4
  have HZ := Vw hz
  clear hr2 hb2 ho2 HCW hb hrb hb4 hE4 hz
  go_wp2_with fail
  rw [HE4.out]
  clear HE4
  obtain ⟨tb, htb⟩ := ex_ w2.heap.size
  obtain ⟨xb, hxb⟩ := ex_ (tb + 1)
  rw [htb, hxb] at H
  rw [htb, hxb]
  clear HZ htb hxb
  generalize W4 = wc0 at *
  refine wp_loop_rounds 4 ?_
  rw [rounds_succ]
  obtain ⟨⟨S, hc, hr⟩, ⟨S1, hc1, hr1, ho1⟩, hrb, hb, hz⟩ := H.out
  have c1 := AA hc
  first
   | guard_hyp mk_1
     have hw0 := Vw (Bz tb ⟨#[119, 114, 105, 116, 101]⟩ [⟨#[50]⟩, ⟨#[57]⟩, ⟨#[116, 97, 107, 101]⟩, ⟨#[51]⟩, ⟨#[49]⟩, ⟨#[99, 111, 109, 109, 105, 116]⟩] (by decide) _ H.out.1)
   | have hw0 := Vw (Bz tb ⟨#[97, 100, 100]⟩ [⟨#[51]⟩, ⟨#[53]⟩, ⟨#[114, 101, 97, 100]⟩, ⟨#[51]⟩, ⟨#[99, 111, 109, 109, 105, 116]⟩] (by decide) _ H.out.1)
  clear hc hr hc1 hr1 ho1 hrb hb hz
  go_wp2_with fail
  refine hw0.out.mono ?_
  rintro e w5 ⟨rfl, h5, p5⟩
  have h6 := H.out.took h5 p5
  clear h5 p5 c1 H hw0
  have h6' := h6
  have HN := Vw (show xb ≠ tb from fun e => h6.2.2.2.2.2.2 e.symm)
  obtain ⟨h1, ⟨S1, hc1, hr1, ho1⟩, hrb, hb, hz⟩ := h6
  obtain ⟨A1, cap1, rfl⟩ := hr1.form
  have HC := Vw hc1
  have HR := Vw hr1
  have c2 := AA hc1
  first
   | guard_hyp mk_1
     have hop := Vw (opX.2.2.1 tb [⟨#[116, 97, 107, 101]⟩, ⟨#[51]⟩, ⟨#[49]⟩, ⟨#[99, 111, 109, 109, 105, 116]⟩] (by decide) w5.drew h1)
   | have hop := Vw (opX.1 tb [⟨#[114, 101, 97, 100]⟩, ⟨#[51]⟩, ⟨#[99, 111, 109, 109, 105, 116]⟩] (by decide) w5.drew h1)
  clear h1 hc1 hr1 ho1 hrb hb hz
  have HH := Vw h6'.drew
  go_wp2_with fail
  first
   | guard_hyp mk_1
     go_region_law
      (first
       | ((try go_simp); go_at_call 81; refine hop.out.mono ?_; rintro e w7 ⟨rfl, h7, p7⟩; have h8 := HH.out.took h7 p7; have hI8 := (p7.block xb (AF HC.out) HN.out).trans HC.out; have c8 := AA hI8; have c9 := fun k => ((AC w7 (.cells #[I 2, I 2, U 9] 33)).cell (p := ⟨xb, k, none⟩) (AF hI8)).trans (c8 k))
       | (refine Bb (by rfl) (.tmp 20) (.tmp 24) 29 29 (by rfl) Mt (.slice A1 0 cap1) 0 (BI []) (by rfl) ((h8.row hI8).below (AC w7 _)) _ 1 _ (by rfl) (Src.one underlying29 (AE w7 _) rfl (by simp [Value.oneCell'])) (by decide) (by decide) ?_; intro A9 cap9 w9 hr9 hg9 hm9; have hI9 := AW ((h8.row hI8).below (AC w7 _)) hg9 (AB (AC w7 _) hI8) (by decide); have d9 := AD hI9 0 rfl; have e9 := Aq hI9 0))
   | go_region_law
      (first
       | ((try go_simp); go_at_call 81; refine hop.out.mono ?_; rintro e w7 ⟨rfl, h7, p7⟩; have h8 := HH.out.took h7 p7; have hI8 := (p7.block xb (AF HC.out) HN.out).trans HC.out; have c8 := AA hI8; have c9 := fun k => ((AC w7 (.cells #[I 3, I 3, U 5] 33)).cell (p := ⟨xb, k, none⟩) (AF hI8)).trans (c8 k))
       | (refine Bb (by rfl) (.tmp 20) (.tmp 24) 29 29 (by rfl) Mt (.slice A1 0 cap1) 0 (BI []) (by rfl) ((h8.row hI8).below (AC w7 _)) _ 1 _ (by rfl) (Src.one underlying29 (AE w7 _) rfl (by simp [Value.oneCell'])) (by decide) (by decide) ?_; intro A9 cap9 w9 hr9 hg9 hm9; have hI9 := AW ((h8.row hI8).below (AC w7 _)) hg9 (AB (AC w7 _) hI8) (by decide); have d9 := AD hI9 0 rfl; have e9 := Aq hI9 0))
  all_goals
   first
    | guard_hyp mk_1
      have H := Vw (show CP w tb xb [⟨#[116, 97, 107, 101]⟩, ⟨#[51]⟩, ⟨#[49]⟩, ⟨#[99, 111, 109, 109, 105, 116]⟩] [⟨2, 2, 9, false⟩] (w9.setCell xb (.slice A9 1 cap9)) from h8.grow hI8 hr9 rfl (by simp [BI, OpI.l]) hg9 hm9)
    | have H := Vw (show CP w tb xb [⟨#[114, 101, 97, 100]⟩, ⟨#[51]⟩, ⟨#[99, 111, 109, 109, 105, 116]⟩] [⟨3, 3, 5, false⟩] (w9.setCell xb (.slice A9 1 cap9)) from h8.grow hI8 hr9 rfl (by simp [BI, OpI.l]) hg9 hm9)
   have HQ := Vw (WA h7 (WA p7 (WA hr9 (WA hg9 hm9))))
   clear h7 p7 h8 hI8 c8 c9 hr9 hg9 hm9 hI9 d9 e9 HH HN HC HR hop h6' c2 HQ
   generalize w9.setCell xb (.slice A9 1 cap9) = wc1 at *
   go_wp2_with fail
   rw [rounds_succ]
   obtain ⟨⟨S, hc, hr⟩, ⟨S1, hc1, hr1, ho1⟩, hrb, hb, hz⟩ := H.out
   have c1 := AA hc
   first
    | guard_hyp mk_1
      have hw1 := Vw (Bz tb ⟨#[116, 97, 107, 101]⟩ [⟨#[51]⟩, ⟨#[49]⟩, ⟨#[99, 111, 109, 109, 105, 116]⟩] (by decide) _ H.out.1)
    | have hw1 := Vw (Bz tb ⟨#[114, 101, 97, 100]⟩ [⟨#[51]⟩, ⟨#[99, 111, 109, 109, 105, 116]⟩] (by decide) _ H.out.1)
   clear hc hr hc1 hr1 ho1 hrb hb hz
   go_wp2_with fail
   refine hw1.out.mono ?_
   rintro e w5 ⟨rfl, h5, p5⟩
   have h6 := H.out.took h5 p5
   clear h5 p5 c1 H hw1
   have h6' := h6
   have HN := Vw (show xb ≠ tb from fun e => h6.2.2.2.2.2.2 e.symm)
   obtain ⟨h1, ⟨S1, hc1, hr1, ho1⟩, hrb, hb, hz⟩ := h6
   obtain ⟨A1, cap1, rfl⟩ := hr1.form
   have HC := Vw hc1
   have HR := Vw hr1
   have c2 := AA hc1
   first
    | guard_hyp mk_1
      have hop := Vw (opX.2.2.2 tb [⟨#[99, 111, 109, 109, 105, 116]⟩] (by decide) w5.drew h1)
    | have hop := Vw (opX.2.1 tb [⟨#[99, 111, 109, 109, 105, 116]⟩] (by decide) w5.drew h1)
   clear h1 hc1 hr1 ho1 hrb hb hz
   have HH := Vw h6'.drew
   go_wp2_with fail
   first
    | guard_hyp mk_1
      go_region_law
       (first
        | ((try go_simp); go_at_call 81; refine hop.out.mono ?_; rintro e w7 ⟨rfl, h7, p7⟩; have h8 := HH.out.took h7 p7; have hI8 := (p7.block xb (AF HC.out) HN.out).trans HC.out; have c8 := AA hI8; have c9 := fun k => ((AC w7 (.cells #[I 4, I 3, U 1] 33)).cell (p := ⟨xb, k, none⟩) (AF hI8)).trans (c8 k))
        | (refine Bb (by rfl) (.tmp 20) (.tmp 24) 29 29 (by rfl) Mt (.slice A1 1 cap1) 1 (BI [⟨2, 2, 9, false⟩]) (by rfl) ((h8.row hI8).below (AC w7 _)) _ 1 _ (by rfl) (Src.one underlying29 (AE w7 _) rfl (by simp [Value.oneCell'])) (by decide) (by decide) ?_; intro A9 cap9 w9 hr9 hg9 hm9; have hI9 := AW ((h8.row hI8).below (AC w7 _)) hg9 (AB (AC w7 _) hI8) (by decide); have d9 := AD hI9 0 rfl; have e9 := Aq hI9 0))
    | go_region_law
       (first
        | ((try go_simp); go_at_call 81; refine hop.out.mono ?_; rintro e w7 ⟨rfl, h7, p7⟩; have h8 := HH.out.took h7 p7; have hI8 := (p7.block xb (AF HC.out) HN.out).trans HC.out; have c8 := AA hI8; have c9 := fun k => ((AC w7 (.cells #[I 1, I 3, U 0] 33)).cell (p := ⟨xb, k, none⟩) (AF hI8)).trans (c8 k))
        | (refine Bb (by rfl) (.tmp 20) (.tmp 24) 29 29 (by rfl) Mt (.slice A1 1 cap1) 1 (BI [⟨3, 3, 5, false⟩]) (by rfl) ((h8.row hI8).below (AC w7 _)) _ 1 _ (by rfl) (Src.one underlying29 (AE w7 _) rfl (by simp [Value.oneCell'])) (by decide) (by decide) ?_; intro A9 cap9 w9 hr9 hg9 hm9; have hI9 := AW ((h8.row hI8).below (AC w7 _)) hg9 (AB (AC w7 _) hI8) (by decide); have d9 := AD hI9 0 rfl; have e9 := Aq hI9 0))
   all_goals
    first
     | guard_hyp mk_1
       have H := Vw (show CP w tb xb [⟨#[99, 111, 109, 109, 105, 116]⟩] [⟨2, 2, 9, false⟩, ⟨4, 3, 1, false⟩] (w9.setCell xb (.slice A9 2 cap9)) from h8.grow hI8 hr9 rfl (by simp [BI, OpI.l]) hg9 hm9)
     | have H := Vw (show CP w tb xb [⟨#[99, 111, 109, 109, 105, 116]⟩] [⟨3, 3, 5, false⟩, ⟨1, 3, 0, false⟩] (w9.setCell xb (.slice A9 2 cap9)) from h8.grow hI8 hr9 rfl (by simp [BI, OpI.l]) hg9 hm9)
    have HQ := Vw (WA h7 (WA p7 (WA hr9 (WA hg9 hm9))))
    clear h7 p7 h8 hI8 c8 c9 hr9 hg9 hm9 hI9 d9 e9 HH HN HC HR hop h6' c2 HQ
    generalize w9.setCell xb (.slice A9 2 cap9) = wc2 at *
    go_wp2_with fail
    rw [rounds_succ]
    obtain ⟨⟨S, hc, hr⟩, ⟨S1, hc1, hr1, ho1⟩, hrb, hb, hz⟩ := H.out
    have c1 := AA hc
    have hw2 := Vw (Bz tb ⟨#[99, 111, 109, 109, 105, 116]⟩ [] (by decide) _ H.out.1)
    clear hc hr hc1 hr1 ho1 hrb hb hz
    go_wp2_with fail
    refine hw2.out.mono ?_
    rintro e w5 ⟨rfl, h5, p5⟩
    have h6 := H.out.took h5 p5
    clear h5 p5 c1 H hw2
    obtain ⟨⟨S0, t1, t2⟩, ⟨S1, x1, x2, x3⟩, r1, hb, hz1, hz2, hz3⟩ := h6
    obtain ⟨A0, cap0, rfl⟩ := t2.form
    obtain ⟨A1, cap1, rfl⟩ := x2.form
    have c0 := AA t1
    have c1 := AA x1
    have f1 := AJ x1
    obtain ⟨W6, hE6⟩ := ex_ (w5.setCell ⟨xb, 1, none⟩ (.bool false))
    have x6 : W6.heap[xb]? = some (.cells #[.slice A1 2 cap1, false] 31) := hE6 ▸ AI x1 1 _
    have t6 : W6.heap[tb]? = some (.cells #[.slice A0 0 cap0, true] 197) := hE6 ▸ (Vz _ _ _ _ hz3).trans t1
    have r6 : W6.heap[w.heap.size]? = some (.cells #[.slice none 0 0, false] 31) := hE6 ▸ (Vz _ _ _ _ (by simp; omega)).trans r1
    first
     | guard_hyp mk_1
       have y6 : AH W6 33 3 (.slice A1 2 cap1) 2 (BI [⟨2, 2, 9, false⟩, ⟨4, 3, 1, false⟩]) := hE6 ▸ x2.stored x1 (by decide) 1 (.bool false)
     | have y6 : AH W6 33 3 (.slice A1 2 cap1) 2 (BI [⟨3, 3, 5, false⟩, ⟨1, 3, 0, false⟩]) := hE6 ▸ x2.stored x1 (by decide) 1 (.bool false)
    have hb6 : Below w w W6 := by
     have hp := (Pres.of_below hb : Pres (fun _ => True) w w5).setNew (p := ⟨xb, 1, none⟩) (by simp; omega) (.bool false)
     rw [hE6] at hp
     exact ⟨hp.os, hp.tape, hp.output, hp.size, fun k hk => hp.block k hk trivial⟩
    first
     | guard_hyp mk_1
       have hgd := BN [⟨2, 2, 9, false⟩, ⟨4, 3, 1, false⟩] false (by decide) (.slice A1 2 cap1) W6 y6
       rw [show DE [⟨2, 2, 9, false⟩, ⟨4, 3, 1, false⟩] = true by kernel_rfl] at hgd
     | have hgd := BN [⟨3, 3, 5, false⟩, ⟨1, 3, 0, false⟩] false (by decide) (.slice A1 2 cap1) W6 y6
       rw [show DE [⟨3, 3, 5, false⟩, ⟨1, 3, 0, false⟩] = true by kernel_rfl] at hgd
    have HGD := Vw hgd
    have c6 := AA t6
    have d6 := AA x6
    have H6 := Vw (WA x6 (WA r6 (WA y6 (WA hb6 x3))))
    have HZ := Vw hz2
    clear t1 t2 x1 x2 x3 r1 hb hz1 hz2 hz3 x6 t6 r6 y6 hb6 hgd
    go_wp2_with fail
    refine HGD.out.mono ?_
    rintro e w8 ⟨rfl, hb8⟩
    have x8 := AB hb8 H6.out.1
    have r8 := AB hb8 H6.out.2.1
    have y8 := H6.out.2.2.1.below hb8
    have HB8 := Vw (H6.out.2.2.2.1.trans (hb8.mono H6.out.2.2.2.1.size))
    have e8 := AA x8
    have g8 := AA r8
    have k8 := AJ r8
    have H8 := Vw (WA r8 y8)
    clear x8 r8 y8 hb8 c0 c1 f1 c6 d6 hE6
    go_wp2_with fail
    generalize hW9 : World.setCell _ ⟨w, 1, none⟩ _ = W9
    have hf : W9.heap[w.heap.size]? = some (.cells #[.slice A1 2 cap1, false] 31) := hW9 ▸ AI (AI H8.out.1 0 _) 1 _
    first
     | guard_hyp mk_1
       have hrow : AH W9 33 3 (.slice A1 2 cap1) 2 (BI [⟨2, 2, 9, false⟩, ⟨4, 3, 1, false⟩]) := hW9 ▸ (H8.out.2.stored H8.out.1 (by decide) 0 _).stored (AI H8.out.1 0 _) (by decide) 1 _
     | have hrow : AH W9 33 3 (.slice A1 2 cap1) 2 (BI [⟨3, 3, 5, false⟩, ⟨1, 3, 0, false⟩]) := hW9 ▸ (H8.out.2.stored H8.out.1 (by decide) 0 _).stored (AI H8.out.1 0 _) (by decide) 1 _
    have hbe : Below w w W9 := by
     have hp := ((Pres.of_below HB8.out : Pres (fun _ => True) w w8).setNew (p := w) (by simp) (.slice A1 2 cap1)).setNew (p := ⟨w, 1, none⟩) (by simp) (.bool false)
     rw [← hW9]
     exact ⟨hp.os, hp.tape, hp.output, hp.size, fun k hk => hp.block k hk trivial⟩
    have c9 := AA hf
    refine bodyPost_ret (v := .tuple #[.agg #[.slice A1 2 cap1, false], I 0]) (by simp [results, results44, go_sem, c9]) rfl ⟨_, rfl, hrow, H6.out.2.2.2.2, hbe⟩
end Go.Proofs.YtkoplblbeapfgaaGreatDoor
