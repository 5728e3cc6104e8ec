/-
Parts of the walk of TopEnds. Conditions stand in each statement.
-/
import Derived.Test.YtkoplblbeapfgaaGreatDoorX17
import Derived.Test.YtkoplblbeapfgaaGreatDoorX18
namespace Go.Proofs.YtkoplblbeapfgaaGreatDoor
open Go.RowKit
open Tryz
set_option linter.all false
set_option maxRecDepth 100000
set_option maxHeartbeats 8000000
theorem MU (C : CL) (id : Int) (c : Core) (w : World) (h : CoreAt w C id c) : Y 38 #[C.cb] w fun e w' => e = Z (I c.waits) ∧ w = w' := by
 have hh := h.head
 unfold BY at hh
 have c2 := AA hh
 clear h hh
 go_enter func38, ntmps38
 go_wp2_with fail
 go_ret
 exact ⟨rfl, rfl⟩
theorem Ni (C : CL) (id : Int) (c : Core) (w : World) (h : CoreAt w C id c) : Y 24 #[C.cb] w fun e w' => e = Z (.bool c.runs) ∧ w = w' := by
 have hh := h.head
 unfold BY at hh
 have c2 := AA hh
 clear h hh
 go_enter func24, ntmps24
 go_wp2_with fail
 go_ret
 exact ⟨rfl, rfl⟩
theorem LC (C : CL) (id : Int) (c : Core) (w : World) (h : CoreAt w C id c) : Y 37 #[C.cb] w fun e w' => ∃ A AV, e = Z (.slice A c.buf.length AV) ∧ Below w w w' := by
 have hh := h.head
 unfold BY at hh
 have c2 := AA hh
 have ha := Vw (Sb.all_some _ _ _ w h.buf)
 clear h hh
 go_enter func37, ntmps37
 go_wp2_with fail
 refine ha.out.mono ?_
 rintro e w1 ⟨v, rfl, hv, hb⟩
 rw [List.length_map] at hv
 obtain ⟨A, AV, rfl⟩ : ∃ A AV, v = .slice A c.buf.length AV := by
  rcases hv.2 with ⟨rfl, h0⟩ | ⟨g, o, cs, rfl, _⟩
  · exact ⟨none, 0, by rw [h0]⟩
  · exact ⟨_, o, rfl⟩
 have HV := Vw hb
 clear hv hb
 go_wp2_with fail
 go_ret
 exact ⟨A, AV, rfl, HV.out⟩
theorem SD (C : CL) (id : Int) (c : Core) (m : Msg) (hm : (m.kind != 14 || c.waits == 0) = true) (w : World) (h : CoreAt w C id c) : Y 228 #[C.cb, .agg m] w fun e w' => e = Z (.slice none 0 0) ∧ Below w w w' := by
 have hh := h.head
 unfold BY at hh
 have c2 := AA hh
 have hb := AC w (.cells m 253)
 have hltc := AF h.head
 clear h hh
 cases hk : (m.kind != 14)
 · rw [hk, Bool.false_or] at hm
   have hk' : m.kind = 14 := by simpa using hk
   have hw : c.waits = 0 := by simpa using hm
   rw [hk'] at *
   go_enter func228, ntmps228
   go_wp2_with fail
   go_ret
   exact ⟨rfl, AC w _⟩
 · have hk' : ¬ m.kind = 14 := by simpa using hk
   go_enter func228, ntmps228
   go_wp2_with fail
   go_ret
   exact ⟨rfl, AC w _⟩
theorem Qs (C : CL) (id : Int) (c : Core) (m : Msg) (hk : m.kind = 14) (hw : 1 ≤ c.waits) (hw2 : c.waits ≤ 100) (w : World) (h : CoreAt w C id c) : Y 228 #[C.cb, .agg m] w fun e w' => ∃ S, e = Z S ∧ AH w' 92 5 S 1 (AY [⟨6, id, m.line, 0, 0⟩]) ∧ (∀ k, S.ownBlock = some k → w.heap.size ≤ k) ∧ CoreAt w' C id { c with waits := c.waits - 1 } ∧ Pres (fun k => k ≠ C.cb) w w' := by
 obtain ⟨W1, hE, hb1, hI1⟩ := alloc_new w (.cells m 253)
 have h1 : CoreAt W1 C id c := h.kept (hb1.block _ (AF h.head)) (hb1.block _ h.prog.lt) (hb1.block _ h.buf.lt)
 have hh := h1.head
 unfold BY at hh
 have c2 := AA hh
 have f2 := AJ hh
 have c1 := AA hI1
 have hw0 : ¬ c.waits = 0 := by omega
 have hltc : C.cb < w.heap.size := AF h.head
 have hncc := Nat.ne_of_lt hltc
 have hncc' := Nat.ne_of_gt hltc
 have h2 := h1.set 12 (I (c.waits - 1)) (Qr _ _ _ _) h1.len rfl rfl
 have H2 := Vw h2
 have HI2 := Vw ((Vz W1 ⟨C.cb, 12, none⟩ (I (c.waits - 1)) w.heap.size hncc').trans hI1)
 have HP := Vw ((Pres.of_below (Av := fun k => k ≠ C.cb) hb1).setCell (p := ⟨C.cb, 12, none⟩) (by simp) (I (c.waits - 1)))
 clear h h1 hh hI1 hb1 h2
 rw [hk] at *
 go_enter func228, ntmps228
 go_wp2_with fail
 generalize W1.setCell ⟨C.cb, 12, none⟩ (I (c.waits - 1)) = W2 at *
 have y0 : W2.cell? C.cb = I id := AD H2.out.head 0 rfl
 have y1 : W2.cell? ⟨w, 1, none⟩ = I m.line := AD HI2.out 1 rfl
 clear c1 c2 f2 hE
 go_region
 all_goals
  go_wp2_with fail
  go_ret
  have hA := (AC W2 (.cells #[I 6, I id, I m.line, I 0, U 0] 92)).drew
  have hI9 : ((W2.alloc (.cells #[I 6, I id, I m.line, I 0, U 0] 92)).drew).heap[W2.heap.size]? = _ := AE W2 _
  refine ⟨_, rfl, AH.made (size := 5) (m := 1) hI9 rfl, fun k hk => ?_, H2.out.kept (hA.block _ (AF H2.out.head)) (hA.block _ H2.out.prog.lt) (hA.block _ H2.out.buf.lt), HP.out.trans (Pres.of_below hA)⟩
  cases hk
  exact HP.out.size
structure MkAt (T : Nat → Nat) (w : World) (L : SL) (V : SV) (C : CC) (mb : Nat) (CS R : Value) (m : Mach) : Prop where
 mc : McAt T w L V C m
 head : w.heap[mb]? = some (.cells #[L.sb, CS, R, I 0] 99)
 cores : AH w 70 1 CS 2 [.pointer (some C.c0.cb), .pointer (some C.c1.cb)]
 tm : T mb = 0
 tc : Fq T CS 0
def Mk (T0 : Nat → Nat) (w0 : World) (L : SL) (C : CC) (mb : Nat) (CS R : Value) (m : Mach) (w : World) : Prop :=
 ∃ T V, MkAt T w L V C mb CS R m ∧ (∀ k, k < w0.heap.size → T k = T0 k) ∧ Ad DU T0 w0 w
section
variable {T0 : Nat → Nat} {w0 w w' : World} {L : SL} {C : CC} {mb : Nat} {CS R : Value} {m m' : Mach}
theorem Mk.below (h : Mk T0 w0 L C mb CS R m w) (hb : Below w w w') : Mk T0 w0 L C mb CS R m w' := by
 obtain ⟨T, V, a, b, c⟩ := h
 exact ⟨T, V, ⟨a.mc.below hb, AB hb a.head, a.cores.below hb, a.tm, a.tc⟩, b, c.trans (Pres.of_below hb)⟩
theorem Mk.drew (h : Mk T0 w0 L C mb CS R m w) : Mk T0 w0 L C mb CS R m w.drew := h.below (Below.refl _ _).drew
theorem Mk.head (h : Mk T0 w0 L C mb CS R m w) : w.heap[mb]? = some (.cells #[L.sb, CS, R, I 0] 99) := by
 obtain ⟨T, V, a, b, c⟩ := h
 exact a.head
theorem Mk.cores (h : Mk T0 w0 L C mb CS R m w) : AH w 70 1 CS 2 [.pointer (some C.c0.cb), .pointer (some C.c1.cb)] := by
 obtain ⟨T, V, a, b, c⟩ := h
 exact a.cores
theorem Mk.mc (h : Mk T0 w0 L C mb CS R m w) : ∃ T, Mc T w L C m w ∧ (∀ k, w.heap.size ≤ k → T k = 0) ∧ ∀ m' w', Mc T w L C m' w' → Mk T0 w0 L C mb CS R m' w' := by
 obtain ⟨T, V, a, b, c⟩ := h
 refine ⟨T, Mc.start a.mc, fun k hk => ?_, fun m' w' hm => ?_⟩
 · by_cases h0 : T k = 0
   · exact h0
   · exact absurd (a.mc.sys.low k h0) (by omega)
 · obtain ⟨T', V', a', b', c'⟩ := hm
   refine ⟨T', V', ⟨a', (c'.block mb (AF a.head) (by show DU (T mb) = false; rw [a.tm]; rfl)).trans a.head, a.cores.kept fun k hk => c'.block k (a.cores.lt k hk) (by show DU (T k) = false; rw [a.tc k hk]; rfl), (b' _ (AF a.head)).trans a.tm, fun k hk => (b' _ (a.cores.lt k hk)).trans (a.tc k hk)⟩, fun k hk => (b' k (Vy hk c.size)).trans (b k hk), DQ b c c' (fun n hn => hn)⟩
theorem Mk.trans {T : Nat → Nat} (hb : ∀ k, k < w0.heap.size → T k = T0 k) (hc : Ad DU T0 w0 w) (h : Mk T w L C mb CS R m w') : Mk T0 w0 L C mb CS R m w' := by
 obtain ⟨T', V', h', h2, h3⟩ := h
 exact ⟨T', V', h', fun k hk => (h2 k (Vy hk hc.size)).trans (hb k hk), DQ hb hc h3 (fun _ h => h)⟩
theorem Mk.fresh {W1 : World} (h : Mk T0 w0 L C mb CS R m w) (hb : Below w w W1) : ∃ T, Mk T W1 L C mb CS R m W1 ∧ (∀ k, w.heap.size ≤ k → T k = 0) ∧ ∀ m' w', Mk T W1 L C mb CS R m' w' → Mk T0 w0 L C mb CS R m' w' := by
 obtain ⟨T, V, a, b, c⟩ := h
 refine ⟨T, ⟨T, V, ⟨a.mc.below hb, AB hb a.head, a.cores.below hb, a.tm, a.tc⟩, fun _ _ => rfl, Pres.refl _ _⟩, fun k hk => ?_, fun m' w' k => k.trans b (c.trans (Pres.of_below hb))⟩
 by_cases h0 : T k = 0
 · exact h0
 · exact absurd (a.mc.sys.low k h0) (by omega)
theorem Mk.stays (h : Mk T0 w0 L C mb CS R m w) {k : Nat} {o : Obj} (hT : T0 k = 0) (ho : w0.heap[k]? = some o) : w.heap[k]? = some o := by
 obtain ⟨T, V, a, b, c⟩ := h
 exact (c.block k (AF ho) (by show DU (T0 k) = false; rw [hT]; rfl)).trans ho
theorem Mk.size (h : Mk T0 w0 L C mb CS R m w) : w0.heap.size ≤ w.heap.size := by
 obtain ⟨T, V, a, b, c⟩ := h
 exact c.size
theorem Mk.sy (h : Mk T0 w0 L C mb CS R m w) : ∃ T, Sy T w L m.s w ∧ ∀ s' w', Sy T w L s' w' → Mk T0 w0 L C mb CS R { m with s := s' } w' := by
 obtain ⟨T, h1, _, h2⟩ := h.mc
 obtain ⟨T1, g1, _, g3, g4⟩ := h1.sy
 exact ⟨T1, g1, fun s' w' hs => h2 _ _ (g4 s' w' hs)⟩
theorem Mk.core {i : Int} (hi : AK i = true) (h : Mk T0 w0 L C mb CS R m w) : CoreAt w (C.at i) i (m.core i) ∧ ∀ c' w', Pres (fun k => k ≠ (C.at i).cb ∧ k ≠ (C.at i).pb ∧ k ≠ (C.at i).gb) w w' → CoreAt w' (C.at i) i c' → Mk T0 w0 L C mb CS R (m.put i c' m.s) w' := by
 obtain ⟨T, h1, _, h2⟩ := h.mc
 obtain ⟨T1, V1, a, b, c⟩ := h1
 refine ⟨a.core hi, fun c' w' hp hc => h2 _ _ ?_⟩
 have hl : ∀ k, GT i (T1 k) = false → k ≠ (C.at i).cb ∧ k ≠ (C.at i).pb ∧ k ≠ (C.at i).gb := fun k hk => by
  rcases Aa hi with rfl | rfl
  · exact ⟨fun e => (by rw [e, show (C.at 0).cb = C.c0.cb from rfl, a.c0] at hk; cases hk), fun e => (by rw [e, show (C.at 0).pb = C.c0.pb from rfl, a.p0] at hk; cases hk), fun e => (by rw [e, show (C.at 0).gb = C.c0.gb from rfl, a.g0] at hk; cases hk)⟩
  · exact ⟨fun e => (by rw [e, show (C.at 1).cb = C.c1.cb from rfl, a.c1] at hk; cases hk), fun e => (by rw [e, show (C.at 1).pb = C.c1.pb from rfl, a.p1] at hk; cases hk), fun e => (by rw [e, show (C.at 1).gb = C.c1.gb from rfl, a.g1] at hk; cases hk)⟩
 exact Mc.setCore a b c hi (hp.mono fun k _ hk => hl k hk) hc
end
theorem GF (T0 : Nat → Nat) (w0 : World) (L : SL) (C : CC) (mb : Nat) (CS R : Value) (m : Mach) (i : Int) (hi : AK i = true) (w : World) (h : Mk T0 w0 L C mb CS R m w) : Y 23 #[mb, I i] w fun e w' => e = Z (.pointer (some ⟨(C.at i).cb, 0, none⟩)) ∧ w = w' := by
 have c1 := AA h.head
 obtain ⟨g, off, AV, cs, rfl, hg, _, _, hc⟩ := h.cores.lies (by decide)
 rcases Aa hi with rfl | rfl
 · have e0 : w.cell? ⟨g, off, none⟩ = some (.pointer (some C.c0.cb)) := AD hg _ (hc 0 _ rfl)
   clear h hc hg
   go_enter func23, ntmps23
   go_wp2_with fail
   go_ret
   exact ⟨rfl, rfl⟩
 · have e0 : w.cell? ⟨g, off + 1, none⟩ = some (.pointer (some C.c1.cb)) := AD hg _ (hc 1 _ rfl)
   clear h hc hg
   go_enter func23, ntmps23
   go_wp2_with fail
   go_ret
   exact ⟨rfl, rfl⟩
theorem Oo (T0 : Nat → Nat) (w0 : World) (L : SL) (C : CC) (mb : Nat) (CS R : Value) (m : Mach) (w : World) (h : Mk T0 w0 L C mb CS R m w) : Y 77 #[mb] w fun e w' => e = Z (.pointer (some L.sb)) ∧ w = w' := by
 have c1 := AA h.head
 clear h
 go_enter func77, ntmps77
 go_wp2_with fail
 go_ret
 exact ⟨rfl, rfl⟩
theorem QP (T0 : Nat → Nat) (w0 : World) (L : SL) (C : CC) (mb : Nat) (CS R : Value) (m : Mach) (x y : Int) (hx : AK x = true) (s' : Sys) (hr : m.s.up x = some s') (w : World) (h : Mk T0 w0 L C mb CS R m w) : Y 184 #[mb, .agg #[I 3, I x, I y]] w fun e w' => e = Z (.slice none 0 0) ∧ Mk T0 w0 L C mb CS R { m with s := s' } w' := by
 obtain ⟨W1, hE, hb, hI⟩ := alloc_new w (.cells #[I 3, I x, I y] 58)
 have h1 := h.below hb
 have c1 := AA h1.head
 have c2 := AA hI
 have hc := Vw (show ∀ w, Mk T0 w0 L C mb CS R m w → Y 225 #[L.sb, I x] w fun e w' => (∃ r, e = Z (I r)) ∧ Mk T0 w0 L C mb CS R { m with s := s' } w' from fun w h => by
  obtain ⟨T, hs, hback⟩ := h.sy
  exact (QF T _ L m.s x hx s' hr w hs).mono fun e w' k => ⟨k.1, hback _ _ k.2⟩)
 have H1 := Vw h1.drew
 have hlt := AF h.head
 clear h h1 hb hI
 go_enter func184, ntmps184
 go_wp2_with fail
 go_still_tail 6, (by kernel_rfl)
 change wpList _ _ _ _ _ W1.drew
 go_wp2_with fail
 refine (hc.out _ H1.out).mono ?_
 rintro e w2 ⟨⟨r, rfl⟩, h2⟩
 have H2 := Vw h2
 clear h2
 go_wp2_with fail
 go_ret
 exact ⟨rfl, H2.out⟩
theorem Kt (T0 : Nat → Nat) (w0 : World) (L : SL) (C : CC) (mb : Nat) (CS R : Value) (m : Mach) (x y : Int) (hx : AK x = true) (s' : Sys) (hr : m.s.answer x = some s') (w : World) (h : Mk T0 w0 L C mb CS R m w) : Y 185 #[mb, .agg #[I 4, I x, I y]] w fun e w' => e = Z (.slice none 0 0) ∧ Mk T0 w0 L C mb CS R { m with s := s' } w' := by
 obtain ⟨W1, hE, hb, hI⟩ := alloc_new w (.cells #[I 4, I x, I y] 58)
 have h1 := h.below hb
 have c1 := AA h1.head
 have c2 := AA hI
 have hc := Vw (show ∀ w, Mk T0 w0 L C mb CS R m w → Y 226 #[L.sb, I x] w fun e w' => (∃ r, e = Z (I r)) ∧ Mk T0 w0 L C mb CS R { m with s := s' } w' from fun w h => by
  obtain ⟨T, hs, hback⟩ := h.sy
  exact (Ol T _ L m.s x hx s' hr w hs).mono fun e w' k => ⟨k.1, hback _ _ k.2⟩)
 have H1 := Vw h1.drew
 have hlt := AF h.head
 clear h h1 hb hI
 go_enter func185, ntmps185
 go_wp2_with fail
 go_still_tail 6, (by kernel_rfl)
 change wpList _ _ _ _ _ W1.drew
 go_wp2_with fail
 refine (hc.out _ H1.out).mono ?_
 rintro e w2 ⟨⟨r, rfl⟩, h2⟩
 have H2 := Vw h2
 clear h2
 go_wp2_with fail
 go_ret
 exact ⟨rfl, H2.out⟩
theorem MD (T0 : Nat → Nat) (w0 : World) (L : SL) (C : CC) (mb : Nat) (CS R : Value) (m : Mach) (x y : Int) (s' : Sys) (hr : m.s.drain x = some s') (w : World) (h : Mk T0 w0 L C mb CS R m w) : Y 190 #[mb, .agg #[I 9, I y, I x]] w fun e w' => e = Z (.slice none 0 0) ∧ Mk T0 w0 L C mb CS R { m with s := s' } w' := by
 obtain ⟨W1, hE, hb, hI⟩ := alloc_new w (.cells #[I 9, I y, I x] 58)
 have h1 := h.below hb
 have c1 := AA h1.head
 have c2 := AA hI
 have hc := Vw (show ∀ w, Mk T0 w0 L C mb CS R m w → Y 233 #[L.sb, I x] w fun e w' => (∃ r, e = Z (I r)) ∧ Mk T0 w0 L C mb CS R { m with s := s' } w' from fun w h => by
  obtain ⟨T, hs, hback⟩ := h.sy
  exact (Ly T _ L m.s x s' hr w hs).mono fun e w' k => ⟨k.1, hback _ _ k.2⟩)
 have H1 := Vw h1.drew
 have hlt := AF h.head
 clear h h1 hb hI
 go_enter func190, ntmps190
 go_wp2_with fail
 go_still_tail 6, (by kernel_rfl)
 change wpList _ _ _ _ _ W1.drew
 go_wp2_with fail
 refine (hc.out _ H1.out).mono ?_
 rintro e w2 ⟨⟨r, rfl⟩, h2⟩
 have H2 := Vw h2
 clear h2
 go_wp2_with fail
 go_ret
 exact ⟨rfl, H2.out⟩
theorem Ih (T0 : Nat → Nat) (w0 : World) (L : SL) (C : CC) (mb : Nat) (CS R : Value) (m : Mach) (x y : Int) (s' : Sys) (b : Bool) (hr : m.s.push x = some (s', b)) (w : World) (h : Mk T0 w0 L C mb CS R m w) : Y 187 #[mb, .agg #[I 6, I y, I x]] w fun e w' => ∃ S, e = Z S ∧ AH w' 92 5 S (if b = true then [⟨5, 0, x, 0, 0⟩] else [] : List Ev).length (AY (if b = true then [⟨5, 0, x, 0, 0⟩] else [])) ∧ (∀ k, S.ownBlock = some k → w.heap.size ≤ k) ∧ Mk T0 w0 L C mb CS R { m with s := s' } w' := by
 obtain ⟨W1, hE, hb, hI⟩ := alloc_new w (.cells #[I 6, I y, I x] 58)
 obtain ⟨T, h1, hT, hback⟩ := h.fresh hb
 have c1 := AA h1.head
 have c2 := AA hI
 have hlt := AF h.head
 have hc0 : Y 229 #[L.sb, I x] W1.drew fun e w' => e = Z (I (if b = true then 0 else 16)) ∧ Mk T W1 L C mb CS R { m with s := s' } w' := by
  obtain ⟨T1, g1, g3⟩ := h1.drew.sy
  exact (NP T1 _ L m.s x s' b hr W1.drew g1).mono fun e w' k => ⟨k.1, g3 _ _ k.2⟩
 have HB := Vw (show ∀ w', Mk T W1 L C mb CS R { m with s := s' } w' → Mk T0 w0 L C mb CS R { m with s := s' } w' ∧ w'.heap[w.heap.size]? = some (.cells #[I 6, I y, I x] 58) ∧ w.heap.size ≤ w'.heap.size from fun w' k => ⟨hback _ _ k, k.stays (hT _ (Nat.le_refl _)) hI, Vx hb.size k.size⟩)
 clear h hT hback h1 hb hI hr
 cases b
 · simp only [Bool.false_eq_true, if_false] at hc0 ⊢
   have hc := Vw hc0
   clear hc0
   go_enter func187, ntmps187
   go_wp2_with fail
   go_region_with (go_at_call 229; refine hc.out.mono ?_; rintro e w2 ⟨rfl, h2⟩)
   all_goals
    have H2 := Vw (HB.out _ h2)
    clear h2 c1 c2
    go_wp2_with fail
    go_ret
    exact ⟨_, rfl, by simpa [AY] using AH.nil _ 92 5, by simp [Value.ownBlock], H2.out.1⟩
 · simp only [if_true] at hc0 ⊢
   have hc := Vw hc0
   clear hc0
   go_enter func187, ntmps187
   go_wp2_with fail
   go_region_with (go_at_call 229; refine hc.out.mono ?_; rintro e w2 ⟨rfl, h2⟩)
   all_goals
    have H2 := Vw (HB.out _ h2)
    clear h2 c1 c2
    have c2 := AA H2.out.2.1
    have hp := Vw (Lf x w2)
    go_wp2_with fail
    refine hp.out.mono ?_
    rintro e w3 ⟨S, rfl, hr3, ho3, hb3⟩
    have H3 := Vw (WA hr3 (WA (fun k hk => Vx H2.out.2.2 (ho3 k hk)) (H2.out.1.below hb3)))
    clear hr3 ho3 hb3
    go_wp2_with fail
    go_ret
    exact ⟨S, rfl, H3.out.1, H3.out.2.1, H3.out.2.2⟩
end Go.Proofs.YtkoplblbeapfgaaGreatDoor
