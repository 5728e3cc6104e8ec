/-
Parts of the walk of TopEnds. Conditions stand in each statement.
-/
import Derived.Test.YtkoplblbeapfgaaGreatDoorX17
namespace Go.Proofs.YtkoplblbeapfgaaGreatDoor
open Go.RowKit
open Tryz
set_option linter.all false
set_option maxRecDepth 100000
set_option maxHeartbeats 8000000
theorem cdoX :
  (∀ (T0 : Nat → Nat) (w0 : World) (L : SL) (C : CC) (m : Mach) (i : Int) (hi : AK i = true) (xb : Nat) (x : Ins) (c : Core) (s : Sys) (evs : List Ev) (o : Int) (ho : o = 8) (hop : x.op = o) (c' : Core) (s' : Sys) (evs' : List Ev) (hcall : ∀ w, Sp T0 w0 L C m i xb x c s evs w → Y 309 #[xb] w fun e w' => e = Z (.tuple #[]) ∧ Sp T0 w0 L C m i xb x c' s' evs' w') (w : World) (h : Sp T0 w0 L C m i xb x c s evs w), Y 260 #[xb] w fun e w' => e = Z (.tuple #[]) ∧ Sp T0 w0 L C m i xb x c' s' evs' w') ∧
  (∀ (T0 : Nat → Nat) (w0 : World) (L : SL) (C : CC) (m : Mach) (i : Int) (hi : AK i = true) (xb : Nat) (x : Ins) (c : Core) (s : Sys) (evs : List Ev) (o : Int) (ho : o = 9 ∨ o = 12) (hop : x.op = o) (c' : Core) (s' : Sys) (evs' : List Ev) (hcall : ∀ w, Sp T0 w0 L C m i xb x c s evs w → Y 310 #[xb] w fun e w' => e = Z (.tuple #[]) ∧ Sp T0 w0 L C m i xb x c' s' evs' w') (w : World) (h : Sp T0 w0 L C m i xb x c s evs w), Y 260 #[xb] w fun e w' => e = Z (.tuple #[]) ∧ Sp T0 w0 L C m i xb x c' s' evs' w') ∧
  (∀ (T0 : Nat → Nat) (w0 : World) (L : SL) (C : CC) (m : Mach) (i : Int) (hi : AK i = true) (xb : Nat) (x : Ins) (c : Core) (s : Sys) (evs : List Ev) (o : Int) (ho : o = 15) (hop : x.op = o) (c' : Core) (s' : Sys) (evs' : List Ev) (hcall : ∀ w, Sp T0 w0 L C m i xb x c s evs w → Y 311 #[xb] w fun e w' => e = Z (.tuple #[]) ∧ Sp T0 w0 L C m i xb x c' s' evs' w') (w : World) (h : Sp T0 w0 L C m i xb x c s evs w), Y 260 #[xb] w fun e w' => e = Z (.tuple #[]) ∧ Sp T0 w0 L C m i xb x c' s' evs' w') ∧
  (∀ (T0 : Nat → Nat) (w0 : World) (L : SL) (C : CC) (m : Mach) (i : Int) (hi : AK i = true) (xb : Nat) (x : Ins) (c : Core) (s : Sys) (evs : List Ev) (o : Int) (ho : o = 10) (hop : x.op = o) (c' : Core) (s' : Sys) (evs' : List Ev) (hcall : ∀ w, Sp T0 w0 L C m i xb x c s evs w → Y 312 #[xb] w fun e w' => e = Z (.tuple #[]) ∧ Sp T0 w0 L C m i xb x c' s' evs' w') (w : World) (h : Sp T0 w0 L C m i xb x c s evs w), Y 260 #[xb] w fun e w' => e = Z (.tuple #[]) ∧ Sp T0 w0 L C m i xb x c' s' evs' w') ∧
  (∀ (T0 : Nat → Nat) (w0 : World) (L : SL) (C : CC) (m : Mach) (i : Int) (hi : AK i = true) (xb : Nat) (x : Ins) (c : Core) (s : Sys) (evs : List Ev) (o : Int) (ho : o = 2 ∨ o = 3 ∨ o = 6 ∨ o = 17 ∨ o = 18 ∨ o = 19) (hop : x.op = o) (c' : Core) (s' : Sys) (evs' : List Ev) (hcall : ∀ w, Sp T0 w0 L C m i xb x c s evs w → Y 313 #[xb] w fun e w' => e = Z (.tuple #[]) ∧ Sp T0 w0 L C m i xb x c' s' evs' w') (w : World) (h : Sp T0 w0 L C m i xb x c s evs w), Y 260 #[xb] w fun e w' => e = Z (.tuple #[]) ∧ Sp T0 w0 L C m i xb x c' s' evs' w') := by
 refine ⟨?m0, ?m1, ?m2, ?m3, ?m4⟩
 case' m0 =>
  intro T0 w0 L C m i hi xb x c s evs o ho hop c' s' evs' hcall w h
  have mk_0 := trivial
 case' m1 =>
  intro T0 w0 L C m i hi xb x c s evs o ho hop c' s' evs' hcall w h
  have mk_1 := trivial
 case' m2 =>
  intro T0 w0 L C m i hi xb x c s evs o ho hop c' s' evs' hcall w h
  have mk_2 := trivial
 case' m3 =>
  intro T0 w0 L C m i hi xb x c s evs o ho hop c' s' evs' hcall w h
  have mk_3 := trivial
 case' m4 =>
  intro T0 w0 L C m i hi xb x c s evs o ho hop c' s' evs' hcall w h
  have mk_4 := trivial
 all_goals
  obtain ⟨W1, hE, hb, hI⟩ := alloc_new w (.cells #[I o, I x.a, I x.b, I x.c, I x.imm] 165)
  have h1 := h.below hb
  obtain ⟨x0, _, x2, x3, x4, x5, x6⟩ := h.x
  rw [hop] at x2
  have hltc := AF (h.coreAt hi).head
  have H1 := Vw h1
  have HI := Vw hI
  have c2 := AA hI
  clear h h1 hop hb hI
  have HC := Vw hcall
  clear hcall
  first
   | guard_hyp mk_1
     (rcases ho with rfl | rfl)
   | guard_hyp mk_4
     (rcases ho with rfl | rfl | rfl | rfl | rfl | rfl)
   | (rcases ho with rfl)
  all_goals
   go_enter func260, ntmps260
   go_wp2_with fail
   refine (HC.out _ H1.out).mono ?_
   rintro e w2 ⟨rfl, h2⟩
   have H2 := Vw h2
   clear h2
   go_wp2_with fail
   go_end0
   exact ⟨rfl, H2.out⟩
theorem UU (T0 : Nat → Nat) (w0 : World) (L : SL) (C : CC) (m : Mach) (i : Int) (hi : AK i = true) (xb : Nat) (x : Ins) (c : Core) (s : Sys) (evs : List Ev) (hop : x.op = 1) (hra : BH x.a = true) (h0 : 0 ≤ c.place) (h1 : c.place < 1000000) (w : World) (h : Sp T0 w0 L C m i xb x c s evs w) : Y 260 #[xb] w fun e w' => e = Z (.tuple #[]) ∧ Sp T0 w0 L C m i xb x (c.setReg x.a (Gz x.imm)).next s evs w' := by
 have hnx := Vw (fun w h => CK T0 w0 L C m i hi xb x (c.setReg x.a (Gz x.imm)) s evs h0 h1 w h)
 have ha := Hr hra
 obtain ⟨a0, a1⟩ := Ch hra
 obtain ⟨W1, hE, hb, hI⟩ := alloc_new w (.cells #[I 1, I x.a, I x.b, I x.c, I x.imm] 165)
 have h1 := h.below hb
 obtain ⟨x0, _, x2, x3, x4, x5, x6⟩ := h.x
 rw [hop] at x2
 have hltc := AF (h.coreAt hi).head
 have H1 := Vw h1
 have HI := Vw hI
 have c2 := AA hI
 clear h h1 hop hb hI
 have xr := (H1.out.coreAt hi).reg hra
 have fr := (H1.out.id hi).2.2.2.2
 go_enter func260, ntmps260
 go_wp2_with fail
 go_still_tail 8, (by kernel_rfl)
 change wpList _ _ _ _ _ W1.drew
 go_wp2_with fail
 refine (hnx.out _ (H1.out.setReg hi hra (Gz x.imm)).drew).mono ?_
 rintro e w2 ⟨rfl, h2⟩
 have H2 := Vw h2
 clear h2
 go_wp2_with fail
 go_end0
 exact ⟨rfl, H2.out⟩
theorem SG (T0 : Nat → Nat) (w0 : World) (L : SL) (C : CC) (m : Mach) (i : Int) (hi : AK i = true) (xb : Nat) (x : Ins) (c : Core) (s : Sys) (evs : List Ev) (hop : x.op = 21) (hra : BH x.a = true) (h0 : 0 ≤ c.place) (h1 : c.place < 1000000) (hl : evs.length < 900) (w : World) (h : Sp T0 w0 L C m i xb x c s evs w) : Y 260 #[xb] w fun e w' => e = Z (.tuple #[]) ∧ Sp T0 w0 L C m i xb x c.next s (evs ++ [⟨8, i, 0, 0, c.reg x.a⟩]) w' := by
 have hev := Vw (fun w h => BU T0 w0 L C m i hi xb x c s evs 8 0 0 (c.reg x.a) (by omega) w h)
 have hnx := Vw (fun w h => CK T0 w0 L C m i hi xb x c s (evs ++ [⟨8, i, 0, 0, c.reg x.a⟩]) h0 h1 w h)
 obtain ⟨a0, a1⟩ := Ch hra
 obtain ⟨W1, hE, hb, hI⟩ := alloc_new w (.cells #[I 21, I x.a, I x.b, I x.c, I x.imm] 165)
 have h1 := h.below hb
 obtain ⟨x0, _, x2, x3, x4, x5, x6⟩ := h.x
 rw [hop] at x2
 have hltc := AF (h.coreAt hi).head
 have H1 := Vw h1
 have HI := Vw hI
 have c2 := AA hI
 clear h h1 hop hb hI
 have xr := (H1.out.coreAt hi).reg hra
 go_enter func260, ntmps260
 go_wp2_with fail
 go_still_tail 7, (by kernel_rfl)
 change wpList _ _ _ _ _ W1.drew
 go_wp2_with fail
 refine (hev.out _ H1.out.drew).mono ?_
 rintro e w2 ⟨rfl, h2⟩
 have H2 := Vw h2
 clear h2
 go_wp2_with fail
 refine (hnx.out _ H2.out).mono ?_
 rintro e w3 ⟨rfl, h3⟩
 have H3 := Vw h3
 clear h3
 go_wp2_with fail
 go_end0
 exact ⟨rfl, H3.out⟩
theorem SH (T0 : Nat → Nat) (w0 : World) (L : SL) (C : CC) (m : Mach) (i : Int) (hi : AK i = true) (xb : Nat) (x : Ins) (c : Core) (s : Sys) (evs : List Ev) (hop : x.op = 22) (hl : evs.length < 900) (w : World) (h : Sp T0 w0 L C m i xb x c s evs w) : Y 260 #[xb] w fun e w' => e = Z (.tuple #[]) ∧ Sp T0 w0 L C m i xb x { c with runs := false } s (evs ++ [⟨9, i, 0, 0, 0⟩]) w' := by
 have hev := Vw (fun w h => BU T0 w0 L C m i hi xb x c s evs 9 0 0 0 (by omega) w h)
 obtain ⟨W1, hE, hb, hI⟩ := alloc_new w (.cells #[I 22, I x.a, I x.b, I x.c, I x.imm] 165)
 have h1 := h.below hb
 obtain ⟨x0, _, x2, x3, x4, x5, x6⟩ := h.x
 rw [hop] at x2
 have hltc := AF (h.coreAt hi).head
 have H1 := Vw h1
 have HI := Vw hI
 have c2 := AA hI
 clear h h1 hop hb hI
 go_enter func260, ntmps260
 go_wp2_with fail
 refine (hev.out _ H1.out).mono ?_
 rintro e w2 ⟨rfl, h2⟩
 have y0 := h2.x.1
 obtain ⟨_, _, _, y13, fr⟩ := h2.id hi
 have hset := Vw ((h2.coreAt hi).set 13 (.bool false) (US _ _ _ _) (h2.coreAt hi).len rfl rfl)
 have H2 := Vw h2
 clear h2 x0 x2 x3 x4 x5 x6
 go_wp2_with fail
 go_end0
 exact ⟨rfl, H2.out.setCore hi ((Pres.refl _ _).setCell (p := ⟨(C.at i).cb, 13, none⟩) (by simp) _) hset.out⟩
theorem Sp.setBuf {T0 : Nat → Nat} {w0 : World} {L : SL} {C : CC} {m : Mach} {i : Int} {xb : Nat} {x : Ins} {c : Core} {s : Sys} {evs : List Ev} {w w' : World} (hi : AK i = true) (h : Sp T0 w0 L C m i xb x c s evs w) {b : List SE} (hb : Sb.SQ w' (C.at i).gb 2 (b.map SE.ent)) (hg : w.grownBy w' (some (C.at i).gb)) : Sp T0 w0 L C m i xb x { c with buf := b } s evs w' := by
 have hc := h.coreAt hi
 have hp : Pres (fun k => k ≠ (C.at i).gb) w w' := Pres.of_grown hg fun k hk => by cases hk; simp
 have h1 : (C.at i).cb ≠ (C.at i).gb := fun e => by
  obtain ⟨es, first, hb, _⟩ := hc.buf
  have h80 := hb.room
  rw [← e] at h80
  have h81 : w.cell? ⟨(C.at i).cb, 80, none⟩ = none := by rw [World.cell?, hc.head]; rfl
  rw [h81] at h80
  cases h80
 have h2 : (C.at i).pb ≠ (C.at i).gb := fun e => by
  have hB := hc.buf
  obtain ⟨T, V, S, m1, _⟩ := h
  rcases Aa hi with rfl | rfl
  · have := m1.p0
    rw [show C.c0.pb = C.c0.gb from e, m1.g0] at this
    cases this
  · have := m1.p1
    rw [show C.c1.pb = C.c1.gb from e, m1.g1] at this
    cases this
 exact h.setCore hi (hp.mono fun k _ hk => hk.2.2) ⟨(hp.block _ (AF hc.head) h1).trans hc.head, hc.len, hc.prog.block (hp.block _ hc.prog.lt h2), hb⟩
theorem cputX :
  (∀ (T0 : Nat → Nat) (w0 : World) (L : SL) (C : CC) (m : Mach) (i : Int) (hi : AK i = true) (xb : Nat) (x : Ins) (c : Core) (s : Sys) (evs : List Ev) (hop : x.op = 9) (hrb : BH x.b = true) (hra : BH x.a = true) (ha : Cv (AL c x) = true) (hroom : c.buf.length < 2) (h0 : 0 ≤ c.place) (h1 : c.place < 1000000) (hl : evs.length < 900) (w : World) (h : Sp T0 w0 L C m i xb x c s evs w), Y 310 #[xb] w fun e w' => e = Z (.tuple #[]) ∧ Sp T0 w0 L C m i xb x ({ c with buf := c.buf ++ [⟨9, AL c x / 64, AL c x % 64 / 8, c.reg x.a⟩] } : Core).next s (evs ++ [⟨12, i, AL c x / 64, AL c x % 64 / 8, c.reg x.a⟩]) w') ∧
  (∀ (T0 : Nat → Nat) (w0 : World) (L : SL) (C : CC) (m : Mach) (i : Int) (hi : AK i = true) (xb : Nat) (x : Ins) (c : Core) (s : Sys) (evs : List Ev) (hop : x.op = 9) (hrb : BH x.b = true) (hra : BH x.a = true) (ha : Cv (AL c x) = true) (hfull : 2 ≤ c.buf.length) (w : World) (h : Sp T0 w0 L C m i xb x c s evs w), Y 310 #[xb] w fun e w' => e = Z (.tuple #[]) ∧ Sp T0 w0 L C m i xb x c s evs w') := by
 refine ⟨?m0, ?m1⟩
 case' m0 =>
  intro T0 w0 L C m i hi xb x c s evs hop hrb hra ha hroom h0 h1 hl w h
  have mk_0 := trivial
 case' m1 =>
  intro T0 w0 L C m i hi xb x c s evs hop hrb hra ha hfull w h
  have mk_1 := trivial
 all_goals
  obtain ⟨a0, a1, a8⟩ := JK ha
  have hln : 0 ≤ AL c x / 64 ∧ AL c x / 64 < 64 ∧ 0 ≤ AL c x % 64 / 8 ∧ AL c x % 64 / 8 < 8 := by omega
  have hat := Vw (fun w h => Fz T0 w0 L C m i hi xb x c s evs hrb ha w h)
  first
   | guard_hyp mk_1
     have hpu := Vw (show ∀ w, Sp T0 w0 L C m i xb x c s evs w → Y 367 #[.pointer (some ⟨(C.at i).gb, 0, none⟩), .agg #[I 9, I (AL c x / 64), I (AL c x % 64 / 8), U (c.reg x.a), false]] w fun e w' => e = Z (I 13) ∧ Sp T0 w0 L C m i xb x c s evs w' from fun w h => (Sb.push_full _ _ _ (SE.ent ⟨9, AL c x / 64, AL c x % 64 / 8, c.reg x.a⟩) (by unfold Sb.goodE SE.ent; simp only [hln.1, hln.2.1, hln.2.2.1, hln.2.2.2, and_self, decide_true]; rfl) (by simpa using hfull) w (h.coreAt hi).buf).mono fun e w' k => ⟨k.1, h.below k.2⟩)
   | have hpu := Vw (show ∀ w, Sp T0 w0 L C m i xb x c s evs w → Y 367 #[.pointer (some ⟨(C.at i).gb, 0, none⟩), .agg #[I 9, I (AL c x / 64), I (AL c x % 64 / 8), U (c.reg x.a), false]] w fun e w' => e = Z (I 0) ∧ Sp T0 w0 L C m i xb x { c with buf := c.buf ++ [⟨9, AL c x / 64, AL c x % 64 / 8, c.reg x.a⟩] } s evs w' ∧ (∀ k, k ≠ (C.at i).gb → k < w.heap.size → w'.heap[k]? = w.heap[k]?) from fun w h => (Sb.push_ok _ _ _ (SE.ent ⟨9, AL c x / 64, AL c x % 64 / 8, c.reg x.a⟩) (by unfold Sb.goodE SE.ent; simp only [hln.1, hln.2.1, hln.2.2.1, hln.2.2.2, and_self, decide_true]; rfl) (by simpa using hroom) w (h.coreAt hi).buf).mono fun e w' k => ⟨k.1, h.setBuf hi (by rw [List.map_append]; exact k.2.1) k.2.2, fun q hq hl => k.2.2.block q hl (fun e => hq (Option.some.inj e))⟩)
     have hev := Vw (fun w h => BU T0 w0 L C m i hi xb x { c with buf := c.buf ++ [⟨9, AL c x / 64, AL c x % 64 / 8, c.reg x.a⟩] } s evs 12 (AL c x / 64) (AL c x % 64 / 8) (c.reg x.a) (by omega) w h)
     have hnx := Vw (fun w h => CK T0 w0 L C m i hi xb x { c with buf := c.buf ++ [⟨9, AL c x / 64, AL c x % 64 / 8, c.reg x.a⟩] } s (evs ++ [⟨12, i, AL c x / 64, AL c x % 64 / 8, c.reg x.a⟩]) h0 h1 w h)
  have H := Vw h
  clear h
  generalize AL c x / 64 = ln at *
  generalize AL c x % 64 / 8 = wd at *
  go_enter func310, ntmps310
  go_wp2_with fail
  refine (hat.out _ H.out).mono ?_
  rintro e w1 ⟨rfl, h1⟩
  obtain ⟨W2, hE, hb2, hI2⟩ := alloc_new w1 (.cells #[I 9, I ln, I 0, U 0, false] 255)
  have HI2 := Vw hI2
  have y2 := h1.x.2.2.1
  rw [hop] at y2
  have h2 := h1.below hb2
  have H2 := Vw h2
  have H1 := Vw h1
  have HB2 := Vw hb2
  have hgb := Vw (show w1.heap.size ≠ (C.at i).gb from Nat.ne_of_gt (h1.coreAt hi).buf.lt)
  obtain ⟨x0, x1, x2, x3, _, _, _⟩ := h2.x
  rw [hop] at x2
  have x11 := (h2.id hi).2.1
  have xr := (h2.coreAt hi).reg hra
  have c2 := AA hI2
  have f2 := AJ hI2
  obtain ⟨r0, r1⟩ := Ch hra
  have hltx := World.block_lt_of_cell? (w := w1) (a := xb) h1.x.1
  have hltc := AF (h1.coreAt hi).head
  simp only at hltx
  have hnx1 : xb ≠ w1.heap.size := Nat.ne_of_lt hltx
  have hnc1 : (C.at i).cb ≠ w1.heap.size := Nat.ne_of_lt hltc
  clear h1 h2 hb2 hI2
  go_wp2_with fail
  rw [CZ HI2.out (k := 2) (v := I 0) rfl, CZ HI2.out (k := 3) (v := U 0) rfl, CZ HI2.out (k := 4) (v := .bool false) rfl]
  have HS := Vw (show ∀ w' : World, Sp T0 w0 L C m i xb x c s evs w' → w'.cell? xb = some (.pointer (some ⟨(C.at i).cb, 0, none⟩)) ∧ w'.cell? ⟨xb, 3, none⟩ = some (I x.a) ∧ w'.cell? ⟨(C.at i).cb, 1 + x.a.toNat, none⟩ = some (U (c.reg x.a)) from fun w' h => ⟨h.x.1, h.x.2.2.2.1, (h.coreAt hi).reg hra⟩)
  have hk1 : Sp T0 w0 L C m i xb x c s evs W2.drew := H2.out.drew
  have hk2 : Sp T0 w0 L C m i xb x c s evs (W2.setCell ⟨w1, 2, none⟩ (I wd)).drew := (H1.out.below (HB2.out.setCell (p := ⟨w1, 2, none⟩) (Nat.le_refl _) _)).drew
  have hk3 : Sp T0 w0 L C m i xb x c s evs ((W2.setCell ⟨w1, 2, none⟩ (I wd)).setCell ⟨w1, 3, none⟩ (U (c.reg x.a))).drew := (H1.out.below ((HB2.out.setCell (p := ⟨w1, 2, none⟩) (Nat.le_refl _) _).setCell (p := ⟨w1, 3, none⟩) (Nat.le_refl _) _)).drew
  go_region_held3 (fun w' => w'.cell? xb = some (.pointer (some ⟨(C.at i).cb, 0, none⟩)) ∧ w'.cell? ⟨xb, 3, none⟩ = some (I x.a) ∧ w'.cell? ⟨(C.at i).cb, 1 + x.a.toNat, none⟩ = some (U (c.reg x.a))) (first | with_reducible exact HS.out _ hk1 | with_reducible exact HS.out _ hk2 | with_reducible exact HS.out _ hk3) (fail)
  generalize hW : World.setCell _ ⟨w1, 3, none⟩ _ = W5
  have HI5 := Vw (show W5.drew.heap[w1.heap.size]? = some (.cells #[I 9, I ln, I wd, U (c.reg x.a), false] 255) from (show W5.heap[w1.heap.size]? = _ by rw [← hW]; exact AI (AI HI2.out 2 _) 3 _))
  have H5 := Vw (show Sp T0 w0 L C m i xb x c s evs W5.drew from Sp.drew (by
   rw [← hW]
   exact H1.out.below ((HB2.out.setCell (p := ⟨w1, 2, none⟩) (Nat.le_refl _) _).setCell (p := ⟨w1, 3, none⟩) (Nat.le_refl _) _)))
  clear hW x0 x1 x2 x3 x11 xr c2 f2 hk1 hk2 hk3
  generalize W5.drew = W5 at *
  have c5 := AA HI5.out
  have x0 := H5.out.x.1
  have x2 := H5.out.x.2.2.1
  have x11 := (H5.out.id hi).2.1
  rw [hop] at x2
  go_wp2_with fail
  go_still_tail 8, (by kernel_rfl)
  have H6 := Vw (show Sp T0 w0 L C m i xb x c s evs W5.drew from H5.out.drew)
  have HI6 := Vw (show W5.drew.heap[w1.heap.size]? = _ from HI5.out)
  change wpList _ _ _ _ _ W5.drew
  generalize W5.drew = W6 at *
  go_wp2_with fail
  refine (hpu.out _ H6.out).mono ?_
  first
   | guard_hyp mk_1
     rintro e w7 ⟨rfl, h7⟩
   | rintro e w7 ⟨rfl, h7, hI7⟩
  have H7 := Vw h7
  first
   | guard_hyp mk_1
     clear h7
   | have x2 := h7.x.2.2.1
     rw [hop] at x2
     have c7 := AA ((hI7 _ hgb.out (AF HI6.out)).trans HI6.out)
     clear h7 hI7
  go_wp2_with fail
  first
   | guard_hyp mk_1
     refine bodyPost_ret (results_none rfl _ _ _) rfl ?_
     exact ⟨rfl, H7.out⟩
   | refine (hev.out _ H7.out).mono ?_
     rintro e w8 ⟨rfl, h8⟩
     have H8 := Vw h8
     clear h8
     go_wp2_with fail
     refine (hnx.out _ H8.out).mono ?_
     rintro e w9 ⟨rfl, h9⟩
     have H9 := Vw h9
     clear h9
     go_wp2_with fail
     go_end0
     exact ⟨rfl, H9.out⟩
theorem cputY :
  (∀ (T0 : Nat → Nat) (w0 : World) (L : SL) (C : CC) (m : Mach) (i : Int) (hi : AK i = true) (xb : Nat) (x : Ins) (c : Core) (s : Sys) (evs : List Ev) (hop : x.op = 12) (hrb : BH x.b = true) (hra : BH x.a = true) (ha : Cv (AL c x) = true) (hroom : c.buf.length < 2) (h0 : 0 ≤ c.place) (h1 : c.place < 1000000) (hl : evs.length < 900) (w : World) (h : Sp T0 w0 L C m i xb x c s evs w), Y 310 #[xb] w fun e w' => e = Z (.tuple #[]) ∧ Sp T0 w0 L C m i xb x ({ c with buf := c.buf ++ [⟨12, AL c x / 64, 0, 0⟩] } : Core).next s (evs ++ [⟨14, i, AL c x / 64, 0, 0⟩]) w') ∧
  (∀ (T0 : Nat → Nat) (w0 : World) (L : SL) (C : CC) (m : Mach) (i : Int) (hi : AK i = true) (xb : Nat) (x : Ins) (c : Core) (s : Sys) (evs : List Ev) (hop : x.op = 12) (hrb : BH x.b = true) (hra : BH x.a = true) (ha : Cv (AL c x) = true) (hfull : 2 ≤ c.buf.length) (w : World) (h : Sp T0 w0 L C m i xb x c s evs w), Y 310 #[xb] w fun e w' => e = Z (.tuple #[]) ∧ Sp T0 w0 L C m i xb x c s evs w') := by
 refine ⟨?m0, ?m1⟩
 case' m0 =>
  intro T0 w0 L C m i hi xb x c s evs hop hrb hra ha hroom h0 h1 hl w h
  have mk_0 := trivial
 case' m1 =>
  intro T0 w0 L C m i hi xb x c s evs hop hrb hra ha hfull w h
  have mk_1 := trivial
 all_goals
  obtain ⟨a0, a1, a8⟩ := JK ha
  have hln : 0 ≤ AL c x / 64 ∧ AL c x / 64 < 64 ∧ 0 ≤ AL c x % 64 / 8 ∧ AL c x % 64 / 8 < 8 := by omega
  have hat := Vw (fun w h => Fz T0 w0 L C m i hi xb x c s evs hrb ha w h)
  first
   | guard_hyp mk_1
     have hpu := Vw (show ∀ w, Sp T0 w0 L C m i xb x c s evs w → Y 367 #[.pointer (some ⟨(C.at i).gb, 0, none⟩), .agg #[I 12, I (AL c x / 64), I 0, U 0, false]] w fun e w' => e = Z (I 13) ∧ Sp T0 w0 L C m i xb x c s evs w' from fun w h => (Sb.push_full _ _ _ (SE.ent ⟨12, AL c x / 64, 0, 0⟩) (by unfold Sb.goodE SE.ent; simp only [hln.1, hln.2.1, hln.2.2.1, hln.2.2.2, and_self, decide_true]; rfl) (by simpa using hfull) w (h.coreAt hi).buf).mono fun e w' k => ⟨k.1, h.below k.2⟩)
   | have hpu := Vw (show ∀ w, Sp T0 w0 L C m i xb x c s evs w → Y 367 #[.pointer (some ⟨(C.at i).gb, 0, none⟩), .agg #[I 12, I (AL c x / 64), I 0, U 0, false]] w fun e w' => e = Z (I 0) ∧ Sp T0 w0 L C m i xb x { c with buf := c.buf ++ [⟨12, AL c x / 64, 0, 0⟩] } s evs w' ∧ (∀ k, k ≠ (C.at i).gb → k < w.heap.size → w'.heap[k]? = w.heap[k]?) from fun w h => (Sb.push_ok _ _ _ (SE.ent ⟨12, AL c x / 64, 0, 0⟩) (by unfold Sb.goodE SE.ent; simp only [hln.1, hln.2.1, hln.2.2.1, hln.2.2.2, and_self, decide_true]; rfl) (by simpa using hroom) w (h.coreAt hi).buf).mono fun e w' k => ⟨k.1, h.setBuf hi (by rw [List.map_append]; exact k.2.1) k.2.2, fun q hq hl => k.2.2.block q hl (fun e => hq (Option.some.inj e))⟩)
     have hev := Vw (fun w h => BU T0 w0 L C m i hi xb x { c with buf := c.buf ++ [⟨12, AL c x / 64, 0, 0⟩] } s evs 14 (AL c x / 64) 0 0 (by omega) w h)
     have hnx := Vw (fun w h => CK T0 w0 L C m i hi xb x { c with buf := c.buf ++ [⟨12, AL c x / 64, 0, 0⟩] } s (evs ++ [⟨14, i, AL c x / 64, 0, 0⟩]) h0 h1 w h)
  have H := Vw h
  clear h
  generalize AL c x / 64 = ln at *
  generalize AL c x % 64 / 8 = wd at *
  go_enter func310, ntmps310
  go_wp2_with fail
  refine (hat.out _ H.out).mono ?_
  rintro e w1 ⟨rfl, h1⟩
  obtain ⟨W2, hE, hb2, hI2⟩ := alloc_new w1 (.cells #[I 12, I ln, I 0, U 0, false] 255)
  have HI2 := Vw hI2
  have y2 := h1.x.2.2.1
  rw [hop] at y2
  have h2 := h1.below hb2
  have H2 := Vw h2
  have H1 := Vw h1
  have HB2 := Vw hb2
  have hgb := Vw (show w1.heap.size ≠ (C.at i).gb from Nat.ne_of_gt (h1.coreAt hi).buf.lt)
  obtain ⟨x0, x1, x2, x3, _, _, _⟩ := h2.x
  rw [hop] at x2
  have x11 := (h2.id hi).2.1
  have xr := (h2.coreAt hi).reg hra
  have c2 := AA hI2
  have f2 := AJ hI2
  obtain ⟨r0, r1⟩ := Ch hra
  have hltx := World.block_lt_of_cell? (w := w1) (a := xb) h1.x.1
  have hltc := AF (h1.coreAt hi).head
  simp only at hltx
  have hnx1 : xb ≠ w1.heap.size := Nat.ne_of_lt hltx
  have hnc1 : (C.at i).cb ≠ w1.heap.size := Nat.ne_of_lt hltc
  clear h1 h2 hb2 hI2
  go_wp2_with fail
  rw [CZ HI2.out (k := 2) (v := I 0) rfl, CZ HI2.out (k := 3) (v := U 0) rfl, CZ HI2.out (k := 4) (v := .bool false) rfl]
  have H5 := H2
  have HI5 := HI2
  go_still_tail 8, (by kernel_rfl)
  have H6 := Vw (show Sp T0 w0 L C m i xb x c s evs W2.drew from H5.out.drew)
  have HI6 := Vw (show W2.drew.heap[w1.heap.size]? = _ from HI5.out)
  change wpList _ _ _ _ _ W2.drew
  generalize W2.drew = W6 at *
  go_wp2_with fail
  refine (hpu.out _ H6.out).mono ?_
  first
   | guard_hyp mk_1
     rintro e w7 ⟨rfl, h7⟩
   | rintro e w7 ⟨rfl, h7, hI7⟩
  have H7 := Vw h7
  first
   | guard_hyp mk_1
     clear h7
   | have x2 := h7.x.2.2.1
     rw [hop] at x2
     have c7 := AA ((hI7 _ hgb.out (AF HI6.out)).trans HI6.out)
     clear h7 hI7
  go_wp2_with fail
  first
   | guard_hyp mk_1
     refine bodyPost_ret (results_none rfl _ _ _) rfl ?_
     exact ⟨rfl, H7.out⟩
   | refine (hev.out _ H7.out).mono ?_
     rintro e w8 ⟨rfl, h8⟩
     have H8 := Vw h8
     clear h8
     go_wp2_with fail
     refine (hnx.out _ H8.out).mono ?_
     rintro e w9 ⟨rfl, h9⟩
     have H9 := Vw h9
     clear h9
     go_wp2_with fail
     go_end0
     exact ⟨rfl, H9.out⟩
theorem Ma (T0 : Nat → Nat) (w0 : World) (L : SL) (C : CC) (m : Mach) (i : Int) (hi : AK i = true) (xb : Nat) (x : Ins) (c : Core) (s : Sys) (evs : List Ev) (ln : Int) (hw0 : 0 ≤ c.waits) (hw1 : c.waits < 16) (hl : evs.length < 900) (s' : Sys) (hr : s.flush i ln = some s') (w : World) (h : Sp T0 w0 L C m i xb x c s evs w) : Y 264 #[xb, I ln, I 4] w fun e w' => e = Z (.bool true) ∧ Sp T0 w0 L C m i xb x { c with waits := c.waits + 1 } s' (evs ++ [⟨13, i, ln, 0, 0⟩]) w' := by
 have hfl := Vw (show ∀ w, Sp T0 w0 L C m i xb x c s evs w → Y 315 #[L.sb, I i, I ln, I 4] w fun e w' => e = Z (I 0) ∧ Sp T0 w0 L C m i xb x c s' evs w' from fun w h => by
  obtain ⟨T, hsy, hb⟩ := h.sy
  exact (Lw T w L s i hi ln s' hr w hsy).mono fun e w' k => ⟨k.1, hb _ _ k.2⟩)
 have hev := Vw (fun w h => BU T0 w0 L C m i hi xb x c s' evs 13 ln 0 0 (by omega) w h)
 obtain ⟨x0, x1, _, _, _, _, _⟩ := h.x
 obtain ⟨i0, _, i12, _, _⟩ := h.id hi
 have HD := Vw h.drew
 clear h hr
 go_enter func264, ntmps264
 go_wp2_with fail
 have HS := Vw (show ∀ (s : Sys) w', Sp T0 w0 L C m i xb x c s evs w' → (fun w' => w'.cell? xb = some (.pointer (some ⟨(C.at i).cb, 0, none⟩)) ∧ w'.cell? ⟨xb, 1, none⟩ = some (.pointer (some L.sb)) ∧ w'.cell? ⟨(C.at i).cb, 0, none⟩ = some (I i) ∧ w'.cell? ⟨(C.at i).cb, 12, none⟩ = some (I c.waits)) w' from fun s w' h => ⟨h.x.1, h.x.2.1, (h.id hi).1, (h.id hi).2.2.1⟩)
 have hk0 := HS.out _ _ HD.out
 refine wp_region_held_drew (S := fun w' => w'.cell? xb = some (.pointer (some ⟨(C.at i).cb, 0, none⟩)) ∧ w'.cell? ⟨xb, 1, none⟩ = some (.pointer (some L.sb)) ∧ w'.cell? ⟨(C.at i).cb, 0, none⟩ = some (I i) ∧ w'.cell? ⟨(C.at i).cb, 12, none⟩ = some (I c.waits)) (by kernel_rfl) hk0 (fun hHeld => ?_)
 refine tk 0 7 ?_
 refine tk 1 8 ?_
 refine tk 2 9 ?_
 refine tk 3 10 ?_
 refine tk 4 11 ?_
 refine tk 5 12 ?_
 refine tk 6 13 ?_
 refine tk 7 14 (v := .bool false) ?_
 refine tk 8 15 ?_
 refine tk 9 16 ?_
 refine tk 10 17 ?_
 refine tk 11 18 ?_
 refine tk 12 19 ?_
 refine tk 13 20 ?_
 refine tk 14 21 ?_
 refine tk 15 22 ?_
 refine tk 16 23 ?_
 refine tk 17 24 ?_
 refine tk 18 25 ?_
 refine tk 19 26 ?_
 refine tk 20 27 ?_
 refine tk 21 28 ?_
 refine tc 22 fun K hK => ?_
 go_simp
 refine (hfl.out _ HD.out).mono ?_
 rintro e w2 ⟨rfl, h2⟩
 have hk2 := HS.out _ _ h2
 refine hK.out _ _ hk2 (fun hHeld => ?_)
 clear hK
 refine tk 23 30 ?_
 refine tk 24 31 ?_
 refine td ?_
 have H2 := Vw h2
 clear h2 x0 x1 i0 i12
 go_wp2_with fail
 refine (hev.out _ H2.out).mono ?_
 rintro e w3 ⟨rfl, h3⟩
 have y0 := h3.x.1
 obtain ⟨_, _, y12, _, fr⟩ := h3.id hi
 have hset := Vw ((h3.coreAt hi).set 12 (I (c.waits + 1)) (Qr _ _ _ _) (h3.coreAt hi).len rfl rfl)
 have H3 := Vw h3
 clear h3
 go_wp2_with fail
 go_ret
 exact ⟨rfl, H3.out.setCore hi ((Pres.refl _ _).setCell (p := ⟨(C.at i).cb, 12, none⟩) (by simp) _) hset.out⟩
theorem Sp.start {T0 : Nat → Nat} {w : World} {L : SL} {C : CC} {m : Mach} {i : Int} (hi : AK i = true) (h : Mc T0 w L C m w) {w1 : World} (hb : Below w w w1) {xb : Nat} (hx : w.heap.size ≤ xb) (hc : w1.heap[xb]? = some (.cells (FR (C.at i).cb L.sb ⟨0, 0, 0, 0, 0⟩ (.slice none 0 0)) 362)) : Sp T0 w L C m i xb ⟨0, 0, 0, 0, 0⟩ (m.core i) m.s [] w1 := by
 obtain ⟨T, V, a, b, c⟩ := h
 refine ⟨T, V, .slice none 0 0, by rw [Gg m hi]; exact a.below hb, b, c.trans (Pres.of_below hb), ?_, hx, hc, AH.nil _ _ _, by simp [Value.ownBlock]⟩
 by_cases h0 : T xb = 0
 · exact h0
 · exact absurd (a.sys.low xb h0) (by omega)
theorem Sp.start' {T0 : Nat → Nat} {w : World} {L : SL} {C : CC} {m : Mach} {i : Int} (hi : AK i = true) (h : Mc T0 w L C m w) {w1 : World} (hb : Below w w w1) {xb : Nat} (hx : w.heap.size ≤ xb) (hc : w1.heap[xb]? = some (.cells (FR (C.at i).cb L.sb ⟨0, 0, 0, 0, 0⟩ (.slice none 0 0)) 362)) : ∃ T, Sy T w1 L m.s w1 ∧ (∀ k, w.heap.size ≤ k → T k = 0) ∧ ∀ s' w', Sy T w1 L s' w' → Sp T0 w L C m i xb ⟨0, 0, 0, 0, 0⟩ (m.core i) s' [] w' := by
 obtain ⟨T, V, a, b, c⟩ := h
 have hz : ∀ k, w.heap.size ≤ k → T k = 0 := fun k hk => by
  by_cases h0 : T k = 0
  · exact h0
  · exact absurd (a.sys.low k h0) (by omega)
 have h1 : McAt T w1 L V C m := a.below hb
 have h3 : Ad DU T0 w w1 := c.trans (Pres.of_below hb)
 refine ⟨T, Sy.start h1.sys, hz, fun s' w' k => ?_⟩
 obtain ⟨T', V', a', b', d⟩ := h1.sy k
 have hxl := AF hc
 refine ⟨T', V', .slice none 0 0, ?_, fun k hk => (b' k (Vy hk h3.size)).trans (b k hk), DQ b h3 d (fun n hn => by simp [DU] at hn ⊢; omega), (b' xb hxl).trans (hz xb hx), hx, (d.block xb hxl (by show _ = false; rw [hz xb hx]; rfl)).trans hc, AH.nil _ _ _, by simp [Value.ownBlock]⟩
 have e : m.put i (m.core i) s' = { m with s := s' } := by rcases Aa hi with rfl | rfl <;> rfl
 rw [e]
 exact a'
theorem Sp.done {T0 : Nat → Nat} {w0 w : World} {L : SL} {C : CC} {m : Mach} {i : Int} {xb : Nat} {x : Ins} {c : Core} {s : Sys} {evs : List Ev} (h : Sp T0 w0 L C m i xb x c s evs w) : ∃ S, w.cell? ⟨xb, 7, none⟩ = some S ∧ AH w 92 5 S evs.length (AY evs) ∧ (∀ k, S.ownBlock = some k → w0.heap.size ≤ k) ∧ Mc T0 w0 L C (m.put i c s) w := by
 obtain ⟨T, V, S, h1, h2, h3, h4, h5, h6, h7, h8⟩ := h
 exact ⟨S, AD h6 7 rfl, h7, fun k hk => (h8 k hk).1, T, V, h1, h2, h3⟩
theorem Sp.setX {T0 : Nat → Nat} {w0 w : World} {L : SL} {C : CC} {m : Mach} {i : Int} {xb : Nat} {x : Ins} {c : Core} {s : Sys} {evs : List Ev} (h : Sp T0 w0 L C m i xb x c s evs w) (y : Ins) : Sp T0 w0 L C m i xb y c s evs (w.setCells xb 2 [I y.op, I y.a, I y.b, I y.c, I y.imm]) := by
 obtain ⟨T, V, S, h1, h2, h3, h4, h5, h6, h7, h8⟩ := h
 have hp : Ad (fun n => n == 0) T w (w.setCells xb 2 [I y.op, I y.a, I y.b, I y.c, I y.imm]) := Pres.setCells (g := xb) (by show ¬ ((T xb == 0) = false); rw [h4]; decide) _ (Pres.refl _ w) 2
 have hb : Below w0 w (w.setCells xb 2 [I y.op, I y.a, I y.b, I y.c, I y.imm]) := Ac h5 _ (Below.refl _ _) 2
 refine ⟨T, V, S, h1.keep hp, h2, ⟨hb.os.trans h3.os, hb.tape.trans h3.tape, hb.output.trans h3.output, Vx h3.size hb.size, fun k hk ha => (hb.block k hk).trans (h3.block k hk ha)⟩, h4, h5, AT _ h6 2 _ (by kernel_rfl), h7.kept fun k hk => ?_, h8⟩
 obtain ⟨cs', h'⟩ := h7.type k hk
 exact AR (AG h' h6 (by decide)) _ _ _
theorem PX (T0 : Nat → Nat) (L : SL) (C : CC) (m : Mach) (i : Int) (hi : AK i = true) (hq : (m.core i).buf = []) (w : World) (h : Mc T0 w L C m w) : Y 224 #[.pointer (some ⟨(C.at i).cb, 0, none⟩), L.sb] w fun r w' => ∃ S, r = Z S ∧ AH w' 92 5 S ([] : List Ev).length (AY []) ∧ (∀ k, S.ownBlock = some k → w.heap.size ≤ k) ∧ Mc T0 w L C (m) w' := by
 obtain ⟨T, V, a, b, c⟩ := id h
 have hc := a.core hi
 have hh := hc.head
 unfold BY at hh
 have c1 := AA hh
 have hbf := hc.buf
 rw [hq] at hbf
 have hhd := Vw (Sb.head_nil _ _ w hbf)
 simp only [Sb.Ent.v, Sb.Ent.zero] at hhd
 have H := Vw h
 clear h a b c hc hh hbf
 go_enter func224, ntmps224
 go_wp2_with fail
 refine hhd.out.mono ?_
 rintro r w1 ⟨rfl, hb1⟩
 have H1 := Vw (H.out.below (hb1.trans ((AC w1 (.cells #[I 0, I 0, I 0, U 0, false] 255)).mono hb1.size)))
 clear hb1
 go_wp2_with fail
 go_ret
 exact ⟨_, rfl, by simpa [AY] using AH.nil _ 92 5, by simp [Value.ownBlock], H1.out⟩
theorem cdrainX :
  (∀ (T0 : Nat → Nat) (L : SL) (C : CC) (m : Mach) (i : Int) (hi : AK i = true) (e : SE) (l : List SE) (hq : (m.core i).buf = e :: l) (hk : e.kind = 9) (s1 : Sys) (hr : m.s.store i e.line e.word e.val = some (s1, true)) (w : World) (h : Mc T0 w L C m w), Y 224 #[.pointer (some ⟨(C.at i).cb, 0, none⟩), L.sb] w fun r w' => ∃ S, r = Z S ∧ AH w' 92 5 S ([⟨3, i, e.line, e.word, e.val⟩] : List Ev).length (AY [⟨3, i, e.line, e.word, e.val⟩]) ∧ (∀ k, S.ownBlock = some k → w.heap.size ≤ k) ∧ Mc T0 w L C (m.put i { m.core i with buf := l } s1) w') ∧
  (∀ (T0 : Nat → Nat) (L : SL) (C : CC) (m : Mach) (i : Int) (hi : AK i = true) (e : SE) (l : List SE) (hq : (m.core i).buf = e :: l) (hk : e.kind = 9) (s1 : Sys) (hr : m.s.store i e.line e.word e.val = some (s1, false)) (w : World) (h : Mc T0 w L C m w), Y 224 #[.pointer (some ⟨(C.at i).cb, 0, none⟩), L.sb] w fun r w' => ∃ S, r = Z S ∧ AH w' 92 5 S ([] : List Ev).length (AY []) ∧ (∀ k, S.ownBlock = some k → w.heap.size ≤ k) ∧ Mc T0 w L C (m.put i (m.core i) s1) w') := by
 refine ⟨?m0, ?m1⟩
 case' m0 =>
  intro T0 L C m i hi e l hq hk s1 hr w h
  have mk_0 := trivial
 case' m1 =>
  intro T0 L C m i hi e l hq hk s1 hr w h
  have mk_1 := trivial
 all_goals
  first
   | guard_hyp mk_1
     have hso := Vw (fun T W w' h => Fe T W L m.s i hi e.line e.word e.val false s1 hr w' h)
   | have hso := Vw (fun T W w' h => Fe T W L m.s i hi e.line e.word e.val true s1 hr w' h)
     have hev := Vw (fun xb w' h => BU T0 w L C m i hi xb ⟨0, 0, 0, 0, 0⟩ (m.core i) s1 [] 3 e.line e.word e.val (by simp) w' h)
  clear hr
  have HX := Vw (show ∀ w1, Below w w w1 → ∃ T, Sy T ((w1.alloc (.cells #[I 9, I e.line, I e.word, e.val, false] 255)).alloc (.cells #[.pointer (some ⟨(C.at i).cb, 0, none⟩), L.sb, I 0, I 0, I 0, I 0, I 0, .slice none 0 0] 362)) L m.s ((w1.alloc (.cells #[I 9, I e.line, I e.word, e.val, false] 255)).alloc (.cells #[.pointer (some ⟨(C.at i).cb, 0, none⟩), L.sb, I 0, I 0, I 0, I 0, I 0, .slice none 0 0] 362)) ∧ (∀ k, w.heap.size ≤ k → T k = 0) ∧ (∀ s' w', Sy T ((w1.alloc (.cells #[I 9, I e.line, I e.word, e.val, false] 255)).alloc (.cells #[.pointer (some ⟨(C.at i).cb, 0, none⟩), L.sb, I 0, I 0, I 0, I 0, I 0, .slice none 0 0] 362)) L s' w' → Sp T0 w L C m i (w1.heap.size + 1) ⟨0, 0, 0, 0, 0⟩ (m.core i) s' [] w') ∧ ((w1.alloc (.cells #[I 9, I e.line, I e.word, e.val, false] 255)).alloc (.cells #[.pointer (some ⟨(C.at i).cb, 0, none⟩), L.sb, I 0, I 0, I 0, I 0, I 0, .slice none 0 0] 362)).heap[w1.heap.size]? = some (.cells #[I 9, I e.line, I e.word, e.val, false] 255) ∧ w.heap.size ≤ w1.heap.size from fun w1 hb => by
   have hA := AC w1 (.cells #[I 9, I e.line, I e.word, e.val, false] 255)
   have hB := AC (w1.alloc (.cells #[I 9, I e.line, I e.word, e.val, false] 255)) (.cells #[.pointer (some ⟨(C.at i).cb, 0, none⟩), L.sb, I 0, I 0, I 0, I 0, I 0, .slice none 0 0] 362)
   have hI := AE (w1.alloc (.cells #[I 9, I e.line, I e.word, e.val, false] 255)) (.cells #[.pointer (some ⟨(C.at i).cb, 0, none⟩), L.sb, I 0, I 0, I 0, I 0, I 0, .slice none 0 0] 362)
   rw [World.size_alloc] at hI
   obtain ⟨T, t1, t2, t3⟩ := Sp.start' hi h ((hb.trans (hA.mono hb.size)).trans (hB.mono (Vx hb.size hA.size))) (by have := hb.size; omega) hI
   exact ⟨T, t1, t2, t3, AB hB (AE w1 _), hb.size⟩)
  obtain ⟨T, V, a, b, c⟩ := id h
  have hc := a.core hi
  have hh := hc.head
  unfold BY at hh
  have c1 := AA hh
  have hbf := hc.buf
  rw [hq] at hbf
  have hhd := Vw (Sb.head_cons _ _ _ _ w hbf)
  simp only [SE.ent, Sb.Ent.v, hk] at hhd
  clear h a b c hc hh hbf T V
  have hq2 := Vw hq
  have hk2 := Vw hk
  clear hq hk
  go_enter func224, ntmps224
  go_wp2_with fail
  refine hhd.out.mono ?_
  rintro r w1 ⟨rfl, hb1⟩
  obtain ⟨T, t1, t2, t3, g2, g3⟩ := HX.out w1 hb1
  obtain ⟨W3, hE3⟩ : ∃ W, (w1.alloc (.cells #[I 9, I e.line, I e.word, e.val, false] 255)).alloc (.cells #[.pointer (some ⟨(C.at i).cb, 0, none⟩), L.sb, I 0, I 0, I 0, I 0, I 0, .slice none 0 0] 362) = W := ⟨_, rfl⟩
  rw [hE3] at t1 t3 g2
  have g1 := t3 _ _ t1
  have TT := Vw (WA t1 (WA t2 t3))
  have G1 := Vw g1
  have G2 := Vw g2
  have c2 := AA g2
  obtain ⟨i0, i11, i12, _, _⟩ := g1.id hi
  obtain ⟨x0, x1, _⟩ := g1.x
  clear g1 g2 hb1 c1 HX t1 t2 t3
  go_wp2_with fail
  have hk0 : (fun w' => w'.cell? ⟨(C.at i).cb, 0, none⟩ = some (I i) ∧ w'.cell? ⟨w1, 1, none⟩ = some (I e.line) ∧ w'.cell? ⟨w1, 2, none⟩ = some (I e.word) ∧ w'.cell? ⟨w1, 3, none⟩ = some (U e.val)) W3.drew := ⟨i0, AD G2.out 1 rfl, AD G2.out 2 rfl, AD G2.out 3 rfl⟩
  refine wp_region_held_drew (S := fun w' => w'.cell? ⟨(C.at i).cb, 0, none⟩ = some (I i) ∧ w'.cell? ⟨w1, 1, none⟩ = some (I e.line) ∧ w'.cell? ⟨w1, 2, none⟩ = some (I e.word) ∧ w'.cell? ⟨w1, 3, none⟩ = some (U e.val)) (by kernel_rfl) hk0 (fun hHeld => ?_)
  refine tk 0 56 ?_
  refine tk 1 57 ?_
  refine tk 2 58 ?_
  refine tk 3 59 ?_
  refine tk 4 60 ?_
  refine tk 5 61 ?_
  refine tk 6 62 ?_
  refine tk 7 63 ?_
  refine tk 8 64 ?_
  refine tk 9 65 ?_
  refine tk 10 66 ?_
  refine tc 11 fun K hK => ?_
  go_simp
  refine (hso.out _ _ _ (TT.out.1.drew)).mono ?_
  rintro r w4 ⟨rfl, k4⟩
  have h4 := TT.out.2.2 _ _ k4
  have hst := k4.stays (TT.out.2.1 _ g3) G2.out
  have hk4 : (fun w' => w'.cell? ⟨(C.at i).cb, 0, none⟩ = some (I i) ∧ w'.cell? ⟨w1, 1, none⟩ = some (I e.line) ∧ w'.cell? ⟨w1, 2, none⟩ = some (I e.word) ∧ w'.cell? ⟨w1, 3, none⟩ = some (U e.val)) w4 := ⟨(h4.id hi).1, AD hst 1 rfl, AD hst 2 rfl, AD hst 3 rfl⟩
  refine hK.out _ _ hk4 (fun hHeld => ?_)
  clear hK
  refine tk 12 8 ?_
  refine td ?_
  first
   | guard_hyp mk_1
     obtain ⟨S, d7, d1, d2, d3⟩ := h4.done
     have H4 := Vw (WA d1 (WA d2 d3))
     clear h4 d1 d2 d3 c2 i0 i11 i12 x0 x1
   | have H4 := Vw h4
     have hst := k4.stays (TT.out.2.1 _ g3) G2.out
     have c4 := AA hst
     clear h4 c2 i0 i11 i12 x0 x1
     go_wp2_with fail
     refine (hev.out _ _ H4.out).mono ?_
     rintro r w5 ⟨rfl, h5⟩
     have i11 := (h5.id hi).2.1
     have hpb := (h5.coreAt hi).buf
     rw [hq2.out] at hpb
     have hpop := Vw (Sb.pop_cons _ _ _ _ _ hpb)
     have H5 := Vw h5
     clear h5 hpb c4
     go_wp2_with fail
     refine hpop.out.mono ?_
     rintro r w6 ⟨rfl, hq6, hg6⟩
     obtain ⟨S, d7, d1, d2, d3⟩ := (H5.out.setBuf hi hq6 hg6).done
     have H6 := Vw (WA d1 (WA d2 d3))
     clear hq6 hg6 d1 d2 d3 i11
  go_wp2_with fail
  go_ret
  first
   | guard_hyp mk_1
     exact ⟨S, rfl, H4.out⟩
   | exact ⟨S, rfl, H6.out⟩
theorem Qv (T0 : Nat → Nat) (L : SL) (C : CC) (m : Mach) (i : Int) (hi : AK i = true) (e : SE) (l : List SE) (hq : (m.core i).buf = e :: l) (hk : e.kind = 12) (hw0 : 0 ≤ (m.core i).waits) (hw1 : (m.core i).waits < 16) (s1 : Sys) (hr : m.s.flush i e.line = some s1) (w : World) (h : Mc T0 w L C m w) : Y 224 #[.pointer (some ⟨(C.at i).cb, 0, none⟩), L.sb] w fun r w' => ∃ S, r = Z S ∧ AH w' 92 5 S ([⟨13, i, e.line, 0, 0⟩] : List Ev).length (AY [⟨13, i, e.line, 0, 0⟩]) ∧ (∀ k, S.ownBlock = some k → w.heap.size ≤ k) ∧ Mc T0 w L C (m.put i { m.core i with buf := l, waits := (m.core i).waits + 1 } s1) w' := by
 have hfl := Vw (fun xb w' h => Ma T0 w L C m i hi xb ⟨0, 0, 0, 0, 0⟩ (m.core i) m.s [] e.line hw0 hw1 (by simp) s1 hr w' h)
 clear hr
 have HX := Vw (show ∀ w1, Below w w w1 → ∃ T, Sy T ((w1.alloc (.cells #[I 12, I e.line, I e.word, e.val, false] 255)).alloc (.cells #[.pointer (some ⟨(C.at i).cb, 0, none⟩), L.sb, I 0, I 0, I 0, I 0, I 0, .slice none 0 0] 362)) L m.s ((w1.alloc (.cells #[I 12, I e.line, I e.word, e.val, false] 255)).alloc (.cells #[.pointer (some ⟨(C.at i).cb, 0, none⟩), L.sb, I 0, I 0, I 0, I 0, I 0, .slice none 0 0] 362)) ∧ (∀ k, w.heap.size ≤ k → T k = 0) ∧ (∀ s' w', Sy T ((w1.alloc (.cells #[I 12, I e.line, I e.word, e.val, false] 255)).alloc (.cells #[.pointer (some ⟨(C.at i).cb, 0, none⟩), L.sb, I 0, I 0, I 0, I 0, I 0, .slice none 0 0] 362)) L s' w' → Sp T0 w L C m i (w1.heap.size + 1) ⟨0, 0, 0, 0, 0⟩ (m.core i) s' [] w') ∧ ((w1.alloc (.cells #[I 12, I e.line, I e.word, e.val, false] 255)).alloc (.cells #[.pointer (some ⟨(C.at i).cb, 0, none⟩), L.sb, I 0, I 0, I 0, I 0, I 0, .slice none 0 0] 362)).heap[w1.heap.size]? = some (.cells #[I 12, I e.line, I e.word, e.val, false] 255) ∧ w.heap.size ≤ w1.heap.size from fun w1 hb => by
  have hA := AC w1 (.cells #[I 12, I e.line, I e.word, e.val, false] 255)
  have hB := AC (w1.alloc (.cells #[I 12, I e.line, I e.word, e.val, false] 255)) (.cells #[.pointer (some ⟨(C.at i).cb, 0, none⟩), L.sb, I 0, I 0, I 0, I 0, I 0, .slice none 0 0] 362)
  have hI := AE (w1.alloc (.cells #[I 12, I e.line, I e.word, e.val, false] 255)) (.cells #[.pointer (some ⟨(C.at i).cb, 0, none⟩), L.sb, I 0, I 0, I 0, I 0, I 0, .slice none 0 0] 362)
  rw [World.size_alloc] at hI
  obtain ⟨T, t1, t2, t3⟩ := Sp.start' hi h ((hb.trans (hA.mono hb.size)).trans (hB.mono (Vx hb.size hA.size))) (by have := hb.size; omega) hI
  exact ⟨T, t1, t2, t3, AB hB (AE w1 _), hb.size⟩)
 obtain ⟨T, V, a, b, c⟩ := id h
 have hc := a.core hi
 have hh := hc.head
 unfold BY at hh
 have c1 := AA hh
 have hbf := hc.buf
 rw [hq] at hbf
 have hhd := Vw (Sb.head_cons _ _ _ _ w hbf)
 simp only [SE.ent, Sb.Ent.v, hk] at hhd
 clear h a b c hc hh hbf T V
 have hq2 := Vw hq
 have hk2 := Vw hk
 clear hq hk
 go_enter func224, ntmps224
 go_wp2_with fail
 refine hhd.out.mono ?_
 rintro r w1 ⟨rfl, hb1⟩
 obtain ⟨T, t1, t2, t3, g2, g3⟩ := HX.out w1 hb1
 obtain ⟨W3, hE3⟩ : ∃ W, (w1.alloc (.cells #[I 12, I e.line, I e.word, e.val, false] 255)).alloc (.cells #[.pointer (some ⟨(C.at i).cb, 0, none⟩), L.sb, I 0, I 0, I 0, I 0, I 0, .slice none 0 0] 362) = W := ⟨_, rfl⟩
 rw [hE3] at t1 t3 g2
 have g1 := t3 _ _ t1
 have TT := Vw (WA t1 (WA t2 t3))
 have G1 := Vw g1
 have G2 := Vw g2
 have c2 := AA g2
 obtain ⟨i0, i11, i12, _, _⟩ := g1.id hi
 obtain ⟨x0, x1, _⟩ := g1.x
 clear g1 g2 hb1 c1 HX t1 t2 t3
 go_wp2_with fail
 refine (hfl.out _ _ G1.out).mono ?_
 rintro r w5 ⟨rfl, h5⟩
 have i11' := (h5.id hi).2.1
 have hpb := (h5.coreAt hi).buf
 simp only [hq2.out] at hpb
 have hpop := Vw (Sb.pop_cons _ _ _ _ _ hpb)
 have H5 := Vw h5
 clear h5 hpb c2 i0 i11 i12 x0 x1
 go_wp2_with fail
 refine hpop.out.mono ?_
 rintro r w6 ⟨rfl, hq6, hg6⟩
 obtain ⟨S, d7, d1, d2, d3⟩ := (H5.out.setBuf hi hq6 hg6).done
 have H6 := Vw (WA d1 (WA d2 d3))
 clear hq6 hg6 d1 d2 d3 i11'
 go_wp2_with fail
 go_ret
 exact ⟨S, rfl, H6.out⟩
theorem Md (T0 : Nat → Nat) (L : SL) (C : CC) (m : Mach) (i : Int) (hi : AK i = true) (c' : Core) (s' : Sys) (evs : List Ev) (hr : (m.core i).drain m.s i = some (c', s', evs)) (w : World) (h : Mc T0 w L C m w) : Y 224 #[.pointer (some ⟨(C.at i).cb, 0, none⟩), L.sb] w fun r w' => ∃ S, r = Z S ∧ AH w' 92 5 S (evs : List Ev).length (AY evs) ∧ (∀ k, S.ownBlock = some k → w.heap.size ≤ k) ∧ Mc T0 w L C (m.put i c' s') w' := by
 unfold Core.drain at hr
 cases hq : (m.core i).buf with
 | nil =>
   simp only [hq, Option.some.injEq, Prod.mk.injEq] at hr
   obtain ⟨rfl, rfl, rfl⟩ := hr
   rw [Gg m hi]
   exact PX T0 L C m i hi hq w h
 | cons e l =>
   simp only [hq] at hr
   split at hr
   · rename_i hk
     have hk : e.kind = 9 := by simpa using hk
     cases hs : m.s.store i e.line e.word e.val with
     | none => simp [hs] at hr
     | some r =>
       obtain ⟨s1, hit⟩ := r
       simp only [hs, Option.bind_eq_bind, Option.bind_some] at hr
       cases hit
       · simp only [Bool.false_eq_true, if_false, Option.some.injEq, Prod.mk.injEq] at hr
         obtain ⟨rfl, rfl, rfl⟩ := hr
         exact cdrainX.2 T0 L C m i hi e l hq hk s1 hs w h
       · simp only [if_true, Option.some.injEq, Prod.mk.injEq] at hr
         obtain ⟨rfl, rfl, rfl⟩ := hr
         exact cdrainX.1 T0 L C m i hi e l hq hk s1 hs w h
   · obtain ⟨hg, hr⟩ := As hr
     simp only [Bool.and_eq_true, beq_iff_eq, decide_eq_true_eq] at hg
     cases hs : m.s.flush i e.line with
     | none => simp [hs] at hr
     | some s1 =>
       simp only [hs, Option.bind_eq_bind, Option.bind_some, Option.some.injEq, Prod.mk.injEq] at hr
       obtain ⟨rfl, rfl, rfl⟩ := hr
       exact Qv T0 L C m i hi e l hq hg.1.1 hg.1.2 hg.2 s1 hs w h
end Go.Proofs.YtkoplblbeapfgaaGreatDoor
