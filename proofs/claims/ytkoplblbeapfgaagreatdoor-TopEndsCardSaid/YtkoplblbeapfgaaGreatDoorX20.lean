/-
Parts of the walk of TopEnds. Conditions stand in each statement.
-/
import Derived.Test.YtkoplblbeapfgaaGreatDoorX17
namespace Go.Proofs.YtkoplblbeapfgaaGreatDoor
open Go.RowKit
open Tryz
set_option linter.all false
set_option maxRecDepth 100000
set_option maxHeartbeats 8000000
theorem SB (T0 : Nat → Nat) (w0 : World) (L : SL) (C : CC) (m : Mach) (i : Int) (hi : AK i = true) (xb : Nat) (x : Ins) (c : Core) (s : Sys) (evs : List Ev) (h0 : 0 ≤ c.place) (h1 : c.place < 1000000) (w : World) (h : Sp T0 w0 L C m i xb x c s evs w) : Y 308 #[xb] w fun e w' => e = Z (.tuple #[]) ∧ w' = w.setCell ⟨(C.at i).cb, 9, none⟩ (I (c.place + 1)) := by
 obtain ⟨S, hx⟩ := h.cells
 have hc := h.coreAt hi
 unfold FR at hx
 have c1 := AA hx
 have hh := hc.head
 unfold BY at hh
 have c2 := AA hh
 have f2 := AJ hh
 clear h hx hc hh
 go_enter func308, ntmps308
 go_wp2_with fail
 go_end0
 exact ⟨rfl, rfl⟩
theorem Sp.next {T0 : Nat → Nat} {w0 : World} {L : SL} {C : CC} {m : Mach} {i : Int} {xb : Nat} {x : Ins} {c : Core} {s : Sys} {evs : List Ev} {w : World} (hi : AK i = true) (h : Sp T0 w0 L C m i xb x c s evs w) : Sp T0 w0 L C m i xb x c.next s evs (w.setCell ⟨(C.at i).cb, 9, none⟩ (I (c.place + 1))) := by
 have hc := h.coreAt hi
 exact h.setCore hi ((Pres.refl _ w).setCell (p := ⟨(C.at i).cb, 9, none⟩) (by simp) _) (hc.set 9 (I (c.place + 1)) (PR _ _ _ _) hc.len rfl rfl)
theorem Sp.goto {T0 : Nat → Nat} {w0 : World} {L : SL} {C : CC} {m : Mach} {i : Int} {xb : Nat} {x : Ins} {c : Core} {s : Sys} {evs : List Ev} {w : World} (hi : AK i = true) (h : Sp T0 w0 L C m i xb x c s evs w) (p : Int) : Sp T0 w0 L C m i xb x { c with place := p } s evs (w.setCell ⟨(C.at i).cb, 9, none⟩ (I p)) := by
 have hc := h.coreAt hi
 exact h.setCore hi ((Pres.refl _ w).setCell (p := ⟨(C.at i).cb, 9, none⟩) (by simp) _) (hc.set 9 (I p) (PR _ _ _ _) hc.len rfl rfl)
theorem creckonX :
  (∀ (T0 : Nat → Nat) (w0 : World) (L : SL) (C : CC) (m : Mach) (i : Int) (hi : AK i = true) (xb : Nat) (x : Ins) (c : Core) (s : Sys) (evs : List Ev) (hrb : BH x.b = true) (hra : BH x.a = true) (hrc : BH x.c = true) (h0 : 0 ≤ c.place) (h1 : c.place < 1000000) (hvb : 0 ≤ c.reg x.b ∧ c.reg x.b < 18446744073709551616) (hvc : 0 ≤ c.reg x.c ∧ c.reg x.c < 18446744073709551616) (hok : Al.doOk x.op = true) (v : Int) (hv : Al.doV x.op (c.reg x.b) (c.reg x.c) = v) (w : World) (h : Sp T0 w0 L C m i xb x c s evs w), Y 313 #[xb] w fun e w' => e = Z (.tuple #[]) ∧ Sp T0 w0 L C m i xb x ((c.next).setReg x.a v) s evs w') ∧
  (∀ (T0 : Nat → Nat) (w0 : World) (L : SL) (C : CC) (m : Mach) (i : Int) (hi : AK i = true) (xb : Nat) (x : Ins) (c : Core) (s : Sys) (evs : List Ev) (hrb : BH x.b = true) (hra : BH x.a = true) (hrc : BH x.c = true) (h0 : 0 ≤ c.place) (h1 : c.place < 1000000) (hno : x.op < 2 ∨ 7 < x.op) (g : Bool) (hg : Al.goV x.op (c.reg x.a) (c.reg x.b) = g) (w : World) (h : Sp T0 w0 L C m i xb x c s evs w), Y 313 #[xb] w fun e w' => e = Z (.tuple #[]) ∧ Sp T0 w0 L C m i xb x (if g = true then { c with place := x.imm } else c.next) s evs w') := by
 refine ⟨?m0, ?m1⟩
 case' m0 =>
  intro T0 w0 L C m i hi xb x c s evs hrb hra hrc h0 h1 hvb hvc hok v hv w h
  have mk_0 := trivial
 case' m1 =>
  intro T0 w0 L C m i hi xb x c s evs hrb hra hrc h0 h1 hno g hg w h
  have mk_1 := trivial
 all_goals
  obtain ⟨a0, a1⟩ := Ch hra
  obtain ⟨b0, b1⟩ := Ch hrb
  obtain ⟨d0, d1⟩ := Ch hrc
  obtain ⟨W1, hE, hb1, hI1⟩ := alloc_new w (.cells x 165)
  have HI1 := Vw hI1
  have H1 := Vw (h.below hb1)
  have hnx := Vw (fun w h => SB T0 w0 L C m i hi xb x c s evs h0 h1 w h)
  first
   | guard_hyp mk_1
     have hdo := Vw (fun w => Al.do_none x.op (c.reg x.b) (c.reg x.c) w hno)
     have hgo := Vw (fun w => Al.goes_any x.op (c.reg x.a) (c.reg x.b) w)
     rw [hg] at hgo
   | have hdo := Vw (fun w => Al.do_any x.op (c.reg x.b) (c.reg x.c) w hvb hvc)
  obtain ⟨q0, _, q2, q3, q4, q5, q6⟩ := h.x
  have c1 := AA hI1
  have f1 := AJ hI1
  have hltx := World.block_lt_of_cell? (w := w) (a := xb) q0
  simp only at hltx
  have HS0 := Vw (show ∀ w' : World, Sp T0 w0 L C m i xb x c s evs w' → w'.cell? xb = some (.pointer (some ⟨(C.at i).cb, 0, none⟩)) ∧ w'.cell? ⟨xb, 2, none⟩ = some (I x.op) ∧ w'.cell? ⟨xb, 3, none⟩ = some (I x.a) ∧ w'.cell? ⟨xb, 4, none⟩ = some (I x.b) ∧ w'.cell? ⟨xb, 5, none⟩ = some (I x.c) ∧ w'.cell? ⟨xb, 6, none⟩ = some (I x.imm) from fun w' h => ⟨h.x.1, h.x.2.2.1, h.x.2.2.2.1, h.x.2.2.2.2.1, h.x.2.2.2.2.2.1, h.x.2.2.2.2.2.2⟩)
  have hk0 : Sp T0 w0 L C m i xb x c s evs w.drew := h.drew
  have hk1 : Sp T0 w0 L C m i xb x c s evs W1.drew := H1.out.drew
  have H := Vw h
  clear h hb1 hI1
  go_enter func313, ntmps313
  go_wp2_with fail
  have hk2 : Sp T0 w0 L C m i xb x c s evs ((w.alloc (.cells #[I 0, I 0, I 0, I 0, I 0] 165)).drew) := (H.out.below (AC w _)).drew
  go_region_held3 (fun w' => w'.cell? xb = some (.pointer (some ⟨(C.at i).cb, 0, none⟩)) ∧ w'.cell? ⟨xb, 2, none⟩ = some (I x.op) ∧ w'.cell? ⟨xb, 3, none⟩ = some (I x.a) ∧ w'.cell? ⟨xb, 4, none⟩ = some (I x.b) ∧ w'.cell? ⟨xb, 5, none⟩ = some (I x.c) ∧ w'.cell? ⟨xb, 6, none⟩ = some (I x.imm)) (first | with_reducible exact HS0.out _ hk0 | with_reducible exact HS0.out _ hk2 | with_reducible exact HS0.out _ hk1) (fail)
  have H2 := Vw hk1
  have HI2 := Vw (show W1.drew.heap[w.heap.size]? = _ from HI1.out)
  have hcb : (C.at i).cb < w.heap.size := AF (H.out.coreAt hi).head
  have hncb := Nat.ne_of_gt hcb
  clear hk0 hk1 hk2 hE c1 f1 q0 q2 q3 q4 q5 q6 hltx
  generalize W1.drew = W2 at *
  go_wp2_with fail
  refine (hnx.out _ H2.out).mono ?_
  rintro e w3 ⟨rfl, rfl⟩
  have H3 := Vw (H2.out.next hi)
  have HI3 := Vw ((Vz W2 ⟨(C.at i).cb, 9, none⟩ (I (c.place + 1)) w.heap.size hncb).trans HI2.out)
  generalize W2.setCell ⟨(C.at i).cb, 9, none⟩ (I (c.place + 1)) = W3 at *
  have HS2 := Vw (show ∀ w' : World, Sp T0 w0 L C m i xb x c.next s evs w' → w'.heap[w.heap.size]? = some (.cells x 165) → w'.cell? w = some (I x.op) ∧ w'.cell? ⟨w, 2, none⟩ = some (I x.b) ∧ w'.cell? ⟨w, 3, none⟩ = some (I x.c) ∧ w'.cell? ⟨(C.at i).cb, 1 + x.b.toNat, none⟩ = some (U (c.reg x.b)) ∧ w'.cell? ⟨(C.at i).cb, 1 + x.c.toNat, none⟩ = some (U (c.reg x.c)) from fun w' h hI => ⟨AD hI 0 rfl, AD hI 2 rfl, AD hI 3 rfl, (h.coreAt hi).reg hrb, (h.coreAt hi).reg hrc⟩)
  have hk3 := HS2.out _ H3.out.drew HI3.out
  obtain ⟨p0, p2, p3, pb, pc⟩ := HS2.out _ H3.out HI3.out
  go_wp2_with fail
  go_region_held3 (fun w' => w'.cell? w = some (I x.op) ∧ w'.cell? ⟨w, 2, none⟩ = some (I x.b) ∧ w'.cell? ⟨w, 3, none⟩ = some (I x.c) ∧ w'.cell? ⟨(C.at i).cb, 1 + x.b.toNat, none⟩ = some (U (c.reg x.b)) ∧ w'.cell? ⟨(C.at i).cb, 1 + x.c.toNat, none⟩ = some (U (c.reg x.c))) (first | with_reducible exact hk3 | with_reducible exact HS2.out _ hk4 hI4) (first | (go_at_call 370; refine (hdo.out _).mono ?_; rintro e w4 ⟨rfl, hmk⟩; have hk4 := H3.out.drew.below hmk.1; have hI4 := AB hmk.1 (show W3.drew.heap[w.heap.size]? = _ from HI3.out)))
  have H4 := Vw hk4
  have HI4 := Vw hI4
  clear hk3 hk4 hmk p0 p2 p3 pb pc
  first
   | guard_hyp mk_1
     have y0 : w4.cell? w = I x.op := AD hI4 0 rfl
   | skip
  have y1 : w4.cell? ⟨w, 1, none⟩ = I x.a := AD hI4 1 rfl
  first
   | guard_hyp mk_1
     have y2 : w4.cell? ⟨w, 2, none⟩ = I x.b := AD hI4 2 rfl
     have ya := (H4.out.coreAt hi).reg hra
     have yb := (H4.out.coreAt hi).reg hrb
   | have yr := (H4.out.coreAt hi).reg hra
     have fr := (H4.out.id hi).2.2.2.2
  clear hI4
  go_wp2_with fail
  first
   | guard_hyp mk_1
     go_quiet (first | (go_at_call 371; refine (hgo.out _).mono ?_; rintro r w1 ⟨rfl, rfl⟩; exact ⟨rfl, _, rfl⟩))
     cases g
     · go_wp2_with fail
       go_end0
       exact ⟨rfl, H4.out.below ⟨rfl, rfl, rfl, Nat.le_refl _, fun _ _ => rfl⟩⟩
     · have H5 := Vw (show Sp T0 w0 L C m i xb x c.next s evs (w4.drewN nq) from H4.out.below ⟨rfl, rfl, rfl, Nat.le_refl _, fun _ _ => rfl⟩)
       have HI5 := Vw (show (w4.drewN nq).heap[w.heap.size]? = _ from HI4.out)
       generalize w4.drewN nq = W5 at *
       have z4 : W5.cell? ⟨w, 4, none⟩ = I x.imm := AD HI5.out 4 rfl
       have z0 := H5.out.x.1
       have z9 : W5.cell? ⟨(C.at i).cb, 9, none⟩ = I c.next.place := AD (H5.out.coreAt hi).head 9 rfl
       have zf := (H5.out.id hi).2.2.2.2
       clear y0 y1 y2 ya yb
       go_wp2_with fail
       go_still_tail 8, (by kernel_rfl)
       change wpList _ _ _ _ _ W5.drew
       go_wp2_with fail
       go_end0
       exact ⟨rfl, (H5.out.goto hi x.imm).drew⟩
   | go_still_tail 6, (by kernel_rfl)
     change wpList _ _ _ _ _ w4.drew
     go_wp2_with fail
     go_end0
     exact ⟨rfl, (H4.out.setReg hi hra v).drew⟩
theorem clockedX :
  (∀ (T0 : Nat → Nat) (w0 : World) (L : SL) (C : CC) (m : Mach) (i : Int) (hi : AK i = true) (xb : Nat) (x : Ins) (c : Core) (s : Sys) (evs : List Ev) (hrb : BH x.b = true) (ha : Cv (AL c x) = true) (hs : c.still = false) (w : World) (h : Sp T0 w0 L C m i xb x c s evs w), Y 312 #[xb] w fun e w' => e = Z (.tuple #[]) ∧ Sp T0 w0 L C m i xb x c s evs w') ∧
  (∀ (T0 : Nat → Nat) (w0 : World) (L : SL) (C : CC) (m : Mach) (i : Int) (hi : AK i = true) (xb : Nat) (x : Ins) (c : Core) (s : Sys) (evs : List Ev) (hrb : BH x.b = true) (ha : Cv (AL c x) = true) (hs : c.still = true) (s1 : Sys) (hr : s.reach i (AL c x / 64) = some (s1, false)) (w : World) (h : Sp T0 w0 L C m i xb x c s evs w), Y 312 #[xb] w fun e w' => e = Z (.tuple #[]) ∧ Sp T0 w0 L C m i xb x c s1 evs w') ∧
  (∀ (T0 : Nat → Nat) (w0 : World) (L : SL) (C : CC) (m : Mach) (i : Int) (hi : AK i = true) (xb : Nat) (x : Ins) (c : Core) (s : Sys) (evs : List Ev) (hrb : BH x.b = true) (hra : BH x.a = true) (hrc : BH x.c = true) (hop : x.op = 10) (ha : Cv (AL c x) = true) (h0 : 0 ≤ c.place) (h1 : c.place < 1000000) (hl : evs.length < 900) (hs : c.still = true) (s1 s2 s3 : Sys) (old : Int) (hr : s.reach i (AL c x / 64) = some (s1, true)) (hld : s1.load i (AL c x / 64) (AL c x % 64 / 8) = some (s2, old, true)) (heq : (old == c.reg x.a) = false) (w : World) (h : Sp T0 w0 L C m i xb x c s evs w), Y 312 #[xb] w fun e w' => e = Z (.tuple #[]) ∧ Sp T0 w0 L C m i xb x (c.setReg x.a old).next s2 (evs ++ [⟨4, i, AL c x / 64, AL c x % 64 / 8, old⟩]) w') ∧
  (∀ (T0 : Nat → Nat) (w0 : World) (L : SL) (C : CC) (m : Mach) (i : Int) (hi : AK i = true) (xb : Nat) (x : Ins) (c : Core) (s : Sys) (evs : List Ev) (hrb : BH x.b = true) (hra : BH x.a = true) (hrc : BH x.c = true) (hop : x.op = 10) (ha : Cv (AL c x) = true) (h0 : 0 ≤ c.place) (h1 : c.place < 1000000) (hl : evs.length < 900) (hs : c.still = true) (s1 s2 s3 : Sys) (old : Int) (hr : s.reach i (AL c x / 64) = some (s1, true)) (hld : s1.load i (AL c x / 64) (AL c x % 64 / 8) = some (s2, old, true)) (heq : (old == c.reg x.a) = true) (hit : Bool) (hsto : s2.store i (AL c x / 64) (AL c x % 64 / 8) (c.reg x.c) = some (s3, hit)) (w : World) (h : Sp T0 w0 L C m i xb x c s evs w), Y 312 #[xb] w fun e w' => e = Z (.tuple #[]) ∧ Sp T0 w0 L C m i xb x (c.setReg x.a old).next s3 (evs ++ [⟨4, i, AL c x / 64, AL c x % 64 / 8, old⟩] ++ [⟨3, i, AL c x / 64, AL c x % 64 / 8, c.reg x.c⟩]) w') := by
 refine ⟨?m0, ?m1, ?m2, ?m3⟩
 case' m0 =>
  intro T0 w0 L C m i hi xb x c s evs hrb ha hs w h
  have mk_0 := trivial
 case' m1 =>
  intro T0 w0 L C m i hi xb x c s evs hrb ha hs s1 hr w h
  have mk_1 := trivial
 case' m2 =>
  intro T0 w0 L C m i hi xb x c s evs hrb hra hrc hop ha h0 h1 hl hs s1 s2 s3 old hr hld heq w h
  have mk_2 := trivial
 case' m3 =>
  intro T0 w0 L C m i hi xb x c s evs hrb hra hrc hop ha h0 h1 hl hs s1 s2 s3 old hr hld heq hit hsto w h
  have mk_3 := trivial
 all_goals
  have hat := Vw (fun w h => Fz T0 w0 L C m i hi xb x c s evs hrb ha w h)
  have hst := Vw (fun w h => Fn T0 w0 L C m i hi xb x c s evs w h)
  rw [hs] at hst
  first
   | guard_hyp mk_1
     have hre := Vw (show ∀ w, Sp T0 w0 L C m i xb x c s evs w → Y 369 #[L.sb, I i, I (AL c x / 64)] w fun e w' => e = Z (.bool false) ∧ Sp T0 w0 L C m i xb x c s1 evs w' from fun w h => by
      obtain ⟨T, hsy, hb⟩ := h.sy
      exact (Fg T w L s i hi _ false s1 hr w hsy).mono fun e w' k => ⟨k.1, hb _ _ k.2⟩)
   | guard_hyp mk_2
     have hre := Vw (show ∀ w, Sp T0 w0 L C m i xb x c s evs w → Y 369 #[L.sb, I i, I (AL c x / 64)] w fun e w' => e = Z (.bool true) ∧ Sp T0 w0 L C m i xb x c s1 evs w' from fun w h => by
      obtain ⟨T, hsy, hb⟩ := h.sy
      exact (Fg T w L s i hi _ true s1 hr w hsy).mono fun e w' k => ⟨k.1, hb _ _ k.2⟩)
     have hlo := Vw (show ∀ w, Sp T0 w0 L C m i xb x c s1 evs w → Y 366 #[L.sb, I i, I (AL c x / 64), I (AL c x % 64 / 8)] w fun e w' => e = Z (.tuple #[old, true]) ∧ Sp T0 w0 L C m i xb x c s2 evs w' from fun w h => by
      obtain ⟨T, hsy, hb⟩ := h.sy
      exact (FF T w L s1 i hi _ _ old true s2 hld w hsy).mono fun e w' k => ⟨k.1, hb _ _ k.2⟩)
     have hev := Vw (fun w h => BU T0 w0 L C m i hi xb x c s2 evs 4 (AL c x / 64) (AL c x % 64 / 8) old (by omega) w h)
     have hnx := Vw (fun w h => CK T0 w0 L C m i hi xb x (c.setReg x.a old) s2 (evs ++ [⟨4, i, AL c x / 64, AL c x % 64 / 8, old⟩]) h0 h1 w h)
     have HS := Vw (show ∀ (s : Sys) (evs : List Ev) (w' : World), Sp T0 w0 L C m i xb x c s evs w' → w'.cell? xb = some (.pointer (some ⟨(C.at i).cb, 0, none⟩)) ∧ w'.cell? ⟨xb, 1, none⟩ = some (.pointer (some L.sb)) ∧ w'.cell? ⟨(C.at i).cb, 0, none⟩ = some (I i) from fun s evs w' h => ⟨h.x.1, h.x.2.1, (h.id hi).1⟩)
   | guard_hyp mk_3
     have hre := Vw (show ∀ w, Sp T0 w0 L C m i xb x c s evs w → Y 369 #[L.sb, I i, I (AL c x / 64)] w fun e w' => e = Z (.bool true) ∧ Sp T0 w0 L C m i xb x c s1 evs w' from fun w h => by
      obtain ⟨T, hsy, hb⟩ := h.sy
      exact (Fg T w L s i hi _ true s1 hr w hsy).mono fun e w' k => ⟨k.1, hb _ _ k.2⟩)
     have hlo := Vw (show ∀ w, Sp T0 w0 L C m i xb x c s1 evs w → Y 366 #[L.sb, I i, I (AL c x / 64), I (AL c x % 64 / 8)] w fun e w' => e = Z (.tuple #[old, true]) ∧ Sp T0 w0 L C m i xb x c s2 evs w' from fun w h => by
      obtain ⟨T, hsy, hb⟩ := h.sy
      exact (FF T w L s1 i hi _ _ old true s2 hld w hsy).mono fun e w' k => ⟨k.1, hb _ _ k.2⟩)
     have hev := Vw (fun w h => BU T0 w0 L C m i hi xb x c s2 evs 4 (AL c x / 64) (AL c x % 64 / 8) old (by omega) w h)
     have hso := Vw (show ∀ w, Sp T0 w0 L C m i xb x c s2 (evs ++ [⟨4, i, AL c x / 64, AL c x % 64 / 8, old⟩]) w → Y 262 #[L.sb, I i, I (AL c x / 64), I (AL c x % 64 / 8), U (c.reg x.c)] w fun e w' => e = Z (.bool hit) ∧ Sp T0 w0 L C m i xb x c s3 (evs ++ [⟨4, i, AL c x / 64, AL c x % 64 / 8, old⟩]) w' from fun w h => by
      obtain ⟨T, hsy, hb⟩ := h.sy
      exact (Fe T w L s2 i hi _ _ _ hit s3 hsto w hsy).mono fun e w' k => ⟨k.1, hb _ _ k.2⟩)
     have hev2 := Vw (fun w h => BU T0 w0 L C m i hi xb x c s3 (evs ++ [⟨4, i, AL c x / 64, AL c x % 64 / 8, old⟩]) 3 (AL c x / 64) (AL c x % 64 / 8) (c.reg x.c) (by rw [List.length_append]; simp; omega) w h)
     have hnx := Vw (fun w h => CK T0 w0 L C m i hi xb x (c.setReg x.a old) s3 ((evs ++ [⟨4, i, AL c x / 64, AL c x % 64 / 8, old⟩]) ++ [⟨3, i, AL c x / 64, AL c x % 64 / 8, c.reg x.c⟩]) h0 h1 w h)
     have HS := Vw (show ∀ (s : Sys) (evs : List Ev) (w' : World), Sp T0 w0 L C m i xb x c s evs w' → w'.cell? xb = some (.pointer (some ⟨(C.at i).cb, 0, none⟩)) ∧ w'.cell? ⟨xb, 1, none⟩ = some (.pointer (some L.sb)) ∧ w'.cell? ⟨(C.at i).cb, 0, none⟩ = some (I i) from fun s evs w' h => ⟨h.x.1, h.x.2.1, (h.id hi).1⟩)
   | skip
  have H := Vw h
  first
   | guard_hyp mk_1
     clear h hr
   | guard_hyp mk_2
     clear h hr hld ha
   | guard_hyp mk_3
     clear h hr hld ha hsto
   | clear h
  generalize AL c x / 64 = ln at *
  generalize AL c x % 64 / 8 = wd at *
  first
   | guard_hyp mk_0
   | guard_hyp mk_1
   | obtain ⟨a0, a1⟩ := Ch hra
     obtain ⟨d0, d1⟩ := Ch hrc
  go_enter func312, ntmps312
  go_wp2_with fail
  refine (hat.out _ H.out).mono ?_
  rintro e w1 ⟨rfl, h1⟩
  have H1 := Vw h1
  have HD := Vw h1.drew
  have x0 := h1.x.1
  have x1 := h1.x.2.1
  have xi := (h1.id hi).1
  clear h1
  go_wp2_with fail
  first
   | guard_hyp mk_2
   | guard_hyp mk_3
   | have HS := Vw (show ∀ (s : Sys) (evs : List Ev) (w' : World), Sp T0 w0 L C m i xb x c s evs w' → (fun w' => w'.cell? xb = some (.pointer (some ⟨(C.at i).cb, 0, none⟩)) ∧ w'.cell? ⟨xb, 1, none⟩ = some (.pointer (some L.sb)) ∧ w'.cell? ⟨(C.at i).cb, 0, none⟩ = some (I i)) w' from fun s evs w' h => ⟨h.x.1, h.x.2.1, (h.id hi).1⟩)
  have hk0 := HS.out _ _ _ HD.out
  refine wp_region_held_drew (S := fun w' => w'.cell? xb = some (.pointer (some ⟨(C.at i).cb, 0, none⟩)) ∧ w'.cell? ⟨xb, 1, none⟩ = some (.pointer (some L.sb)) ∧ w'.cell? ⟨(C.at i).cb, 0, none⟩ = some (I i)) (by kernel_rfl) hk0 (fun hHeld => ?_)
  refine tk 0 15 ?_
  refine tk 1 16 ?_
  refine tk 2 17 ?_
  refine tk 3 18 ?_
  refine tc 4 fun K hK => ?_
  go_simp
  refine (hst.out _ HD.out).mono ?_
  rintro r w3 ⟨rfl, rfl⟩
  refine hK.out _ _ hk0 (fun hHeld => ?_)
  clear hK
  refine tk 5 20 ?_
  refine tk 6 21 ?_
  refine tk 7 22 ?_
  first
   | guard_hyp mk_0
     refine ts 8 23 ?_
     refine ts 9 24 ?_
     refine ts 10 25 ?_
     refine ts 11 26 ?_
     refine ts 12 27 ?_
     refine ts 13 28 ?_
     refine ts 14 29 ?_
     refine ts 15 30 ?_
     refine ts 16 31 ?_
     refine ts 17 32 ?_
     refine ts 18 33 ?_
     refine ts 19 34 ?_
     refine ts 20 35 ?_
     refine ts 21 36 ?_
   | refine tk 8 23 ?_
     refine tk 9 24 ?_
     refine tk 10 25 ?_
     refine tk 11 26 ?_
     refine tk 12 27 ?_
     refine tk 13 28 ?_
     refine tk 14 29 ?_
     refine tk 15 30 ?_
     refine tk 16 31 ?_
     refine tk 17 32 ?_
     refine tk 18 33 ?_
     refine tk 19 34 ?_
     refine tc 20 fun K hK => ?_
     go_simp
     refine (hre.out _ HD.out).mono ?_
     rintro r w3 ⟨rfl, h3⟩
     have hk3 := HS.out _ _ _ h3
     refine hK.out _ _ hk3 (fun hHeld => ?_)
     clear hK
     refine tk 21 36 ?_
  refine tk 22 37 ?_
  refine td ?_
  first
   | guard_hyp mk_0
   | guard_hyp mk_1
     have H3 := Vw h3
     clear h3 hk0 hk3
   | have H3 := Vw h3
     have HD3 := Vw h3.drew
     have hq0 := HS.out _ _ _ HD3.out
     clear h3 x0 x1 xi hk0 hk3
  go_wp2_with fail
  first
   | guard_hyp mk_1
     refine bodyPost_ret (results_none rfl _ _ _) rfl ?_
     exact ⟨rfl, H3.out⟩
   | guard_hyp mk_2
     refine wp_region_held_drew (S := fun w' => w'.cell? xb = some (.pointer (some ⟨(C.at i).cb, 0, none⟩)) ∧ w'.cell? ⟨xb, 1, none⟩ = some (.pointer (some L.sb)) ∧ w'.cell? ⟨(C.at i).cb, 0, none⟩ = some (I i)) (by kernel_rfl) hq0 (fun hHeld => ?_)
     refine tk 0 39 ?_
     refine tk 1 40 ?_
     refine tk 2 41 ?_
     refine tk 3 42 ?_
     refine tk 4 43 ?_
     refine tk 5 44 ?_
     refine tk 6 45 ?_
     refine tk 7 46 ?_
     refine tk 8 47 ?_
     refine tk 9 48 ?_
     refine tk 10 49 ?_
     refine tk 11 50 ?_
     refine tk 12 51 ?_
     refine tc 13 fun K hK => ?_
     go_simp
     refine (hlo.out _ HD3.out).mono ?_
     rintro r w4 ⟨rfl, h4⟩
     have hk6 := HS.out _ _ _ h4
     refine hK.out _ _ hk6 (fun hHeld => ?_)
     clear hK
     refine tk 14 38 ?_
     refine tk 15 53 ?_
     refine tk 16 54 ?_
     refine tk 17 5 ?_
     refine tk 18 6 ?_
     refine td ?_
     have H4 := Vw h4
     clear h4 hk6 hq0
     go_wp2_with fail
     refine (hev.out _ H4.out).mono ?_
     rintro e w5 ⟨rfl, h5⟩
     have H5 := Vw h5
     obtain ⟨x0, x1, x2, x3, _, x5, _⟩ := h5.x
     have xa := (h5.coreAt hi).reg hra
     have xc := (h5.coreAt hi).reg hrc
     rw [hop] at x2
     clear h5
     go_wp2_with fail
     go_quiet (fail)
     have H6 := Vw (show Sp T0 w0 L C m i xb x c s2 (evs ++ [⟨4, i, ln, wd, old⟩]) (w5.drewN nq) from H5.out.below ⟨rfl, rfl, rfl, Nat.le_refl _, fun _ _ => rfl⟩)
     generalize w5.drewN nq = W6 at *
     have z2 := H6.out.x.2.2.1
     rw [hop] at z2
     clear x0 x1 x2 x3 x5 xa xc
     obtain ⟨x0, _, _, x3, _, _, _⟩ := H6.out.x
     have xr := (H6.out.coreAt hi).reg hra
     have f4 := (H6.out.id hi).2.2.2.2
     go_wp2_with fail
     go_still_tail 13, (by kernel_rfl)
     change wpList _ _ _ _ _ W6.drew
     go_wp2_with fail
     refine (hnx.out _ (H6.out.setReg hi hra old).drew).mono ?_
     rintro e w9 ⟨rfl, h9⟩
     have H9 := Vw h9
     clear h9
     go_wp2_with fail
     go_end0
     exact ⟨rfl, H9.out⟩
   | guard_hyp mk_3
     refine wp_region_held_drew (S := fun w' => w'.cell? xb = some (.pointer (some ⟨(C.at i).cb, 0, none⟩)) ∧ w'.cell? ⟨xb, 1, none⟩ = some (.pointer (some L.sb)) ∧ w'.cell? ⟨(C.at i).cb, 0, none⟩ = some (I i)) (by kernel_rfl) hq0 (fun hHeld => ?_)
     refine tk 0 39 ?_
     refine tk 1 40 ?_
     refine tk 2 41 ?_
     refine tk 3 42 ?_
     refine tk 4 43 ?_
     refine tk 5 44 ?_
     refine tk 6 45 ?_
     refine tk 7 46 ?_
     refine tk 8 47 ?_
     refine tk 9 48 ?_
     refine tk 10 49 ?_
     refine tk 11 50 ?_
     refine tk 12 51 ?_
     refine tc 13 fun K hK => ?_
     go_simp
     refine (hlo.out _ HD3.out).mono ?_
     rintro r w4 ⟨rfl, h4⟩
     have hk6 := HS.out _ _ _ h4
     refine hK.out _ _ hk6 (fun hHeld => ?_)
     clear hK
     refine tk 14 38 ?_
     refine tk 15 53 ?_
     refine tk 16 54 ?_
     refine tk 17 5 ?_
     refine tk 18 6 ?_
     refine td ?_
     have H4 := Vw h4
     clear h4 hk6 hq0
     go_wp2_with fail
     refine (hev.out _ H4.out).mono ?_
     rintro e w5 ⟨rfl, h5⟩
     have H5 := Vw h5
     obtain ⟨x0, x1, x2, x3, _, x5, _⟩ := h5.x
     have xa := (h5.coreAt hi).reg hra
     have xc := (h5.coreAt hi).reg hrc
     rw [hop] at x2
     clear h5
     go_wp2_with fail
     go_quiet (fail)
     have H6 := Vw (show Sp T0 w0 L C m i xb x c s2 (evs ++ [⟨4, i, ln, wd, old⟩]) (w5.drewN nq) from H5.out.below ⟨rfl, rfl, rfl, Nat.le_refl _, fun _ _ => rfl⟩)
     generalize w5.drewN nq = W6 at *
     have z2 := H6.out.x.2.2.1
     rw [hop] at z2
     clear x0 x1 x2 x3 x5 xa xc
     have HD6 := Vw H6.out.drew
     have hr0 := HS.out _ _ _ HD6.out
     go_wp2_with fail
     refine wp_region_held_drew (S := fun w' => w'.cell? xb = some (.pointer (some ⟨(C.at i).cb, 0, none⟩)) ∧ w'.cell? ⟨xb, 1, none⟩ = some (.pointer (some L.sb)) ∧ w'.cell? ⟨(C.at i).cb, 0, none⟩ = some (I i)) (by kernel_rfl) hr0 (fun hHeld => ?_)
     refine tk 0 98 ?_
     refine tk 1 99 ?_
     refine tk 2 100 ?_
     refine tk 3 101 ?_
     refine tk 4 102 ?_
     refine tk 5 103 ?_
     refine tk 6 104 ?_
     refine tk 7 105 ?_
     refine tk 8 106 ?_
     refine tk 9 107 ?_
     refine tk 10 108 ?_
     refine tk 11 109 ?_
     refine tk 12 110 ?_
     refine tk 13 111 ?_
     refine tc 14 fun K hK => ?_
     go_simp
     refine (hso.out _ HD6.out).mono ?_
     rintro r w7 ⟨rfl, h7⟩
     have hk7 := HS.out _ _ _ h7
     refine hK.out _ _ hk7 (fun hHeld => ?_)
     clear hK
     refine td ?_
     have H7 := Vw h7
     clear h7 hk7 hr0 z2
     go_wp2_with fail
     refine (hev2.out _ H7.out).mono ?_
     rintro e w8 ⟨rfl, h8⟩
     have H8 := Vw h8
     clear h8
     obtain ⟨x0, _, _, x3, _, _, _⟩ := H8.out.x
     have xr := (H8.out.coreAt hi).reg hra
     have f4 := (H8.out.id hi).2.2.2.2
     go_wp2_with fail
     go_still_tail 13, (by kernel_rfl)
     change wpList _ _ _ _ _ w8.drew
     go_wp2_with fail
     refine (hnx.out _ (H8.out.setReg hi hra old).drew).mono ?_
     rintro e w9 ⟨rfl, h9⟩
     have H9 := Vw h9
     clear h9
     go_wp2_with fail
     go_end0
     exact ⟨rfl, H9.out⟩
   | refine bodyPost_ret (results_none rfl _ _ _) rfl ?_
     exact ⟨rfl, HD.out⟩
end Go.Proofs.YtkoplblbeapfgaaGreatDoor
