/-
Parts of the walk of TopEnds. Conditions stand in each statement.
-/
import Derived.Test.YtkoplblbeapfgaaGreatDoorX45
import Derived.Test.YtkoplblbeapfgaaGreatDoorX12
namespace Go.Proofs.YtkoplblbeapfgaaGreatDoor
open Go.RowKit
open Tryz
set_option linter.all false
set_option maxRecDepth 100000
set_option maxHeartbeats 8000000
theorem Jd (T0 : Nat → Nat) (w0 : World) (L : SL) (s : Sys) (w : World) (h : Sy T0 w0 L s w) : Y 40 #[L.sb] w fun e w' => e = Z Dv ∧ Below w w w' := by
 obtain ⟨T, V, h, _, _⟩ := h
 have hs := h.sys
 unfold JA at hs
 have c := AA hs
 obtain ⟨W1, hE, hb, hI⟩ := alloc_new w (.cells #[I 0, I 0, I 0, I 0, I 0, I 0, I 0] 23)
 have c0 := AA (AB hb hs)
 have c1 := AA hI
 have f1 := AJ hI
 clear hs h c
 go_enter func40, ntmps40
 go_wp2_with fail
 generalize hW : World.setCell _ ⟨w, 6, none⟩ _ = W5
 have hx : W5.heap[w.heap.size]? = some (.cells KE 23) := by rw [← hW]; exact AT [I 2, I 5, I 1, I 1, I 2, I 2, I 2] hI 0 _ (by kernel_rfl)
 have hb5 : Below w w W5 := by rw [← hW]; exact Ac (Nat.le_refl _) [I 2, I 5, I 1, I 1, I 2, I 2, I 2] hb 0
 clear hW c0 c1 f1
 have c5 := AA hx
 refine bodyPost_ret (v := Dv) (by simp [results, results40, go_sem, c5, Dv]) rfl ⟨rfl, hb5⟩
theorem Lx (T0 : Nat → Nat) (w0 : World) (L : SL) (s : Sys) (line : Int) (hk : BQ line = true) (w : World) (h : Sy T0 w0 L s w) : Y 41 #[L.sb, I line] w fun e w' => e = Z (.agg (s.ent line).cells.toArray) ∧ Below w w w' := by
 obtain ⟨W1, hE, hb, hI⟩ := alloc_new w (.cells KC 114)
 have h1 := h.below hb
 obtain ⟨c8, c9⟩ := h1.dirp
 have e0 : W1.cell? ⟨L.db, line.toNat * 15, none⟩ = some (.bool (s.ent line).here) := h1.ent_cell hk 0 _ rfl
 have e1 : W1.cell? ⟨L.db, line.toNat * 15 + 1, none⟩ = some (.bool (s.ent line).dirty) := h1.ent_cell hk 1 _ rfl
 have e2 : W1.cell? ⟨L.db, line.toNat * 15 + 2, none⟩ = some (U (s.ent line).data.a) := h1.ent_cell hk 2 _ rfl
 have e3 : W1.cell? ⟨L.db, line.toNat * 15 + 3, none⟩ = some (U (s.ent line).data.b) := h1.ent_cell hk 3 _ rfl
 have e4 : W1.cell? ⟨L.db, line.toNat * 15 + 4, none⟩ = some (U (s.ent line).data.c) := h1.ent_cell hk 4 _ rfl
 have e5 : W1.cell? ⟨L.db, line.toNat * 15 + 5, none⟩ = some (U (s.ent line).data.d) := h1.ent_cell hk 5 _ rfl
 have e6 : W1.cell? ⟨L.db, line.toNat * 15 + 6, none⟩ = some (U (s.ent line).data.e) := h1.ent_cell hk 6 _ rfl
 have e7 : W1.cell? ⟨L.db, line.toNat * 15 + 7, none⟩ = some (U (s.ent line).data.f) := h1.ent_cell hk 7 _ rfl
 have e8 : W1.cell? ⟨L.db, line.toNat * 15 + 8, none⟩ = some (U (s.ent line).data.g) := h1.ent_cell hk 8 _ rfl
 have e9 : W1.cell? ⟨L.db, line.toNat * 15 + 9, none⟩ = some (U (s.ent line).data.h) := h1.ent_cell hk 9 _ rfl
 have e10 : W1.cell? ⟨L.db, line.toNat * 15 + 10, none⟩ = some (I (s.ent line).owner) := h1.ent_cell hk 10 _ rfl
 have e11 : W1.cell? ⟨L.db, line.toNat * 15 + 11, none⟩ = some (.int .u8 (s.ent line).share) := h1.ent_cell hk 11 _ rfl
 have e12 : W1.cell? ⟨L.db, line.toNat * 15 + 12, none⟩ = some (I (s.ent line).busy) := h1.ent_cell hk 12 _ rfl
 have e13 : W1.cell? ⟨L.db, line.toNat * 15 + 13, none⟩ = some (I (s.ent line).who) := h1.ent_cell hk 13 _ rfl
 have e14 : W1.cell? ⟨L.db, line.toNat * 15 + 14, none⟩ = some (.int .u8 (s.ent line).wait) := h1.ent_cell hk 14 _ rfl
 obtain ⟨k0, k1⟩ := BD hk
 have hln := Vw (Cd T0 w0 L s line hk W1 h1)
 have f1 := AJ hI
 have c1 := AA hI
 clear h h1
 go_enter func41, ntmps41
 go_wp2_with fail
 refine hln.out.mono ?_
 rintro e w2 ⟨rfl, rfl⟩
 go_wp2_with fail
 generalize hW : World.setCell _ ⟨w, 14, none⟩ _ = W5
 have hx : W5.heap[w.heap.size]? = some (.cells #[.bool (s.ent line).here, .bool (s.ent line).dirty, U (s.ent line).data.a, U (s.ent line).data.b, U (s.ent line).data.c, U (s.ent line).data.d, U (s.ent line).data.e, U (s.ent line).data.f, U (s.ent line).data.g, U (s.ent line).data.h, I (s.ent line).owner, .int .u8 (s.ent line).share, I (s.ent line).busy, I (s.ent line).who, .int .u8 (s.ent line).wait] 114) := by rw [← hW]; exact AT [.bool (s.ent line).here, .bool (s.ent line).dirty, U (s.ent line).data.a, U (s.ent line).data.b, U (s.ent line).data.c, U (s.ent line).data.d, U (s.ent line).data.e, U (s.ent line).data.f, U (s.ent line).data.g, U (s.ent line).data.h, I (s.ent line).owner, .int .u8 (s.ent line).share, I (s.ent line).busy, I (s.ent line).who, .int .u8 (s.ent line).wait] hI 0 _ (by kernel_rfl)
 have hb5 : Below w w W5 := by rw [← hW]; exact Ac (Nat.le_refl _) [.bool (s.ent line).here, .bool (s.ent line).dirty, U (s.ent line).data.a, U (s.ent line).data.b, U (s.ent line).data.c, U (s.ent line).data.d, U (s.ent line).data.e, U (s.ent line).data.f, U (s.ent line).data.g, U (s.ent line).data.h, I (s.ent line).owner, .int .u8 (s.ent line).share, I (s.ent line).busy, I (s.ent line).who, .int .u8 (s.ent line).wait] hb 0
 clear hW c1 f1
 have c5 := AA hx
 refine bodyPost_ret (v := .agg #[.bool (s.ent line).here, .bool (s.ent line).dirty, U (s.ent line).data.a, U (s.ent line).data.b, U (s.ent line).data.c, U (s.ent line).data.d, U (s.ent line).data.e, U (s.ent line).data.f, U (s.ent line).data.g, U (s.ent line).data.h, I (s.ent line).owner, .int .u8 (s.ent line).share, I (s.ent line).busy, I (s.ent line).who, .int .u8 (s.ent line).wait]) (by simp [results, results41, go_sem, c5]) rfl ⟨rfl, hb5⟩
theorem IG (gb ab sb : Nat) (a : Arr) (w : World) (h : Ag w gb ab sb a) : Y 74 #[gb] w fun e w' => ∃ S, e = Z S ∧ AH w' 111 11 S (CD [a.s0, a.s1]).length (Be (CD [a.s0, a.s1])) ∧ Below w w w' := by
 have c := AA h.1
 have hs := Vw (Ib ab sb a w h.2)
 clear h
 go_enter func74, ntmps74
 go_wp2_with fail
 refine hs.out.mono ?_
 rintro e w1 ⟨S, rfl, hr⟩
 have HR := Vw hr
 clear hr
 go_wp2_with fail
 go_ret
 exact ⟨S, rfl, HR.out⟩
theorem Lv (T0 : Nat → Nat) (w0 : World) (L : SL) (s : Sys) (i : Int) (hi : AK i = true) (w : World) (h : Sy T0 w0 L s w) : Y 39 #[L.sb, I i] w fun e w' => ∃ S, e = Z S ∧ AH w' 111 11 S (CD [(s.node i).arr.s0, (s.node i).arr.s1]).length (Be (CD [(s.node i).arr.s0, (s.node i).arr.s1])) ∧ Sy T0 w0 L s w' := by
 have hat := Vw (Bi T0 w0 L s i hi)
 have hsl : ∀ w, Sy T0 w0 L s w → Y 74 #[.pointer (some ⟨L.g i, 0, none⟩)] w fun e w' => ∃ S, e = Z S ∧ AH w' 111 11 S (CD [(s.node i).arr.s0, (s.node i).arr.s1]).length (Be (CD [(s.node i).arr.s0, (s.node i).arr.s1])) ∧ Below w.heap.size w w' := fun w h => by
  obtain ⟨T, V, h, _, _⟩ := h
  rcases Aa hi with rfl | rfl
  · exact IG L.g0 L.a0 L.l0 s.n0.arr w ⟨h.ag0, h.arr0⟩
  · exact IG L.g1 L.a1 L.l1 s.n1.arr w ⟨h.ag1, h.arr1⟩
 have HS := Vw hsl
 have H := Vw h
 clear h hsl
 generalize ho : qo i 0 = o at *
 go_enter func39, ntmps39
 go_wp2_with fail
 refine (hat.out _ H.out).mono ?_
 rintro e w1 ⟨rfl, h1⟩
 have H1 := Vw h1
 have c1 := h1.agent hi
 rw [ho] at c1
 clear h1
 go_wp2_with fail
 refine (HS.out _ H1.out).mono ?_
 rintro e w2 ⟨S, rfl, hr, hb⟩
 have H2 := Vw (WA hr (H1.out.below hb))
 clear hr hb
 go_wp2_with fail
 go_ret
 exact ⟨S, rfl, H2.out⟩
theorem Ff (T0 : Nat → Nat) (w0 : World) (L : SL) (s : Sys) (line : Int) (out : List Send) (s' : Sys) (hr : s.sends line out = some s') (S : Value) (w : World) (hrow : AH w 428 13 S out.length (BM out)) (h : Sy T0 w0 L s w) : Y 271 #[L.sb, S, I line] w fun e w' => e = Z (.tuple #[]) ∧ Sy T0 w0 L s' w' := by
 match out with
 | [] =>
   simp only [Sys.sends, Option.some.injEq] at hr
   subst hr
   exact Og T0 w0 L s line S w hrow h
 | [x] =>
   obtain ⟨hi, hr⟩ := As hr
   obtain ⟨d, hd, hr⟩ := Option.bind_eq_some_iff.1 hr
   simp only [Option.some.injEq] at hr
   subst hr
   obtain ⟨hm, hl, rfl⟩ := FE hd
   exact Oe T0 w0 L s line x hi (by simpa [Et] using hm) (by show (s.node x.to).down.length < 1000; omega) S w hrow h
 | _ :: _ :: _ => simp [Sys.sends] at hr
theorem TJ (s : Sys) {k : Int} (hk : BQ k = true) (hl : s.dir.length = 5) (y : Ent) : (s.setEnt k y).ent k = y := by
 have h : k.toNat < s.dir.length := by have := BD hk; omega
 have := Gi Ent.empty (s.dir.set k.toNat y) k.toNat (by simpa using h)
 rw [List.getElem?_set_self h] at this
 exact (Option.some.inj this).symm
theorem Sn (s : Sys) (k : Int) (x y : Ent) : (s.setEnt k x).setEnt k y = s.setEnt k y := by simp [Sys.setEnt]
theorem Sy.dlen {T0 : Nat → Nat} {w0 w : World} {L : SL} {s : Sys} (h : Sy T0 w0 L s w) : s.dir.length = 5 := by
 obtain ⟨T, V, h, _, _⟩ := h
 exact h.dlen
theorem NR (T0 : Nat → Nat) (w0 : World) (L : SL) (s : Sys) (line : Int) (hk : BQ line = true) (s1 : Sys) (hr : s.here line = some s1) (w : World) (h : Sy T0 w0 L s w) : Y 268 #[L.sb, I line] w fun e w' => e = Z (.tuple #[]) ∧ Sy T0 w0 L s1 w' := by
 unfold Sys.here at hr
 obtain ⟨c8, c9⟩ := h.dirp
 obtain ⟨k0, k1⟩ := BD hk
 have e0 : w.cell? ⟨L.db, line.toNat * 15, none⟩ = some (.bool (s.ent line).here) := h.ent_cell hk 0 _ rfl
 cases hh : (s.ent line).here
 · simp only [hh, Bool.false_eq_true, if_false] at hr
   split at hr
   · rename_i hc
     simp only [Bool.and_eq_true, List.isEmpty_iff] at hc
     simp only [Option.some.injEq] at hr
     have hq := hc.2
     rw [hh] at e0
     have HR := Vw (fun w h => Tj T0 w0 L s line hk hq w h)
     have HD := Vw h.dlen
     have HF := Vw hr
     generalize BO Ln.zero s.mem line.toNat = X at *
     simp only [Ln.cells] at HR
     have H := Vw h
     clear h hc hr
     go_enter func268, ntmps268
     go_wp2_with fail
     refine (HR.out _ H.out).mono ?_
     rintro e w1 ⟨rfl, h1⟩
     have H1 := Vw h1
     have f1 := h1.free.1
     have d0 : w1.cell? ⟨L.db, line.toNat * 15, none⟩ = some (.bool (s.ent line).here) := h1.ent_cell hk 0 _ rfl
     have d2 : w1.cell? ⟨L.db, line.toNat * 15 + 2, none⟩ = some (U (s.ent line).data.a) := h1.ent_cell hk 2 _ rfl
     have d3 : w1.cell? ⟨L.db, line.toNat * 15 + 3, none⟩ = some (U (s.ent line).data.b) := h1.ent_cell hk 3 _ rfl
     have d4 : w1.cell? ⟨L.db, line.toNat * 15 + 4, none⟩ = some (U (s.ent line).data.c) := h1.ent_cell hk 4 _ rfl
     have d5 : w1.cell? ⟨L.db, line.toNat * 15 + 5, none⟩ = some (U (s.ent line).data.d) := h1.ent_cell hk 5 _ rfl
     have d6 : w1.cell? ⟨L.db, line.toNat * 15 + 6, none⟩ = some (U (s.ent line).data.e) := h1.ent_cell hk 6 _ rfl
     have d7 : w1.cell? ⟨L.db, line.toNat * 15 + 7, none⟩ = some (U (s.ent line).data.f) := h1.ent_cell hk 7 _ rfl
     have d8 : w1.cell? ⟨L.db, line.toNat * 15 + 8, none⟩ = some (U (s.ent line).data.g) := h1.ent_cell hk 8 _ rfl
     have d9 : w1.cell? ⟨L.db, line.toNat * 15 + 9, none⟩ = some (U (s.ent line).data.h) := h1.ent_cell hk 9 _ rfl
     clear h1 e0 c8 c9
     go_wp2_with fail
     go_end0
     refine ⟨rfl, ?_⟩
     have h2 := H1.out.put_ent hk { s.ent line with data := X } 2 [U X.a, U X.b, U X.c, U X.d, U X.e, U X.f, U X.g, U X.h] (by simp) (fun i => by
      match i with
      | 0 => rfl
      | 1 => rfl
      | 2 => rfl
      | 3 => rfl
      | 4 => rfl
      | 5 => rfl
      | 6 => rfl
      | 7 => rfl
      | 8 => rfl
      | 9 => rfl
      | 10 => rfl
      | 11 => rfl
      | 12 => rfl
      | 13 => rfl
      | 14 => rfl
      | n + 15 => rw [if_neg (by simp), List.getElem?_eq_none (by simp [Ent.cells]), List.getElem?_eq_none (by simp [Ent.cells])])
     have h3 := h2.put_ent hk { s.ent line with here := true, data := X } 0 [.bool true] (by simp) (fun i => by
      rw [TJ s hk HD.out]
      match i with
      | 0 => rfl
      | n + 1 => rw [if_neg (by simp)]; rfl)
     rw [Sn] at h3
     rw [← HF.out]
     exact h3
   · simp at hr
 · simp only [hh, if_true, Option.some.injEq] at hr
   subst hr
   rw [hh] at e0
   have H := Vw h
   clear h
   go_enter func268, ntmps268
   go_wp2_with fail
   go_end0
   exact ⟨rfl, H.out⟩
theorem ub {a b : Nat} (h : a ≤ b) : ∃ p, b = p := ⟨b, rfl⟩
theorem Aw (s : Sys) {i : Int} (hi : AK i = true) (f : Nat) (l : List Msg) (k : Int) : (s.setq i f l).ent k = s.ent k := by rcases Aa hi with rfl | rfl <;> rfl
theorem Sy.drewN {T0 : Nat → Nat} {w0 w : World} {L : SL} {s : Sys} (h : Sy T0 w0 L s w) (n : Nat) : Sy T0 w0 L s (w.drewN n) := h.below ⟨rfl, rfl, rfl, Nat.le_refl _, fun _ _ => rfl⟩
theorem UC {s s1 : Sys} {line : Int} (h : s.here line = some s1) (i : Int) : s1.node i = s.node i := by
 unfold Sys.here at h
 repeat' split at h
 all_goals first
  | (simp only [Option.some.injEq] at h; subst h; rfl)
  | simp at h
theorem RR (T0 : Nat → Nat) (w0 : World) (L : SL) (s : Sys) (i : Int) (hi : AK i = true) (hq : (s.node i).up = []) (w : World) (h : Sy T0 w0 L s w) : Y 225 #[L.sb, I i] w fun e w' => (∃ r, e = Z (I r)) ∧ Sy T0 w0 L s w' := by
 have hat := Vw (Bi T0 w0 L s i hi)
 have hhd := Vw (fun w h => NF T0 w0 L s i 1 hi (by decide) hq w h)
 simp only [show qo i 1 = qo i 0 + 1 from rfl, Msg.cells, Ln.zero] at hhd
 have H := Vw h
 clear h
 generalize ho : qo i 0 = o at *
 go_enter func225, ntmps225
 go_wp2_with fail
 refine (hat.out _ H.out).mono ?_
 rintro e w1 ⟨rfl, h1⟩
 have H1 := Vw h1
 clear h1
 go_wp2_with fail
 refine (hhd.out _ H1.out).mono ?_
 rintro e w2 ⟨rfl, h2⟩
 have H2 := Vw (h2.below (AC w2 (.cells KB 253)))
 clear h2
 go_wp2_with fail
 go_ret
 exact ⟨⟨_, rfl⟩, H2.out⟩
theorem RS (T0 : Nat → Nat) (w0 : World) (L : SL) (s : Sys) (i : Int) (hi : AK i = true) (m : Msg) (l : List Msg) (hq : (s.node i).up = m :: l) (hk : BQ m.line = true) (hbz : ((s.ent m.line).busy != 0) = true) (w : World) (h : Sy T0 w0 L s w) : Y 225 #[L.sb, I i] w fun e w' => (∃ r, e = Z (I r)) ∧ Sy T0 w0 L s w' := by
 have hat := Vw (Bi T0 w0 L s i hi)
 have hhd := Vw (fun w h => Pp T0 w0 L s i 1 m l hi (by decide) hq w h)
 simp only [show qo i 1 = qo i 0 + 1 from rfl, Msg.cells] at hhd
 have H := Vw h
 obtain ⟨k0, k1⟩ := BD hk
 clear h
 generalize ho : qo i 0 = o at *
 go_enter func225, ntmps225
 go_wp2_with fail
 refine (hat.out _ H.out).mono ?_
 rintro e w1 ⟨rfl, h1⟩
 have H1 := Vw h1
 clear h1
 go_wp2_with fail
 refine (hhd.out _ H1.out).mono ?_
 rintro e w2 ⟨rfl, h2⟩
 obtain ⟨W3, hE, hb3, hI3⟩ := alloc_new w2 (.cells m 253)
 obtain ⟨T, hS, hfr, _, hback⟩ := h2.fresh hb3
 have HK := Vw hback
 have hT := hfr w2.heap.size (Nat.le_refl _)
 have H3 := Vw hS
 have HI := Vw hI3
 have c3 := AA hI3
 have c8 := hS.dirp.1
 have e12 : W3.cell? ⟨L.db, m.line.toNat * 15 + 12, none⟩ = some (I (s.ent m.line).busy) := hS.ent_cell hk 12 _ rfl
 clear h2 hS hback hfr hI3 hb3
 go_wp2_with fail
 go_quiet (fail)
 go_wp2_with fail
 go_ret
 exact ⟨⟨_, rfl⟩, HK.out _ _ (H3.out.drewN _)⟩
theorem RQ (T0 : Nat → Nat) (w0 : World) (L : SL) (s : Sys) (i : Int) (hi : AK i = true) (m : Msg) (l : List Msg) (hq : (s.node i).up = m :: l) (hk : BQ m.line = true) (hbz : ((s.ent m.line).busy != 0) = false) (s1 : Sys) (hh : s.here m.line = some s1) (e2 : Ent) (out : List Send) (ha : Pa (s1.ent m.line) i m = some (e2, out)) (s' : Sys) (hr : (((s1.setNode i { s1.node i with up := l }).setEnt m.line e2).sends m.line out) = some s') (w : World) (h : Sy T0 w0 L s w) : Y 225 #[L.sb, I i] w fun e w' => (∃ r, e = Z (I r)) ∧ Sy T0 w0 L s' w' := by
 have hat := Vw (Bi T0 w0 L s i hi)
 have hhd := Vw (fun w h => Pp T0 w0 L s i 1 m l hi (by decide) hq w h)
 have hpp := Vw (fun T0 w0 w h => OR T0 w0 L s1 i 1 m l hi (by decide) (show s1.q i 1 = m :: l by unfold Sys.q; rw [UC hh i]; exact hq) w h)
 have hhr := Vw (fun T0 w0 w h => NR T0 w0 L s m.line hk s1 hh w h)
 have hsd := Vw (fun T0 w0 S w hrow h => Ff T0 w0 L ((s1.setNode i { s1.node i with up := l }).setEnt m.line e2) m.line out s' hr S w hrow h)
 have hak := Vw (fun w => PQ (s1.ent m.line) i m e2 out ha w)
 have HM := Vw (show ∀ (T0 : Nat → Nat) (w0 w : World), Sy T0 w0 L (s1.setq i 1 l) w → Sy T0 w0 L ((s1.setNode i { s1.node i with up := l }).setEnt m.line e2) (w.setCells L.db (m.line.toNat * 15) e2.cells) from fun T0 w0 w h => h.put_all hk e2)
 simp only [show qo i 1 = qo i 0 + 1 from rfl, Msg.cells, Ent.cells] at hhd hpp hak
 have H := Vw h
 obtain ⟨k0, k1⟩ := BD hk
 clear h ha hr hh hq
 generalize ho : qo i 0 = o at *
 go_enter func225, ntmps225
 go_wp2_with fail
 refine (hat.out _ H.out).mono ?_
 rintro e w1 ⟨rfl, h1⟩
 have H1 := Vw h1
 clear h1
 go_wp2_with fail
 refine (hhd.out _ H1.out).mono ?_
 rintro e w2 ⟨rfl, h2⟩
 obtain ⟨W3, hE, hb3, hI3⟩ := alloc_new w2 (.cells m 253)
 obtain ⟨T, hS, hfr, _, hback⟩ := h2.fresh hb3
 have HK := Vw hback
 have hT := hfr w2.heap.size (Nat.le_refl _)
 have H3 := Vw hS
 have HI := Vw hI3
 have c3 := AA hI3
 have c8 := hS.dirp.1
 have e12 : W3.cell? ⟨L.db, m.line.toNat * 15 + 12, none⟩ = some (I (s.ent m.line).busy) := hS.ent_cell hk 12 _ rfl
 clear h2 hS hback hfr hI3 hb3
 go_wp2_with fail
 go_quiet (fail)
 have H4 := Vw (H3.out.drewN nq)
 have HI4 := Vw (show (W3.drewN nq).heap[w2.heap.size]? = _ from HI.out)
 generalize W3.drewN nq = W4 at *
 replace c3 := AA HI4.out
 clear e12 c8
 go_wp2_with fail
 refine (hhr.out _ _ _ H4.out).mono ?_
 rintro e w5 ⟨rfl, h5⟩
 have H5 := Vw h5
 have HN := Vw (show w2.heap.size ≠ L.db from fun e => by
  have h0 := h5.stays hT HI.out
  obtain ⟨T', V', h', _, _⟩ := h5
  exact AG h0 h'.dir (by decide) e)
 have HI5 := Vw (h5.stays hT HI.out)
 have HI5d := Vw (show w5.drew.heap[w2.heap.size]? = _ from h5.stays hT HI.out)
 have c8 := h5.dirp.1
 have x0 : w5.cell? ⟨L.db, m.line.toNat * 15, none⟩ = some (.bool (s1.ent m.line).here) := h5.ent_cell hk 0 _ rfl
 have x1 : w5.cell? ⟨L.db, m.line.toNat * 15 + 1, none⟩ = some (.bool (s1.ent m.line).dirty) := h5.ent_cell hk 1 _ rfl
 have x2 : w5.cell? ⟨L.db, m.line.toNat * 15 + 2, none⟩ = some (U (s1.ent m.line).data.a) := h5.ent_cell hk 2 _ rfl
 have x3 : w5.cell? ⟨L.db, m.line.toNat * 15 + 3, none⟩ = some (U (s1.ent m.line).data.b) := h5.ent_cell hk 3 _ rfl
 have x4 : w5.cell? ⟨L.db, m.line.toNat * 15 + 4, none⟩ = some (U (s1.ent m.line).data.c) := h5.ent_cell hk 4 _ rfl
 have x5 : w5.cell? ⟨L.db, m.line.toNat * 15 + 5, none⟩ = some (U (s1.ent m.line).data.d) := h5.ent_cell hk 5 _ rfl
 have x6 : w5.cell? ⟨L.db, m.line.toNat * 15 + 6, none⟩ = some (U (s1.ent m.line).data.e) := h5.ent_cell hk 6 _ rfl
 have x7 : w5.cell? ⟨L.db, m.line.toNat * 15 + 7, none⟩ = some (U (s1.ent m.line).data.f) := h5.ent_cell hk 7 _ rfl
 have x8 : w5.cell? ⟨L.db, m.line.toNat * 15 + 8, none⟩ = some (U (s1.ent m.line).data.g) := h5.ent_cell hk 8 _ rfl
 have x9 : w5.cell? ⟨L.db, m.line.toNat * 15 + 9, none⟩ = some (U (s1.ent m.line).data.h) := h5.ent_cell hk 9 _ rfl
 have x10 : w5.cell? ⟨L.db, m.line.toNat * 15 + 10, none⟩ = some (I (s1.ent m.line).owner) := h5.ent_cell hk 10 _ rfl
 have x11 : w5.cell? ⟨L.db, m.line.toNat * 15 + 11, none⟩ = some (.int .u8 (s1.ent m.line).share) := h5.ent_cell hk 11 _ rfl
 have x12 : w5.cell? ⟨L.db, m.line.toNat * 15 + 12, none⟩ = some (I (s1.ent m.line).busy) := h5.ent_cell hk 12 _ rfl
 have x13 : w5.cell? ⟨L.db, m.line.toNat * 15 + 13, none⟩ = some (I (s1.ent m.line).who) := h5.ent_cell hk 13 _ rfl
 have x14 : w5.cell? ⟨L.db, m.line.toNat * 15 + 14, none⟩ = some (.int .u8 (s1.ent m.line).wait) := h5.ent_cell hk 14 _ rfl
 have c5 := AA HI5.out
 have hlt5 := AF HI5.out
 have hltb := World.block_lt_of_cell? (w := w5) (a := ⟨L.sb, 8, none⟩) c8
 have hltd := World.block_lt_of_cell? (w := w5) (a := ⟨L.db, m.line.toNat * 15, none⟩) x0
 simp only at hltb hltd
 have HS := Vw (show ∀ w' : World, Below w5 w5 w' → w'.cell? ⟨L.sb, 8, none⟩ = some (.slice (some L.db) 5 5) ∧ w'.cell? ⟨L.db, m.line.toNat * 15, none⟩ = some (.bool (s1.ent m.line).here) ∧ w'.cell? ⟨L.db, m.line.toNat * 15 + 1, none⟩ = some (.bool (s1.ent m.line).dirty) ∧ w'.cell? ⟨L.db, m.line.toNat * 15 + 2, none⟩ = some (U (s1.ent m.line).data.a) ∧ w'.cell? ⟨L.db, m.line.toNat * 15 + 3, none⟩ = some (U (s1.ent m.line).data.b) ∧ w'.cell? ⟨L.db, m.line.toNat * 15 + 4, none⟩ = some (U (s1.ent m.line).data.c) ∧ w'.cell? ⟨L.db, m.line.toNat * 15 + 5, none⟩ = some (U (s1.ent m.line).data.d) ∧ w'.cell? ⟨L.db, m.line.toNat * 15 + 6, none⟩ = some (U (s1.ent m.line).data.e) ∧ w'.cell? ⟨L.db, m.line.toNat * 15 + 7, none⟩ = some (U (s1.ent m.line).data.f) ∧ w'.cell? ⟨L.db, m.line.toNat * 15 + 8, none⟩ = some (U (s1.ent m.line).data.g) ∧ w'.cell? ⟨L.db, m.line.toNat * 15 + 9, none⟩ = some (U (s1.ent m.line).data.h) ∧ w'.cell? ⟨L.db, m.line.toNat * 15 + 10, none⟩ = some (I (s1.ent m.line).owner) ∧ w'.cell? ⟨L.db, m.line.toNat * 15 + 11, none⟩ = some (.int .u8 (s1.ent m.line).share) ∧ w'.cell? ⟨L.db, m.line.toNat * 15 + 12, none⟩ = some (I (s1.ent m.line).busy) ∧ w'.cell? ⟨L.db, m.line.toNat * 15 + 13, none⟩ = some (I (s1.ent m.line).who) ∧ w'.cell? ⟨L.db, m.line.toNat * 15 + 14, none⟩ = some (.int .u8 (s1.ent m.line).wait) ∧ w'.cell? w2 = I m.kind ∧ w'.cell? ⟨w2, 1, none⟩ = I m.line ∧ w'.cell? ⟨w2, 2, none⟩ = m.dirty ∧ w'.cell? ⟨w2, 3, none⟩ = m.kept ∧ w'.cell? ⟨w2, 4, none⟩ = U m.data.a ∧ w'.cell? ⟨w2, 5, none⟩ = U m.data.b ∧ w'.cell? ⟨w2, 6, none⟩ = U m.data.c ∧ w'.cell? ⟨w2, 7, none⟩ = U m.data.d ∧ w'.cell? ⟨w2, 8, none⟩ = U m.data.e ∧ w'.cell? ⟨w2, 9, none⟩ = U m.data.f ∧ w'.cell? ⟨w2, 10, none⟩ = U m.data.g ∧ w'.cell? ⟨w2, 11, none⟩ = U m.data.h from fun w' hb => ⟨(h5.below hb).dirp.1, (h5.below hb).ent_cell hk 0 _ rfl, (h5.below hb).ent_cell hk 1 _ rfl, (h5.below hb).ent_cell hk 2 _ rfl, (h5.below hb).ent_cell hk 3 _ rfl, (h5.below hb).ent_cell hk 4 _ rfl, (h5.below hb).ent_cell hk 5 _ rfl, (h5.below hb).ent_cell hk 6 _ rfl, (h5.below hb).ent_cell hk 7 _ rfl, (h5.below hb).ent_cell hk 8 _ rfl, (h5.below hb).ent_cell hk 9 _ rfl, (h5.below hb).ent_cell hk 10 _ rfl, (h5.below hb).ent_cell hk 11 _ rfl, (h5.below hb).ent_cell hk 12 _ rfl, (h5.below hb).ent_cell hk 13 _ rfl, (h5.below hb).ent_cell hk 14 _ rfl, AD (AB hb HI5.out) 0 rfl, AD (AB hb HI5.out) 1 rfl, AD (AB hb HI5.out) 2 rfl, AD (AB hb HI5.out) 3 rfl, AD (AB hb HI5.out) 4 rfl, AD (AB hb HI5.out) 5 rfl, AD (AB hb HI5.out) 6 rfl, AD (AB hb HI5.out) 7 rfl, AD (AB hb HI5.out) 8 rfl, AD (AB hb HI5.out) 9 rfl, AD (AB hb HI5.out) 10 rfl, AD (AB hb HI5.out) 11 rfl⟩)
 clear h5 c3
 go_wp2_with fail
 have hd0 : Below w5 w5 w5.drew := (Below.refl _ _).drew
 have hd1 : Below w5 w5 ((w5.alloc (.cells KC 114)).drew) := (AC w5 _).drew
 go_region_held3 (fun w' => w'.cell? ⟨L.sb, 8, none⟩ = some (.slice (some L.db) 5 5) ∧ w'.cell? ⟨L.db, m.line.toNat * 15, none⟩ = some (.bool (s1.ent m.line).here) ∧ w'.cell? ⟨L.db, m.line.toNat * 15 + 1, none⟩ = some (.bool (s1.ent m.line).dirty) ∧ w'.cell? ⟨L.db, m.line.toNat * 15 + 2, none⟩ = some (U (s1.ent m.line).data.a) ∧ w'.cell? ⟨L.db, m.line.toNat * 15 + 3, none⟩ = some (U (s1.ent m.line).data.b) ∧ w'.cell? ⟨L.db, m.line.toNat * 15 + 4, none⟩ = some (U (s1.ent m.line).data.c) ∧ w'.cell? ⟨L.db, m.line.toNat * 15 + 5, none⟩ = some (U (s1.ent m.line).data.d) ∧ w'.cell? ⟨L.db, m.line.toNat * 15 + 6, none⟩ = some (U (s1.ent m.line).data.e) ∧ w'.cell? ⟨L.db, m.line.toNat * 15 + 7, none⟩ = some (U (s1.ent m.line).data.f) ∧ w'.cell? ⟨L.db, m.line.toNat * 15 + 8, none⟩ = some (U (s1.ent m.line).data.g) ∧ w'.cell? ⟨L.db, m.line.toNat * 15 + 9, none⟩ = some (U (s1.ent m.line).data.h) ∧ w'.cell? ⟨L.db, m.line.toNat * 15 + 10, none⟩ = some (I (s1.ent m.line).owner) ∧ w'.cell? ⟨L.db, m.line.toNat * 15 + 11, none⟩ = some (.int .u8 (s1.ent m.line).share) ∧ w'.cell? ⟨L.db, m.line.toNat * 15 + 12, none⟩ = some (I (s1.ent m.line).busy) ∧ w'.cell? ⟨L.db, m.line.toNat * 15 + 13, none⟩ = some (I (s1.ent m.line).who) ∧ w'.cell? ⟨L.db, m.line.toNat * 15 + 14, none⟩ = some (.int .u8 (s1.ent m.line).wait) ∧ w'.cell? w2 = I m.kind ∧ w'.cell? ⟨w2, 1, none⟩ = I m.line ∧ w'.cell? ⟨w2, 2, none⟩ = m.dirty ∧ w'.cell? ⟨w2, 3, none⟩ = m.kept ∧ w'.cell? ⟨w2, 4, none⟩ = U m.data.a ∧ w'.cell? ⟨w2, 5, none⟩ = U m.data.b ∧ w'.cell? ⟨w2, 6, none⟩ = U m.data.c ∧ w'.cell? ⟨w2, 7, none⟩ = U m.data.d ∧ w'.cell? ⟨w2, 8, none⟩ = U m.data.e ∧ w'.cell? ⟨w2, 9, none⟩ = U m.data.f ∧ w'.cell? ⟨w2, 10, none⟩ = U m.data.g ∧ w'.cell? ⟨w2, 11, none⟩ = U m.data.h) (first | with_reducible exact HS.out _ hd0 | with_reducible exact HS.out _ hd1 | with_reducible exact HS.out _ hk6 | with_reducible exact HS.out _ hk7 | (refine HS.out _ ?_; repeat (refine Below.setCell ?_ (by exact hle8) _; try with_reducible (first | exact hk6 | exact hk7)))) (first
  | (go_at_call 269; refine (hak.out ((w5.alloc (.cells KC 114)).drew)).mono ?_; rintro e w6 ⟨S, rfl, hr6, hS6, hb6⟩; have hA6 := (AC w5 (.cells KC 114)).drew; have hk6 := hA6.trans (hb6.mono hA6.size); have hle8 : w5.heap.size ≤ w5.heap.size := Nat.le_refl _; have hI6 := AB hb6 (show ((w5.alloc (.cells KC 114)).drew).heap[w5.heap.size]? = _ from AE w5 (.cells KC 114)); have c7 := AA hI6; have f7 := AJ hI6; have HB7 := Vw (WA (hA6.trans (hb6.mono hA6.size)) (WA hr6 (WA (fun k hk => Vx hA6.size (hS6 k hk)) hI6))); clear hr6 hS6 hb6 hA6 hI6)
  | (go_at_call 269; refine (hak.out w5.drew).mono ?_; rintro e w6 ⟨S, rfl, hr6, hS6, hb6⟩; have hk6 : Below w5 w5 w6 := (Below.refl _ _).drew.trans hb6; have hle8 : w5.heap.size ≤ w6.heap.size := hb6.size; obtain ⟨W7, hE7⟩ : ∃ W, w6.alloc (.cells KC 114) = W := ⟨_, rfl⟩; have hI7 : W7.heap[w6.heap.size]? = some (.cells KC 114) := hE7 ▸ AE w6 _; have hb7 : Below w6 w6 W7 := hE7 ▸ AC w6 _; have HB7 := Vw (WA (show Below w5 w5 W7 from (Below.refl _ _).drew.trans (hb6.trans (hb7.mono hb6.size))) (WA (hr6.below hb7) (WA (show ∀ k, S.ownBlock = some k → w5.heap.size ≤ k from hS6) hI7))); have hk7 : Below w5 w5 W7 := (Below.refl _ _).drew.trans (hb6.trans (hb7.mono hb6.size)); have c7 := AA hI7; have f7 := AJ hI7; clear hI7 hb7 hr6 hS6))
 all_goals
  generalize hW : World.setCell _ ⟨_, 14, none⟩ _ = W8
  obtain ⟨p8, hp8⟩ := ub hle8
  obtain ⟨q1, q2, q3, q4⟩ := HB7.out
  have hI8 : W8.heap[p8]? = some (.cells e2 114) := by rw [← hp8, ← hW]; exact AT [.bool e2.here, .bool e2.dirty, U e2.data.a, U e2.data.b, U e2.data.c, U e2.data.d, U e2.data.e, U e2.data.f, U e2.data.g, U e2.data.h, I e2.owner, .int .u8 e2.share, I e2.busy, I e2.who, .int .u8 e2.wait] q4 0 _ (by kernel_rfl)
  have hb8 : Below w5 w5 W8 := by rw [← hW]; exact Ac hle8 [.bool e2.here, .bool e2.dirty, U e2.data.a, U e2.data.b, U e2.data.c, U e2.data.d, U e2.data.e, U e2.data.f, U e2.data.g, U e2.data.h, I e2.owner, .int .u8 e2.share, I e2.busy, I e2.who, .int .u8 e2.wait] q1 0
  have hr8 : AH W8 428 13 S out.length (BM out) := by
   rw [← hW]
   refine q2.kept fun k hk => ?_
   obtain ⟨cs', h'⟩ := q2.type k hk
   exact AR (AG h' q4 (by decide)) [.bool e2.here, .bool e2.dirty, U e2.data.a, U e2.data.b, U e2.data.c, U e2.data.d, U e2.data.e, U e2.data.f, U e2.data.g, U e2.data.h, I e2.owner, .int .u8 e2.share, I e2.busy, I e2.who, .int .u8 e2.wait] _ 0
  clear hW
  obtain ⟨T8, hS8, hfr8, hk8, hback8⟩ := H5.out.fresh hb8
  have HT8 := Vw (show T8 p8 = 0 ∧ T8 w2.heap.size = 0 ∧ (∀ k, S.ownBlock = some k → T8 k = 0) from ⟨hp8 ▸ hfr8 _ hle8, (hk8 _ (AF HI.out)).trans hT, fun k hk => hfr8 _ (q3 k hk)⟩)
  subst hp8
  have HI8 := Vw (WA hI8 (WA (AB hb8 HI5.out) hr8))
  have H8 := Vw hS8
  have HK8 := Vw (fun s' w' h' => HK.out s' w' (hback8 s' w' h'))
  obtain ⟨A8, cq8, rfl⟩ := hr8.form
  clear hI8 hb8 hr8 hS8 hfr8 hk8 hback8 q1 q2 q3 q4 c7 f7 hk6 hle8
  go_wp2_with fail
  refine (hpp.out _ _ _ H8.out).mono ?_
  rintro e w9 ⟨rfl, h9⟩
  have c8 := h9.dirp.1
  have f9 := h9.free.1
  have y0 : w9.cell? ⟨L.db, m.line.toNat * 15, none⟩ = some (.bool (s1.ent m.line).here) := h9.ent_cell hk 0 _ (by rw [Aw s1 hi]; rfl)
  have y1 : w9.cell? ⟨L.db, m.line.toNat * 15 + 1, none⟩ = some (.bool (s1.ent m.line).dirty) := h9.ent_cell hk 1 _ (by rw [Aw s1 hi]; rfl)
  have y2 : w9.cell? ⟨L.db, m.line.toNat * 15 + 2, none⟩ = some (U (s1.ent m.line).data.a) := h9.ent_cell hk 2 _ (by rw [Aw s1 hi]; rfl)
  have y3 : w9.cell? ⟨L.db, m.line.toNat * 15 + 3, none⟩ = some (U (s1.ent m.line).data.b) := h9.ent_cell hk 3 _ (by rw [Aw s1 hi]; rfl)
  have y4 : w9.cell? ⟨L.db, m.line.toNat * 15 + 4, none⟩ = some (U (s1.ent m.line).data.c) := h9.ent_cell hk 4 _ (by rw [Aw s1 hi]; rfl)
  have y5 : w9.cell? ⟨L.db, m.line.toNat * 15 + 5, none⟩ = some (U (s1.ent m.line).data.d) := h9.ent_cell hk 5 _ (by rw [Aw s1 hi]; rfl)
  have y6 : w9.cell? ⟨L.db, m.line.toNat * 15 + 6, none⟩ = some (U (s1.ent m.line).data.e) := h9.ent_cell hk 6 _ (by rw [Aw s1 hi]; rfl)
  have y7 : w9.cell? ⟨L.db, m.line.toNat * 15 + 7, none⟩ = some (U (s1.ent m.line).data.f) := h9.ent_cell hk 7 _ (by rw [Aw s1 hi]; rfl)
  have y8 : w9.cell? ⟨L.db, m.line.toNat * 15 + 8, none⟩ = some (U (s1.ent m.line).data.g) := h9.ent_cell hk 8 _ (by rw [Aw s1 hi]; rfl)
  have y9 : w9.cell? ⟨L.db, m.line.toNat * 15 + 9, none⟩ = some (U (s1.ent m.line).data.h) := h9.ent_cell hk 9 _ (by rw [Aw s1 hi]; rfl)
  have y10 : w9.cell? ⟨L.db, m.line.toNat * 15 + 10, none⟩ = some (I (s1.ent m.line).owner) := h9.ent_cell hk 10 _ (by rw [Aw s1 hi]; rfl)
  have y11 : w9.cell? ⟨L.db, m.line.toNat * 15 + 11, none⟩ = some (.int .u8 (s1.ent m.line).share) := h9.ent_cell hk 11 _ (by rw [Aw s1 hi]; rfl)
  have y12 : w9.cell? ⟨L.db, m.line.toNat * 15 + 12, none⟩ = some (I (s1.ent m.line).busy) := h9.ent_cell hk 12 _ (by rw [Aw s1 hi]; rfl)
  have y13 : w9.cell? ⟨L.db, m.line.toNat * 15 + 13, none⟩ = some (I (s1.ent m.line).who) := h9.ent_cell hk 13 _ (by rw [Aw s1 hi]; rfl)
  have y14 : w9.cell? ⟨L.db, m.line.toNat * 15 + 14, none⟩ = some (.int .u8 (s1.ent m.line).wait) := h9.ent_cell hk 14 _ (by rw [Aw s1 hi]; rfl)
  have hN := HN.out
  have c9 := AA (h9.stays HT8.out.1 HI8.out.1)
  have d9 := AA (h9.stays HT8.out.2.1 HI8.out.2.1)
  have H9 := Vw h9
  clear h9
  go_wp2_with fail
  go_still_tail 8, (by kernel_rfl)
  change wpList _ _ _ _ _ w9.drew
  go_wp2_with fail
  generalize hW : World.setCell _ ⟨L.db, m.line.toNat * 15 + 14, none⟩ _ = W11
  have h11 := Vw (show Sy T8 W8 L _ W11.drew from Sy.drew (by rw [← hW]; exact HM.out _ _ _ H9.out))
  clear hW
  refine (hsd.out _ _ _ _ (HI8.out.2.2.kept fun k hk => ?_) h11.out).mono ?_
  · obtain ⟨T', V', h', hb', hc'⟩ := h11.out
    exact hc'.block k (HI8.out.2.2.lt k hk) (by simp [HT8.out.2.2 k hk])
  rintro e w12 ⟨rfl, h12⟩
  have H12 := Vw h12
  clear h12
  go_wp2_with fail
  go_ret
  exact ⟨⟨_, rfl⟩, HK8.out _ _ H12.out⟩
end Go.Proofs.YtkoplblbeapfgaaGreatDoor
