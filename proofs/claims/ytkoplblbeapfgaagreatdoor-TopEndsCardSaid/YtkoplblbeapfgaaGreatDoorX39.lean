/-
Parts of the walk of TopEnds. Conditions stand in each statement.
-/
import Derived.Test.YtkoplblbeapfgaaGreatDoorX37
namespace Go.Proofs.YtkoplblbeapfgaaGreatDoor
open Go.RowKit Go.Maps
open Tryz
set_option linter.all false
set_option maxRecDepth 100000
set_option maxHeartbeats 8000000
def Gq (v : Value) : Option (DataW Value × List MemPlace) := some (.held v, [])
theorem Gp {v : Value} {D : DataW Value} {ps : List MemPlace} {x : Value} (h : Gq v = some (D, ps)) (hd : D = .held x) : v = x := by
 simp only [Gq, Option.some.injEq, Prod.mk.injEq] at h
 rw [hd] at h
 exact DataW.held.inj h.1
theorem JM (w : World) : (zeroValue 73).run prog w = .ok (.slice none 0 0) w := by kernel_rfl
def FW (base : Nat) (ts : List Int) (P : Value) (W : World) : Prop := ∃ Q, AH W 28 1 P 1 [Q] ∧ AH W 27 1 Q ts.length (AX ts) ∧ (∀ k, P.ownBlock = some k → base ≤ k) ∧ ∀ k, Q.ownBlock = some k → base ≤ k
theorem FW.kept {base : Nat} {ts : List Int} {P : Value} {W W' : World} (h : FW base ts P W) (hk : ∀ {k : Nat} {cs : Array Value} {T : TypeId}, W.heap[k]? = some (.cells cs T (0, 0)) → W'.heap[k]? = some (.cells cs T (0, 0))) : FW base ts P W' := by
 obtain ⟨Q, h1, h2, h3⟩ := h
 refine ⟨Q, h1.kept fun k hh => ?_, h2.kept fun k hh => ?_, h3⟩
 · obtain ⟨cs, h⟩ := h1.type k hh
   exact (hk h).trans h.symm
 · obtain ⟨cs, h⟩ := h2.type k hh
   exact (hk h).trans h.symm
theorem Dn {H : Type} {w : World} {k : TypeId} {R : Value → Option (DataW H × List MemPlace)} {b n : Nat} {D : DataW H} (h : w.ownsMap prog k R b n D) {g : Nat} {cs : Array Value} {e : TypeId} {f : Nat × Nat} (hg : w.heap[g]? = some (.cells cs e f)) : b ≠ g := by
 rintro rfl
 obtain ⟨es, ck, hmp, _⟩ := h
 rw [hg] at hmp
 cases hmp
theorem LX (l : List Ev) (t0 t1 : List Int) (hk : ∀ e ∈ l, e.kind ≠ 11) (hbeg : (l.filter Cs).map Ev.core = [0, 1]) (hk0 : ((Cc 0 0 l).filter CE).map Dr = DR 0 t0) (hk1 : ((Cc 0 1 l).filter CE).map Dr = DR 1 t1) (ht0 : t0.length < 100) (ht1 : t1.length < 100) (hlen : l.length < 100000) (S : Value) (w : World) (hr : AH w 92 5 S l.length (AY l)) : Y 52 #[Ai, S] w fun e w' => ∃ mb P0 P1, e = Z (.map (some mb)) ∧ w'.ownsMap prog 3 Gq mb 2 (.map [(.int .i64 0, .held P0), (.int .i64 1, .held P1)]) ∧ FW w.heap.size t0 P0 w' ∧ FW w.heap.size t1 P1 w' ∧ w.heap.size ≤ mb ∧ Below w w w' := by
 obtain ⟨A, AV, rfl⟩ := hr.form
 have hmm := @run_makeMap prog
 have H := Vw hr
 have HT0 := Vw (fun (S : Value) (w : World) (hr : AH w 92 5 S l.length (AY l)) => Ia l 0 (by decide) (by decide) t0 hk hk0 ht0 hlen S w hr)
 have HT1 := Vw (fun (S : Value) (w : World) (hr : AH w 92 5 S l.length (AY l)) => Ia l 1 (by decide) (by decide) t1 hk hk1 ht1 hlen S w hr)
 have HBG := Vw (fun (S : Value) (w : World) (hr : AH w 92 5 S l.length (AY l)) => Ic l hk hbeg hlen S w hr)
 simp only [Ai] at HT0 HT1 HBG ⊢
 obtain ⟨N, hN⟩ := ex_ l.length
 rw [hN] at H HT0 HT1 HBG
 rw [hN]
 obtain ⟨W1, hE1, hb1, hI1⟩ := alloc_new w (.cells KA 25)
 obtain ⟨W2, hE2, hb2, -⟩ := alloc_new W1 (.map #[] 0)
 have HM2 := Vw (show W2.ownsMap prog 3 Gq W1.heap.size 0 (.map []) from hE2 ▸ World.ownsMap_made W1 prog 3 Gq)
 have HB2 := Vw (hb1.trans (hb2.mono hb1.size))
 have HZ1 := Vw hb1.size
 have HI2 := Vw (AB hb2 hI1)
 have c2 := AA HI2.out
 have hbg := Vw (HBG.out _ W2 (H.out.below HB2.out))
 clear hr hk hbeg hk0 hk1 ht0 ht1 hlen hb1 hI1 hb2 HBG hN
 go_enter func52, ntmps52
 go_wp2_with fail
 refine hbg.out.mono ?_
 rintro e w4 ⟨OS, rfl, ho, hof, hb4⟩
 obtain ⟨og, oo, oc, ocs, rfl, hog, hoc, _, hox⟩ := ho.lies (by decide)
 have HO := Vw (show ∀ W : World, W.heap[og]? = some (.cells ocs 64 (0, 0)) → W.cell? ⟨og, oo, none⟩ = some (I 0) ∧ W.cell? ⟨og, oo + 1, none⟩ = some (I 0) ∧ W.cell? ⟨og, oo + 2, none⟩ = some (I 1) ∧ W.cell? ⟨og, oo + 3, none⟩ = some (I 0) from fun W h => ⟨AD h _ (hox 0 _ rfl), AD h _ (hox 1 _ rfl), AD h _ (hox 2 _ rfl), AD h _ (hox 3 _ rfl)⟩)
 have HOG := Vw hog
 have HM4 := Vw (HM2.out.kept (BR hb4) (by simp))
 have HB4 := Vw (HB2.out.trans (hb4.mono HB2.out.size))
 have HI4 := Vw (AB hb4 HI2.out)
 have hocI : (2 : Int) ≤ (oc : Int) := by omega
 clear ho hof hb4 hog hoc hox c2 hbg hE1 hE2
 go_wp2_with fail
 refine wp_loop_rounds 3 ?_
 rw [rounds_succ]
 have eo0 := HO.out w4 HOG.out
 obtain ⟨x0, x1, x2, x3⟩ := eo0
 obtain ⟨V0, hV0, hbv, hiv⟩ := alloc_new w4 (.cells #[I 0, I 0] 64)
 have hmv := HM4.out.kept (BR hbv) (by simp)
 have hkw : (Lit.int .i64 0).wf = true := by decide
 have hlk : (Instr.lookup 127 (.map (some W1.heap.size)) (.int .i64 0) false).run prog V0 = .ok (.slice none 0 0) V0 := by
  obtain ⟨v, ps, hrun, hv⟩ := hmv.lookup Ed underlying127 (JM V0) (zd := .held (.slice none 0 0)) (zp := []) rfl (keyOf_int_mk underlying3 hkw)
  rw [Gp hv (by rfl)] at hrun
  exact hrun
 have hq : (binOp .eql 73 (.slice none 0 0) (.slice none 0 0)).run prog V0 = .ok (.bool true) V0 := Lib.run_eql_slice_nil V0 73 28 none _ _ _ _ underlying73
 have c5 := AA hiv
 have c6 := AA (AB hbv HI4.out)
 have HV := Vw (WA hbv (WA hiv hmv))
 have HVE := Vw hV0
 clear hbv hiv hmv hV0
 go_wp2_with fail
 rw [HVE.out, hlk]
 clear HVE
 go_wp2_with fail
 have hBv := HB4.out.trans (HV.out.1.mono HB4.out.size)
 have htc := Vw (HT0.out _ V0.drew (H.out.below (hBv.drew)))
 have HSV := Vw (show ∀ W : World, W.heap[w4.heap.size]? = some (.cells #[I 0, I 0] 64) → W.heap[w.heap.size]? = some (.cells KA 25) → (fun w' => w'.cell? w4 = some (I 0) ∧ w'.cell? w = some (I 2) ∧ w'.cell? ⟨w, 1, none⟩ = some (I 5) ∧ w'.cell? ⟨w, 2, none⟩ = some (I 1) ∧ w'.cell? ⟨w, 3, none⟩ = some (I 1) ∧ w'.cell? ⟨w, 4, none⟩ = some (I 2) ∧ w'.cell? ⟨w, 5, none⟩ = some (I 2) ∧ w'.cell? ⟨w, 6, none⟩ = some (I 2) ∧ w'.cell? ⟨w, 7, none⟩ = some (I 2) ∧ w'.cell? ⟨w, 8, none⟩ = some (I 1)) W from fun W a b => ⟨AD a 0 rfl, AD b 0 rfl, AD b 1 rfl, AD b 2 rfl, AD b 3 rfl, AD b 4 rfl, AD b 5 rfl, AD b 6 rfl, AD b 7 rfl, AD b 8 rfl⟩)
 have HVA := Vw (show V0.drew.heap[w4.heap.size]? = some (.cells #[I 0, I 0] 64) from HV.out.2.1)
 have HVB := Vw (show V0.drew.heap[w.heap.size]? = some (.cells KA 25) from AB HV.out.1 HI4.out)
 have hkd := HSV.out V0.drew HVA.out HVB.out
 have hnm : 0 < maxLen := by decide
 have hky : keyOf prog 3 (I 0) = some (.int .i64 0) := keyOf_int_mk underlying3 hkw
 clear c5 c6 hlk hq x0 x1 x2 x3
 refine wp_region_held_drew (S := fun w' => w'.cell? w4 = some (I 0) ∧ w'.cell? w = some (I 2) ∧ w'.cell? ⟨w, 1, none⟩ = some (I 5) ∧ w'.cell? ⟨w, 2, none⟩ = some (I 1) ∧ w'.cell? ⟨w, 3, none⟩ = some (I 1) ∧ w'.cell? ⟨w, 4, none⟩ = some (I 2) ∧ w'.cell? ⟨w, 5, none⟩ = some (I 2) ∧ w'.cell? ⟨w, 6, none⟩ = some (I 2) ∧ w'.cell? ⟨w, 7, none⟩ = some (I 2) ∧ w'.cell? ⟨w, 8, none⟩ = some (I 1)) (by kernel_rfl) hkd (fun hHeld => ?_)
 refine tk 0 22 ?_
 refine tk 1 23 ?_
 refine tk 2 24 ?_
 refine tk 3 25 ?_
 refine tk 4 26 ?_
 refine tk 5 27 ?_
 refine tk 6 28 ?_
 refine tc 7 fun K hK => ?_
 go_simp
 refine htc.out.mono ?_
 rintro e p0 ⟨P0, Q0, rfl, y1, y2, y3, y4, y5⟩
 have HVC := Vw (WA (AB y5 HVA.out) (AB y5 HVB.out))
 have hk7 := HSV.out p0 HVC.out.1 HVC.out.2
 have hmp := (World.ownsMap.drew HV.out.2.2).kept (BR y5) (by simp)
 have HY := Vw (WA y1 (WA y2 (WA y3 (WA y4 y5))))
 have HMP := Vw hmp
 obtain ⟨r0, hup, hown, hgrow⟩ := hmp.update Ed underlying127 hnm hky (val := P0) (d := .held P0) (ps := []) rfl
 have hk8 := HSV.out r0 ((hgrow.block _ (AF HVC.out.1) (fun e => Dn HMP.out HVC.out.1 (Option.some.inj e).symm)).trans HVC.out.1) ((hgrow.block _ (AF HVC.out.2) (fun e => Dn HMP.out HVC.out.2 (Option.some.inj e).symm)).trans HVC.out.2)
 clear y1 y2 y3 y4 y5 hmp htc
 refine hK.out _ _ hk7 (fun hHeld => ?_)
 clear hK
 refine tc 8 fun K hK => ?_
 go_simp
 refine hK.out _ _ hk8 (fun hHeld => ?_)
 clear hK
 refine td ?_
 clear hkd hk7 hk8 hHeld hup
 obtain ⟨y1, y2, y3, y4, y5⟩ := HY.out
 have hkp : ∀ {k : Nat} {cs : Array Value} {T : TypeId}, p0.heap[k]? = some (.cells cs T (0, 0)) → r0.heap[k]? = some (.cells cs T (0, 0)) := fun {k cs T} h => (hgrow.block k (AF h) (fun e => by cases e; exact Dn HMP.out h rfl)).trans h
 have hkq : ∀ {k : Nat} {cs : Array Value} {T : TypeId}, w4.heap[k]? = some (.cells cs T (0, 0)) → r0.heap[k]? = some (.cells cs T (0, 0)) := fun {k cs T} h => hkp (AB y5 (show V0.drew.heap[k]? = _ from AB HV.out.1 h))
 have hsz := HB4.out.size
 have hsv := HV.out.1.size
 have HT0R := Vw (show FW w.heap.size t0 P0 r0 from FW.kept (W := p0) ⟨Q0, y1, y2, fun k hk => Vx (Vx hsz hsv) (y3 k hk), fun k hk => Vx (Vx hsz hsv) (y4 k hk)⟩ hkp)
 have HMr0 := Vw (show r0.ownsMap prog 3 Gq W1.heap.size 1 (.map [(.int .i64 0, .held P0)]) from hown)
 have HOGr0 := Vw (hkq HOG.out)
 have HIr0 := Vw (hkq HI4.out)
 have HKQ0 := Vw (show ∀ (k : Nat) (cs : Array Value) (T : TypeId), w4.heap[k]? = some (.cells cs T (0, 0)) → r0.heap[k]? = some (.cells cs T (0, 0)) from fun k cs T h => hkq h)
 have hBp := (hBv.drew).trans (y5.mono (Vx hsz hsv))
 have HBr0 := Vw (hBp.grown hgrow (Vx (Vx hsz hsv) y5.size) (fun k hk => by cases hk; exact HZ1.out))
 clear y1 y2 y3 y4 y5 hkp hkq hsz hsv hown hgrow hBv hBp HV HMP HY
 go_wp2_with fail
 rw [rounds_succ]
 have eo1 := HO.out r0 HOGr0.out
 obtain ⟨x0, x1, x2, x3⟩ := eo1
 obtain ⟨V1, hV1, hbv, hiv⟩ := alloc_new r0 (.cells #[I 1, I 0] 64)
 have hmv := HMr0.out.kept (BR hbv) (by simp)
 have hkw : (Lit.int .i64 1).wf = true := by decide
 have hlk : (Instr.lookup 127 (.map (some W1.heap.size)) (.int .i64 1) false).run prog V1 = .ok (.slice none 0 0) V1 := by
  obtain ⟨v, ps, hrun, hv⟩ := hmv.lookup Ed underlying127 (JM V1) (zd := .held (.slice none 0 0)) (zp := []) rfl (keyOf_int_mk underlying3 hkw)
  rw [Gp hv (by rfl)] at hrun
  exact hrun
 have hq : (binOp .eql 73 (.slice none 0 0) (.slice none 0 0)).run prog V1 = .ok (.bool true) V1 := Lib.run_eql_slice_nil V1 73 28 none _ _ _ _ underlying73
 have c5 := AA hiv
 have c6 := AA (AB hbv HIr0.out)
 have HV := Vw (WA hbv (WA hiv hmv))
 have HVE := Vw hV1
 clear hbv hiv hmv hV1
 go_wp2_with fail
 rw [HVE.out, hlk]
 clear HVE
 go_wp2_with fail
 have hBv := HBr0.out.trans (HV.out.1.mono HBr0.out.size)
 have htc := Vw (HT1.out _ V1.drew (H.out.below (hBv.drew)))
 have HSV := Vw (show ∀ W : World, W.heap[r0.heap.size]? = some (.cells #[I 1, I 0] 64) → W.heap[w.heap.size]? = some (.cells KA 25) → (fun w' => w'.cell? r0 = some (I 1) ∧ w'.cell? w = some (I 2) ∧ w'.cell? ⟨w, 1, none⟩ = some (I 5) ∧ w'.cell? ⟨w, 2, none⟩ = some (I 1) ∧ w'.cell? ⟨w, 3, none⟩ = some (I 1) ∧ w'.cell? ⟨w, 4, none⟩ = some (I 2) ∧ w'.cell? ⟨w, 5, none⟩ = some (I 2) ∧ w'.cell? ⟨w, 6, none⟩ = some (I 2) ∧ w'.cell? ⟨w, 7, none⟩ = some (I 2) ∧ w'.cell? ⟨w, 8, none⟩ = some (I 1)) W from fun W a b => ⟨AD a 0 rfl, AD b 0 rfl, AD b 1 rfl, AD b 2 rfl, AD b 3 rfl, AD b 4 rfl, AD b 5 rfl, AD b 6 rfl, AD b 7 rfl, AD b 8 rfl⟩)
 have HVA := Vw (show V1.drew.heap[r0.heap.size]? = some (.cells #[I 1, I 0] 64) from HV.out.2.1)
 have HVB := Vw (show V1.drew.heap[w.heap.size]? = some (.cells KA 25) from AB HV.out.1 HIr0.out)
 have hkd := HSV.out V1.drew HVA.out HVB.out
 have hnm : 1 < maxLen := by decide
 have hky : keyOf prog 3 (I 1) = some (.int .i64 1) := keyOf_int_mk underlying3 hkw
 clear c5 c6 hlk hq x0 x1 x2 x3
 refine wp_region_held_drew (S := fun w' => w'.cell? r0 = some (I 1) ∧ w'.cell? w = some (I 2) ∧ w'.cell? ⟨w, 1, none⟩ = some (I 5) ∧ w'.cell? ⟨w, 2, none⟩ = some (I 1) ∧ w'.cell? ⟨w, 3, none⟩ = some (I 1) ∧ w'.cell? ⟨w, 4, none⟩ = some (I 2) ∧ w'.cell? ⟨w, 5, none⟩ = some (I 2) ∧ w'.cell? ⟨w, 6, none⟩ = some (I 2) ∧ w'.cell? ⟨w, 7, none⟩ = some (I 2) ∧ w'.cell? ⟨w, 8, none⟩ = some (I 1)) (by kernel_rfl) hkd (fun hHeld => ?_)
 refine tk 0 22 ?_
 refine tk 1 23 ?_
 refine tk 2 24 ?_
 refine tk 3 25 ?_
 refine tk 4 26 ?_
 refine tk 5 27 ?_
 refine tk 6 28 ?_
 refine tc 7 fun K hK => ?_
 go_simp
 refine htc.out.mono ?_
 rintro e p1 ⟨P1, Q1, rfl, y1, y2, y3, y4, y5⟩
 have HVC := Vw (WA (AB y5 HVA.out) (AB y5 HVB.out))
 have hk7 := HSV.out p1 HVC.out.1 HVC.out.2
 have hmp := (World.ownsMap.drew HV.out.2.2).kept (BR y5) (by simp)
 have HY := Vw (WA y1 (WA y2 (WA y3 (WA y4 y5))))
 have HMP := Vw hmp
 obtain ⟨r1, hup, hown, hgrow⟩ := hmp.update Ed underlying127 hnm hky (val := P1) (d := .held P1) (ps := []) rfl
 have hk8 := HSV.out r1 ((hgrow.block _ (AF HVC.out.1) (fun e => Dn HMP.out HVC.out.1 (Option.some.inj e).symm)).trans HVC.out.1) ((hgrow.block _ (AF HVC.out.2) (fun e => Dn HMP.out HVC.out.2 (Option.some.inj e).symm)).trans HVC.out.2)
 clear y1 y2 y3 y4 y5 hmp htc
 refine hK.out _ _ hk7 (fun hHeld => ?_)
 clear hK
 refine tc 8 fun K hK => ?_
 go_simp
 refine hK.out _ _ hk8 (fun hHeld => ?_)
 clear hK
 refine td ?_
 clear hkd hk7 hk8 hHeld hup
 obtain ⟨y1, y2, y3, y4, y5⟩ := HY.out
 have hkp : ∀ {k : Nat} {cs : Array Value} {T : TypeId}, p1.heap[k]? = some (.cells cs T (0, 0)) → r1.heap[k]? = some (.cells cs T (0, 0)) := fun {k cs T} h => (hgrow.block k (AF h) (fun e => by cases e; exact Dn HMP.out h rfl)).trans h
 have hkq : ∀ {k : Nat} {cs : Array Value} {T : TypeId}, r0.heap[k]? = some (.cells cs T (0, 0)) → r1.heap[k]? = some (.cells cs T (0, 0)) := fun {k cs T} h => hkp (AB y5 (show V1.drew.heap[k]? = _ from AB HV.out.1 h))
 have hsz := HBr0.out.size
 have hsv := HV.out.1.size
 have HT1R := Vw (show FW w.heap.size t1 P1 r1 from FW.kept (W := p1) ⟨Q1, y1, y2, fun k hk => Vx (Vx hsz hsv) (y3 k hk), fun k hk => Vx (Vx hsz hsv) (y4 k hk)⟩ hkp)
 have HMr1 := Vw (show r1.ownsMap prog 3 Gq W1.heap.size 2 (.map [(.int .i64 0, .held P0), (.int .i64 1, .held P1)]) from hown)
 have HOGr1 := Vw (hkq HOGr0.out)
 have HIr1 := Vw (hkq HIr0.out)
 have HKQ1 := Vw (show ∀ (k : Nat) (cs : Array Value) (T : TypeId), r0.heap[k]? = some (.cells cs T (0, 0)) → r1.heap[k]? = some (.cells cs T (0, 0)) from fun k cs T h => hkq h)
 have hBp := (hBv.drew).trans (y5.mono (Vx hsz hsv))
 have HBr1 := Vw (hBp.grown hgrow (Vx (Vx hsz hsv) y5.size) (fun k hk => by cases hk; exact HZ1.out))
 clear y1 y2 y3 y4 y5 hkp hkq hsz hsv hown hgrow hBv hBp HV HMP HY
 go_wp2_with fail
 rw [rounds_succ]
 go_wp2_with fail
 go_ret
 exact ⟨_, P0, P1, rfl, HMr1.out, HT0R.out.kept (fun h => HKQ1.out _ _ _ h), HT1R.out, HZ1.out, HBr1.out⟩
end Go.Proofs.YtkoplblbeapfgaaGreatDoor
