/-
Parts of the walk of TopEnds. Conditions stand in each statement.
-/
import Derived.Test.YtkoplblbeapfgaaGreatDoorX25
import Derived.Test.YtkoplblbeapfgaaGreatDoorX26
import Derived.Test.YtkoplblbeapfgaaGreatDoorX29
namespace Go.Proofs.YtkoplblbeapfgaaGreatDoor
open Go.RowKit
open Tryz
set_option linter.all false
set_option maxRecDepth 100000
set_option maxHeartbeats 8000000
structure RnAt (T : Nat → Nat) (w : World) (L : SL) (V : SV) (C : CC) (mb : Nat) (CS R : Value) (rb : Nat) (LV : Value) (m : Mach) (evs : List Ev) : Prop where
 mch : MkAt T w L V C mb CS R m
 head : w.heap[rb]? = some (.cells #[I 2, I 5, I 1, I 1, I 2, I 2, I 2, I 2, I 1, mb, LV, I evs.length] 88)
 row : AH w 92 5 LV evs.length (AY evs)
 tr : T rb = 0
 tl : Fq T LV 0
structure Rs (rb : Nat) (T : Nat → Nat) (w : World) (LV : Value) (T' : Nat → Nat) (w' : World) (LV' : Value) : Prop where
 lab : ∀ k, k < w.heap.size → T' k = T k
 mv : ∀ k, LV'.ownBlock = some k → LV.ownBlock = some k ∨ w.heap.size ≤ k
 pres : Pres (fun k => DU (T k) = false ∧ k ≠ rb ∧ LV.ownBlock ≠ some k) w w'
theorem Rs.refl (rb : Nat) (T : Nat → Nat) (w : World) (LV : Value) : Rs rb T w LV T w LV := ⟨fun _ _ => rfl, fun _ h => .inl h, Pres.refl _ _⟩
theorem Rs.trans {rb : Nat} {T T1 T2 : Nat → Nat} {w w1 w2 : World} {LV L1 L2 : Value} (h : Rs rb T w LV T1 w1 L1) (k : Rs rb T1 w1 L1 T2 w2 L2) : Rs rb T w LV T2 w2 L2 := by
 have hs := h.pres.size
 refine ⟨fun i hi => (k.lab i (Vy hi hs)).trans (h.lab i hi), fun i hi => ?_, ⟨k.pres.os.trans h.pres.os, k.pres.tape.trans h.pres.tape, k.pres.output.trans h.pres.output, Vx hs k.pres.size, fun i hi ha => ?_⟩⟩
 · rcases k.mv i hi with e | e
   · exact h.mv i e
   · exact .inr (Vx hs e)
 · refine (k.pres.block i (Vy hi hs) ⟨by rw [h.lab i hi]; exact ha.1, ha.2.1, fun e => ?_⟩).trans (h.pres.block i hi ha)
   rcases h.mv i e with e | e
   · exact ha.2.2 e
   · omega
section
variable {T : Nat → Nat} {w w' : World} {L : SL} {V : SV} {C : CC} {mb : Nat} {CS R : Value} {rb : Nat} {LV : Value} {m : Mach} {evs : List Ev}
theorem Rs.below (hb : Below w w w') : Rs rb T w LV T w' LV := ⟨fun _ _ => rfl, fun _ h => .inl h, Pres.of_below hb⟩
theorem MkAt.below (h : MkAt T w L V C mb CS R m) (hb : Below w w w') : MkAt T w' L V C mb CS R m := ⟨h.mc.below hb, AB hb h.head, h.cores.below hb, h.tm, h.tc⟩
theorem RnAt.below (h : RnAt T w L V C mb CS R rb LV m evs) (hb : Below w w w') : RnAt T w' L V C mb CS R rb LV m evs := ⟨h.mch.below hb, AB hb h.head, h.row.below hb, h.tr, h.tl⟩
theorem RnAt.low (h : RnAt T w L V C mb CS R rb LV m evs) : ∀ k, w.heap.size ≤ k → T k = 0 := fun k hk => by
 by_cases h0 : T k = 0
 · exact h0
 · exact absurd (h.mch.mc.sys.low k h0) (by omega)
theorem RnAt.start (h : RnAt T w L V C mb CS R rb LV m evs) : Mk T w L C mb CS R m w := ⟨T, V, h.mch, fun _ _ => rfl, Pres.refl _ _⟩
theorem RnAt.step (h : RnAt T w L V C mb CS R rb LV m evs) {m' : Mach} (hk : Mk T w L C mb CS R m' w') : ∃ T' V', RnAt T' w' L V' C mb CS R rb LV m' evs ∧ Rs rb T w LV T' w' LV := by
 obtain ⟨T', V', a, b, c⟩ := hk
 refine ⟨T', V', ⟨a, (c.block rb (AF h.head) (by show DU (T rb) = false; rw [h.tr]; rfl)).trans h.head, h.row.kept fun k hk => c.block k (h.row.lt k hk) (by show DU (T k) = false; rw [h.tl k hk]; rfl), (b _ (AF h.head)).trans h.tr, fun k hk => (b k (h.row.lt k hk)).trans (h.tl k hk)⟩, b, fun _ e => .inl e, c.mono fun k _ ha => ha.1⟩
theorem RnAt.grow (h : RnAt T w L V C mb CS R rb LV m evs) {w3 : World} {A : Option Addr} {AV : Nat} {es : List Ev} (hr : AH w3 92 5 (.slice A (evs.length + es.length) AV) (evs.length + es.length) (AY evs ++ AY es)) (hg : w.grownBy w3 LV.ownBlock) (hm : Bf w LV (.slice A (evs.length + es.length) AV)) :
 RnAt T ((w3.setCell ⟨rb, 10, none⟩ (.slice A (evs.length + es.length) AV)).setCell ⟨rb, 11, none⟩ (I (evs.length + es.length : Nat))) L V C mb CS R rb (.slice A (evs.length + es.length) AV) m (evs ++ es) ∧ Rs rb T w LV T ((w3.setCell ⟨rb, 10, none⟩ (.slice A (evs.length + es.length) AV)).setCell ⟨rb, 11, none⟩ (I (evs.length + es.length : Nat))) (.slice A (evs.length + es.length) AV) := by
 have hh3 := AW h.row hg h.head (by decide)
 have hzero : ∀ k, LV.ownBlock = some k → ¬ (DU (T k) = false ∧ k ≠ rb ∧ LV.ownBlock ≠ some k) := fun k hk ha => ha.2.2 hk
 have hp0 : Ad (fun n => n == 0) T w w3 := Pres.of_grown hg fun k hk ha => by
  have : (T k == 0) = false := ha
  rw [h.tl k hk] at this
  cases this
 have hrb0 : ¬ ((T rb == 0) = false) := by rw [h.tr]; decide
 have hp : Ad (fun n => n == 0) T w ((w3.setCell ⟨rb, 10, none⟩ (.slice A (evs.length + es.length) AV)).setCell ⟨rb, 11, none⟩ (I (evs.length + es.length : Nat))) := (hp0.setCell (p := ⟨rb, 10, none⟩) hrb0 _).setCell (p := ⟨rb, 11, none⟩) hrb0 _
 have ho : ∀ k, k ≠ rb → ((w3.setCell ⟨rb, 10, none⟩ (.slice A (evs.length + es.length) AV)).setCell ⟨rb, 11, none⟩ (I (evs.length + es.length : Nat))).heap[k]? = w3.heap[k]? := fun k hk => (Vz _ _ _ _ hk).trans (Vz _ _ _ _ hk)
 have hmv : ∀ k, (Value.slice A (evs.length + es.length) AV).ownBlock = some k → LV.ownBlock = some k ∨ w.heap.size ≤ k := fun k hk => by
  rcases hm with e | ⟨g, e, hg4⟩
  · exact .inl (e ▸ hk)
  · rw [e] at hk
    cases hk
    exact .inr hg4
 refine ⟨⟨⟨h.mch.mc.keep hp, (ho mb (AG h.mch.head h.head (by decide))).trans (AW h.row hg h.mch.head (by decide)), h.mch.cores.kept fun k hk => ?_, h.mch.tm, h.mch.tc⟩, ?_, ?_, h.tr, fun k hk => ?_⟩, fun _ _ => rfl, hmv, ⟨hp.os, hp.tape, hp.output, hp.size, fun k hk ha => (ho k ha.2.1).trans (hg.block k hk (fun e => ha.2.2 e.symm))⟩⟩
 · obtain ⟨cs', h'⟩ := h.mch.cores.type k hk
   exact (ho k (AG h' h.head (by decide))).trans ((AW h.row hg h' (by decide)).trans h'.symm)
 · have := AI (AI hh3 10 (.slice A (evs.length + es.length) AV)) 11 (I (evs.length + es.length : Nat))
   rw [List.length_append]
   exact this
 · have h1 : AH w3 92 5 (.slice A (evs.length + es.length) AV) (evs ++ es).length (AY (evs ++ es)) := by
    rw [List.length_append, show AY (evs ++ es) = AY evs ++ AY es by simp [AY]]
    exact hr
   refine h1.kept fun k hk => ho k ?_
   obtain ⟨cs', h'⟩ := h1.type k hk
   exact AG h' hh3 (by decide)
 · rcases hmv k hk with e | e
   · exact h.tl k e
   · exact h.low k e
end
theorem UX : ET prog 73 28 1 24 := ET.of underlying73 (z := .slice none 0 0) (by kernel_rfl) rfl
def Fr (w0 : World) (X : Value) (l : List Ins) : Prop := ∀ w, Below w0 w0 w → Y 27 #[Ai, X] w fun e w' => ∃ S, e = Z (.tuple #[S, I 0]) ∧ AH w' 27 1 S l.length (AX (l.map BG)) ∧ (∀ k, S.ownBlock = some k → w.heap.size ≤ k) ∧ Below w.heap.size w w'
theorem DM (x : Ln) (l0 l1 : List Ins) (hl0 : l0.length ≤ 4096) (hl1 : l1.length ≤ 4096) (hd0 : Bk l0 = true) (hd1 : Bk l1 = true) (S TS X0 X1 : Value) (w : World) (hS : AH w 27 1 S 8 (Ln.cells x)) (hTS : AH w 38 1 TS 2 [X0, X1]) (hC0 : Fr w X0 l0) (hC1 : Fr w X1 l1) : Y 7 #[Ai, S, TS] w fun e w' => ∃ T L V C mb CS R rb, e = Z (.tuple #[.pointer (some ⟨rb, 0, none⟩), I 0]) ∧ RnAt T w' L V C mb CS R rb (.slice none 0 0) (Om l0 l1 x) [] ∧ (∀ k, k < w.heap.size → T k = 0) ∧ w.heap.size ≤ rb ∧ Below w w w' := by
 have hgo := Vw (fun w => CA w)
 have hwd := Vw (fun w => DI w)
 have him := Vw (fun w h => MB x S w h)
 have hrc := Vw (fun w => Kr w)
 have HC0 := Vw hC0
 have HC1 := Vw hC1
 unfold Fr at HC0 HC1
 unfold Ai at *
 obtain ⟨sg, soff, scap, _, rfl, _⟩ := hS.lies (by decide)
 obtain ⟨tg, off, tcap, tcs, rfl, htg, _, _, htc⟩ := hTS.lies (by decide)
 obtain ⟨W1, hE, hb1, hI1⟩ := alloc_new w (.cells KA 25)
 have c1 := AA hI1
 have HB1 := Vw hb1
 have HI1 := Vw hI1
 have HTG := Vw (WA htg htc)
 have HS := Vw (hS.below hb1)
 clear hS hTS htg htc hb1 hI1 hC0 hC1
 go_enter func7, ntmps7
 go_wp2_with fail
 refine (hgo.out _).mono ?_
 rintro r w2 ⟨rfl, hb2⟩
 have HB2 := Vw hb2
 have c2 := AA (AB hb2 HI1.out)
 clear hb2 c1 hE
 go_wp2_with fail
 refine (hwd.out _).mono ?_
 rintro r V0 ⟨rfl, hb3⟩
 have HV0 := Vw (show Below W1 W1 V0 from HB2.out.trans (hb3.mono HB2.out.size))
 have c3 := AA (AB HV0.out HI1.out)
 clear hb3 c2
 go_wp2_with fail
 refine wp_loop_rounds 3 ?_
 clear c3
 have cb0 := AA (AB HV0.out HI1.out)
 have e0 : V0.cell? ⟨tg, off, none⟩ = some X0 := AD ((HV0.out.block _ (AF (AB HB1.out HTG.out.1))).trans (AB HB1.out HTG.out.1)) _ (HTG.out.2 0 _ rfl)
 have hc0 := Vw (HC0.out V0 (HB1.out.trans (HV0.out.mono HB1.out.size)))
 rw [rounds_succ]
 go_wp2_with fail
 refine hc0.out.mono ?_
 rintro r u0 ⟨P0, rfl, hp0, ho0, hb0⟩
 obtain ⟨AQ0, cq0, rfl⟩ := hp0.form
 have K0 := Vw (WA hp0 (WA ho0 hb0))
 have HA0 := Vw (AC u0 (.cells #[.slice AQ0 l0.length cq0] 28))
 clear hp0 ho0 hb0 cb0 e0 hc0
 go_wp2_with (at_builtin; refine Ab rfl _ _ _ _ rfl UX (.slice none 0 0) 0 [] rfl (((AH.nil V0 28 1).below K0.out.2.2).below HA0.out) _ 1 _ rfl (Src.one underlying73 (AE u0 _) rfl (by simp [Value.oneCell'])) (by omega) (by omega) ?_)
 intro A1 cap1 V1 hr0 hg0 hm0
 have hgb0 : ∀ k, ((.slice none 0 0) : Value).ownBlock = some k → W1.heap.size ≤ k := fun k hk => by simp [Value.ownBlock] at hk
 have z0 := HV0.out.size
 have zz0 := K0.out.2.2.size
 have zA0 := HA0.out.size
 have HR1 := Vw (show AH V1 28 1 (.slice A1 1 cap1) 1 [(.slice AQ0 l0.length cq0)] from hr0)
 have HO1 := Vw (show ∀ k, (Value.slice A1 1 cap1).ownBlock = some k → W1.heap.size ≤ k from fun k hk => by
  rcases hm0 with e | ⟨g', e, hg'⟩
  · exact hgb0 k (e ▸ hk)
  · rw [e] at hk
    cases hk
    omega)
 have HV1 := Vw (show Below W1 W1 V1 from ((HV0.out.trans (K0.out.2.2.mono HV0.out.size)).trans (HA0.out.mono (by omega))).grown hg0 (by omega) hgb0)
 have HKP0 := Vw (show AH V1 27 1 (.slice AQ0 l0.length cq0) l0.length (AX (l0.map BG)) from (K0.out.1.below HA0.out).kept fun k hk => hg0.block k ((K0.out.1.below HA0.out).lt k hk) (fun e => by
  obtain ⟨cs', h'⟩ := (K0.out.1.below HA0.out).type k hk
  obtain ⟨cs2, h2⟩ := (((AH.nil V0 28 1).below K0.out.2.2).below HA0.out).type k e.symm
  rw [h'] at h2
  cases h2))
 clear hr0 hg0 hm0 hgb0 z0 zz0 zA0
 go_wp2_with fail
 have cb1 := AA (AB HV1.out HI1.out)
 have e1 : V1.cell? ⟨tg, off + 1, none⟩ = some X1 := AD ((HV1.out.block _ (AF (AB HB1.out HTG.out.1))).trans (AB HB1.out HTG.out.1)) _ (HTG.out.2 1 _ rfl)
 have hc1 := Vw (HC1.out V1 (HB1.out.trans (HV1.out.mono HB1.out.size)))
 rw [rounds_succ]
 go_wp2_with fail
 refine hc1.out.mono ?_
 rintro r u1 ⟨P1, rfl, hp1, ho1, hb1⟩
 obtain ⟨AQ1, cq1, rfl⟩ := hp1.form
 have K1 := Vw (WA hp1 (WA ho1 hb1))
 have HA1 := Vw (AC u1 (.cells #[.slice AQ1 l1.length cq1] 28))
 clear hp1 ho1 hb1 cb1 e1 hc1
 go_wp2_with (at_builtin; refine Ab rfl _ _ _ _ rfl UX (.slice A1 1 cap1) 1 [(.slice AQ0 l0.length cq0)] rfl ((HR1.out.below K1.out.2.2).below HA1.out) _ 1 _ rfl (Src.one underlying73 (AE u1 _) rfl (by simp [Value.oneCell'])) (by omega) (by omega) ?_)
 intro A2 cap2 V2 hr1 hg1 hm1
 have hgb1 : ∀ k, ((.slice A1 1 cap1) : Value).ownBlock = some k → W1.heap.size ≤ k := HO1.out
 have z1 := HV1.out.size
 have zz1 := K1.out.2.2.size
 have zA1 := HA1.out.size
 have HR2 := Vw (show AH V2 28 1 (.slice A2 2 cap2) 2 [(.slice AQ0 l0.length cq0), (.slice AQ1 l1.length cq1)] from hr1)
 have HO2 := Vw (show ∀ k, (Value.slice A2 2 cap2).ownBlock = some k → W1.heap.size ≤ k from fun k hk => by
  rcases hm1 with e | ⟨g', e, hg'⟩
  · exact hgb1 k (e ▸ hk)
  · rw [e] at hk
    cases hk
    omega)
 have HV2 := Vw (show Below W1 W1 V2 from ((HV1.out.trans (K1.out.2.2.mono HV1.out.size)).trans (HA1.out.mono (by omega))).grown hg1 (by omega) hgb1)
 have HKP1 := Vw (show AH V2 27 1 (.slice AQ1 l1.length cq1) l1.length (AX (l1.map BG)) from (K1.out.1.below HA1.out).kept fun k hk => hg1.block k ((K1.out.1.below HA1.out).lt k hk) (fun e => by
  obtain ⟨cs', h'⟩ := (K1.out.1.below HA1.out).type k hk
  obtain ⟨cs2, h2⟩ := ((HR1.out.below K1.out.2.2).below HA1.out).type k e.symm
  rw [h'] at h2
  cases h2))
 have HKQ0 := Vw (show AH V2 27 1 (.slice AQ0 l0.length cq0) l0.length (AX (l0.map BG)) from ((HKP0.out.below K1.out.2.2).below HA1.out).kept fun k hk => hg1.block k (((HKP0.out.below K1.out.2.2).below HA1.out).lt k hk) (fun e => by
  obtain ⟨cs', h'⟩ := ((HKP0.out.below K1.out.2.2).below HA1.out).type k hk
  obtain ⟨cs2, h2⟩ := ((HR1.out.below K1.out.2.2).below HA1.out).type k e.symm
  rw [h'] at h2
  cases h2))
 clear hr1 hg1 hm1 hgb1 z1 zz1 zA1
 go_wp2_with fail
 rw [rounds_succ]
 have c4 := AA (AB HV2.out HI1.out)
 go_wp2_with fail
 refine (him.out _ (HS.out.below HV2.out)).mono ?_
 rintro r w5 ⟨IM, rfl, hi5, ho5, hb5⟩
 have HI5 := Vw hi5
 have HV5 := Vw (HV2.out.trans (hb5.mono HV2.out.size))
 have HB5 := Vw hb5
 have c5 := AA (AB HV5.out HI1.out)
 clear hi5 ho5 hb5 c4
 go_wp2_with fail
 refine (hrc.out _).mono ?_
 rintro r w6 ⟨RC, rfl, hr6, ho6, hb6⟩
 have HR6 := Vw hr6
 have HV6 := Vw (HV5.out.trans (hb6.mono HV5.out.size))
 have HB6 := Vw (HB5.out.trans (hb6.mono HB5.out.size))
 have HI6 := Vw (HI5.out.below hb6)
 have c6 := AA (AB HV6.out HI1.out)
 clear hr6 ho6 hb6 c5
 obtain ⟨n1, n2, n3, n4⟩ := of_decide_eq_true Nv
 have hrl : Lc.length = Fa.l.length := Cb _ _ _
 have hmn := Vw (NQ Ln.zero Ln.zero Ln.zero Ln.zero x l0 l1 Lc hl0 hl1 (by omega) (by omega) (Dk hd0) (Dk hd1) (Dk Pt) IM (.slice A2 2 cap2) _ _ RC w6 HI6.out (HR2.out.below HB6.out) (HKQ0.out.below HB6.out) (HKP1.out.below HB6.out) HR6.out)
 unfold Dv at hmn
 clear n1 n2 n3 n4 hrl
 go_wp2_with fail
 refine hmn.out.mono ?_
 rintro r w7 ⟨T, L, V, C, mb, CS, R, rfl, hmk, hTz, hb7⟩
 have HMK := Vw hmk
 have HV7 := Vw (HV6.out.trans (hb7.mono HV6.out.size))
 have HT := Vw hTz
 have c7 := AA (AB HV7.out HI1.out)
 have hz6 := Vw HV6.out.size
 clear hmk hTz hb7 c6
 go_wp2_with fail
 go_ret2
 have hA := AC w7 (.cells #[I 2, I 5, I 1, I 1, I 2, I 2, I 2, I 2, I 1, mb, .slice none 0 0, I 0] 88)
 refine ⟨T, L, V, C, mb, CS, R, w7.heap.size, rfl, ⟨HMK.out.below hA, AE w7 _, En _, ?_, fun k hk => by simp [Value.ownBlock] at hk⟩, fun k hk => HT.out k (by have := HB1.out.size; have := hz6.out; omega), by have := HB1.out.size; have := HV7.out.size; omega, HB1.out.trans ((HV7.out.trans (hA.mono HV7.out.size)).mono HB1.out.size)⟩
 by_cases h0 : T w7.heap.size = 0
 · exact h0
 · exact absurd (HMK.out.mc.sys.low _ h0) (by omega)
end Go.Proofs.YtkoplblbeapfgaaGreatDoor
