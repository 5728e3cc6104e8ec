/-
Parts of the walk of TopEnds. Conditions stand in each statement.
-/
import Derived.Test.YtkoplblbeapfgaaGreatDoorX30
namespace Go.Proofs.YtkoplblbeapfgaaGreatDoor
open Go.RowKit
open Tryz
set_option linter.all false
set_option maxRecDepth 100000
set_option maxHeartbeats 8000000
theorem Src.ofRow {w : World} {S : Value} {es : List Ev} (h : AH w 92 5 S es.length (AY es)) : Go.Src prog 5 42 S es.length (AY es) w := h.src underlying42 (EV es)
theorem rdoesX :
  (∀ (hdec : EO) (T : Nat → Nat) (L : SL) (V : SV) (C : CC) (mb : Nat) (CS R : Value) (rb : Nat) (LV : Value) (m : Mach) (evs : List Ev) (hp : ∀ i, AK i = true → (m.core i).prog.length ≤ 4096) (k x : Int) (m' : Mach) (es : List Ev) (hr : m.actG k x = some (m', es)) (hf : k ≤ 5) (hle : evs.length ≤ 90000) (w : World) (h : RnAt T w L V C mb CS R rb LV m evs), Y 49 #[rb, .agg #[I k, I x, I 0]] w fun r w' => ∃ S T' V' LV', r = Z S ∧ RnAt T' w' L V' C mb CS R rb LV' m' (evs ++ es) ∧ Rs rb T w LV T' w' LV' ∧ AH w' 92 5 S es.length (AY es) ∧ ∀ j, S.ownBlock = some j → w.heap.size ≤ j ∧ LV'.ownBlock ≠ some j) ∧
  (∀ (hdec : EO) (T : Nat → Nat) (L : SL) (V : SV) (C : CC) (mb : Nat) (CS R : Value) (rb : Nat) (LV : Value) (m : Mach) (evs : List Ev) (hp : ∀ i, AK i = true → (m.core i).prog.length ≤ 4096) (k x : Int) (m' : Mach) (es : List Ev) (hr : m.actG k x = some (m', es)) (hf : ¬ k ≤ 5) (hle : evs.length ≤ 90000) (w : World) (h : RnAt T w L V C mb CS R rb LV m evs), Y 49 #[rb, .agg #[I k, I 0, I x]] w fun r w' => ∃ S T' V' LV', r = Z S ∧ RnAt T' w' L V' C mb CS R rb LV' m' (evs ++ es) ∧ Rs rb T w LV T' w' LV' ∧ AH w' 92 5 S es.length (AY es) ∧ ∀ j, S.ownBlock = some j → w.heap.size ≤ j ∧ LV'.ownBlock ≠ some j) := by
 refine ⟨?m0, ?m1⟩
 case' m0 =>
  intro hdec T L V C mb CS R rb LV m evs hp k x m' es hr hf hle w h
  have mk_0 := trivial
 case' m1 =>
  intro hdec T L V C mb CS R rb LV m evs hp k x m' es hr hf hle w h
  have mk_1 := trivial
 all_goals
  have hlen2 : es.length ≤ 2 := (Jy hr).2
  first
   | guard_hyp mk_1
     (obtain ⟨W1, hE, hb, hI⟩ := alloc_new w (.cells #[I k, I 0, I x] 58))
   | (obtain ⟨W1, hE, hb, hI⟩ := alloc_new w (.cells #[I k, I x, I 0] 58))
  have h1 := h.below hb
  have c1 := AA h1.head
  have c2 := AA hI
  first
   | guard_hyp mk_1
     have hv : Ey k x = #[I k, I 0, I x] := by unfold Ey; rw [if_neg hf]
   | have hv : Ey k x = #[I k, I x, I 0] := by unfold Ey; rw [if_pos hf]
  have hdo := Vw (fun w h => QQ hdec T W1 L C mb CS R m hp k x m' es hr w h)
  rw [hv] at hdo
  have hcnt := Vw (Ir ⟨rb, 11, none⟩ evs.length W1 (AD h1.head 11 rfl))
  have HB := Vw hb
  have H1 := Vw h1
  have hge : (decide ((100000 : Int) ≤ (evs.length : Int))) = false := by simp; omega
  have hle' : (evs.length : Int) ≤ 90000 := by omega
  have hlt' : (evs.length : Int) < 100000 := by omega
  have HL := Vw hle
  have HL2 := Vw hlen2
  have hltw : rb ≠ w.heap.size := Nat.ne_of_lt (AF h.head)
  generalize hN : (evs.length : Int) = N at c1 hcnt hge hle' hlt'
  have hN0 : 0 ≤ N := by omega
  have HN := Vw hN
  clear h h1 hb hI hr hp hv hf hle hlen2 hN
  go_enter func49, ntmps49
  go_wp2_with fail
  refine hcnt.out.mono ?_
  rintro r w1 ⟨rfl, he⟩
  obtain rfl : W1 = w1 := he.symm
  go_wp2_with fail
  go_still_tail 5, (by kernel_rfl)
  change wpList _ _ _ _ _ W1.drew
  go_wp2_with fail
  refine (hdo.out _ H1.out.start.drew).mono ?_
  rintro r w2 ⟨S, rfl, hr2, ho2, hk2⟩
  obtain ⟨T2, V2, q2, rs2⟩ := H1.out.step hk2
  have Q2 := Vw q2
  have HR2 := Vw hr2
  have HO2 := Vw (show ∀ j, S.ownBlock = some j → w.heap.size ≤ j from fun j hj => Vx HB.out.size (ho2 j hj))
  have HO1 := Vw ho2
  have HRs := Vw ((Rs.below (rb := rb) (T := T) (LV := LV) HB.out).trans rs2)
  have hq2 := q2.head
  rw [HN.out] at hq2
  have hcnt2 := Vw (Ir ⟨rb, 11, none⟩ N w2 (AD hq2 11 rfl))
  have c2 := AA hq2
  have hes : (es.length : Int) ≤ 2 := by have := HL2.out; omega
  have hmin : min (es.length : Int) (100000 - N) = es.length := by omega
  clear hk2 q2 rs2 ho2 c1 hcnt hdo hq2
  rcases hr2.2 with ⟨rfl, hn⟩ | ⟨g, off, AV, cs, rfl, hg, hc1, hc2, hc3⟩
  · have hes0 : es = [] := List.eq_nil_of_length_eq_zero hn
    subst hes0
    have hmin0 : min (0 : Int) (100000 - N) = 0 := by omega
    clear hr2
    go_wp2_with (first | (go_at_call 87; refine hcnt2.out.mono ?_; rintro r wq ⟨rfl, he⟩; obtain rfl : w2 = wq := he.symm) | (at_builtin; refine Ab rfl _ _ _ _ rfl Ki LV evs.length (AY evs) rfl Q2.out.row _ ([] : List Ev).length (AY []) rfl (Src.ofRow HR2.out) (by have := HL.out; have := HL2.out; omega) (by have := HL.out; have := HL2.out; omega) ?_))
    intro A3 cap3 w3 hr3 hg3 hm3
    have hq3 := AW Q2.out.row hg3 Q2.out.head (by decide)
    rw [HN.out] at hq3
    have hs3 := AI hq3 10 (.slice A3 (evs.length + ([] : List Ev).length) cap3)
    have hcs := Vw (Dh ⟨rb, 11, none⟩ N ([] : List Ev).length ((evs.length + ([] : List Ev).length : Nat) : Int) (by have := HL.out; have := HL2.out; have := HN.out; rw [IntKind.wrap_i64]; omega) (w3.setCell ⟨rb, 10, none⟩ (.slice A3 (evs.length + ([] : List Ev).length) cap3)) (AD hs3 11 rfl) (Aq hs3 _))
    have c3 := AA hq3
    have f3 := AJ hq3
    have HG := Vw (WA (Q2.out.grow hr3 hg3 hm3) (WA hg3 hm3))
    clear hr3 hg3 hm3 hq3 hs3 c2
    go_wp2_with fail
    refine hcs.out.mono ?_
    rintro r w4 ⟨rfl, rfl⟩
    go_wp2_with fail
    go_ret
    obtain ⟨⟨r1, r2⟩, g3, m3⟩ := HG.out
    exact ⟨_, T2, V2, _, rfl, r1, HRs.out.trans r2, En _, fun j hj => by simp [Value.ownBlock] at hj⟩
  · have hcc : (es.length : Int) ≤ (AV : Int) := by omega
    clear hr2 hg hc2 hc3
    go_wp2_with (first | (go_at_call 87; refine hcnt2.out.mono ?_; rintro r wq ⟨rfl, he⟩; obtain rfl : w2 = wq := he.symm) | (at_builtin; refine Ab rfl _ _ _ _ rfl Ki LV evs.length (AY evs) rfl Q2.out.row _ es.length (AY es) rfl (Src.ofRow HR2.out) (by have := HL.out; have := HL2.out; omega) (by have := HL.out; have := HL2.out; omega) ?_))
    intro A3 cap3 w3 hr3 hg3 hm3
    have hq3 := AW Q2.out.row hg3 Q2.out.head (by decide)
    rw [HN.out] at hq3
    have hs3 := AI hq3 10 (.slice A3 (evs.length + es.length) cap3)
    have hcs := Vw (Dh ⟨rb, 11, none⟩ N es.length ((evs.length + es.length : Nat) : Int) (by have := HL.out; have := HL2.out; have := HN.out; rw [IntKind.wrap_i64]; omega) (w3.setCell ⟨rb, 10, none⟩ (.slice A3 (evs.length + es.length) cap3)) (AD hs3 11 rfl) (Aq hs3 _))
    have c3 := AA hq3
    have f3 := AJ hq3
    have HG := Vw (WA (Q2.out.grow hr3 hg3 hm3) (WA hg3 hm3))
    clear hr3 hg3 hm3 hq3 hs3 c2
    go_wp2_with fail
    refine hcs.out.mono ?_
    rintro r w4 ⟨rfl, rfl⟩
    go_wp2_with fail
    go_ret
    obtain ⟨⟨r1, r2⟩, g3, m3⟩ := HG.out
    have hgl := HR2.out.lt g rfl
    have hlv : ∀ j, LV.ownBlock = some j → j < W1.heap.size := fun j hj => H1.out.row.lt j hj
    have hgW : W1.heap.size ≤ g := HO1.out g rfl
    have hgr : g ≠ rb := by have := AF H1.out.head; omega
    have hne : LV.ownBlock ≠ some g := fun e => by have := hlv g e; omega
    refine ⟨_, T2, V2, _, rfl, r1, HRs.out.trans r2, HR2.out.kept fun j hj => ?_, fun j hj => ⟨HO2.out j hj, fun e => ?_⟩⟩
    · cases hj
      exact (Vz _ _ _ _ hgr).trans ((Vz _ _ _ _ hgr).trans (g3.block g hgl (fun e => hne e.symm)))
    · cases hj
      rcases m3 with e2 | ⟨g', e2, hg'⟩
      · exact hne (e2 ▸ e)
      · rw [e2] at e
        have hgg : g' = g := Option.some.inj e
        have q1 : w2.heap.size ≤ g' := hg'
        have q2 : g < w2.heap.size := hgl
        omega
section
variable {T T1 : Nat → Nat} {w w1 w2 w' : World} {L : SL} {V : SV} {C : CC} {mb : Nat} {CS R : Value} {rb : Nat} {LV L1 : Value} {m : Mach} {evs : List Ev}
theorem RnAt.beside (h : RnAt T w L V C mb CS R rb LV m evs) {v : Value} {n : Nat} {xs : List Value} (hv : AH w 92 5 v n xs) (hT : ∀ k, v.ownBlock = some k → T k = 0 ∧ LV.ownBlock ≠ some k) (hg : w.grownBy w' v.ownBlock) : RnAt T w' L V C mb CS R rb LV m evs := by
 have hp : Ad (fun n => n == 0) T w w' := Pres.of_grown hg fun k hk ha => by
  have : (T k == 0) = false := ha
  rw [(hT k hk).1] at this
  cases this
 refine ⟨⟨h.mch.mc.keep hp, AW hv hg h.mch.head (by decide), h.mch.cores.kept fun k hk => ?_, h.mch.tm, h.mch.tc⟩, AW hv hg h.head (by decide), h.row.kept fun k hk => hg.block k (h.row.lt k hk) (fun e => (hT k e.symm).2 hk), h.tr, h.tl⟩
 obtain ⟨cs', h'⟩ := h.mch.cores.type k hk
 exact (AW hv hg h' (by decide)).trans h'.symm
theorem Rs.grown (h : Rs rb T w LV T1 w1 L1) {g : Option Nat} (hg : w1.grownBy w2 g) (hlo : ∀ k, g = some k → w.heap.size ≤ k) : Rs rb T w LV T1 w2 L1 :=
 ⟨h.lab, h.mv, ⟨hg.os.trans h.pres.os, hg.tape.trans h.pres.tape, hg.output.trans h.pres.output, Vx h.pres.size hg.size, fun k hk ha => (hg.block k (Vy hk h.pres.size) (fun e => by have := hlo k e.symm; omega)).trans (h.pres.block k hk ha)⟩⟩
end
structure OutR (lo : Nat) (T : Nat → Nat) (W : World) (LV v : Value) (bound : Nat) : Prop where
 row : ∃ n xs, AH W 92 5 v n xs ∧ n ≤ bound ∧ ∀ u ∈ xs, u.oneCell' = true
 own : ∀ k, v.ownBlock = some k → lo ≤ k ∧ T k = 0 ∧ LV.ownBlock ≠ some k
theorem Pc : BP.map ActI.l = Cj.map (fun p => (Ey p.1 p.2).toList) := by kernel_rfl
theorem UW {j : Nat} {p : Int × Int} (h : Cj[j]? = some p) : ∃ a, BP[j]? = some a ∧ a.l = (Ey p.1 p.2).toList := by
 have e := congrArg (fun l => l[j]?) Pc
 simp only [List.getElem?_map, h, Option.map_some] at e
 cases ha : BP[j]? with
 | none => simp [ha] at e
 | some a =>
   simp only [ha, Option.map_some, Option.some.injEq] at e
   exact ⟨a, rfl, e⟩
theorem Mr {w : World} {v : Value} {l : List ActI} (hr : AH w 58 3 v l.length (Br l)) {j : Nat} {x : ActI} (hx : l[j]? = some x) : ∃ g off AV, v = .slice (some ⟨g, off, none⟩) l.length AV ∧ l.length ≤ AV ∧ ∀ i u, x.l[i]? = some u → w.cell? ⟨g, off + j * 3 + i, none⟩ = some u := by
 obtain ⟨g, off, AV, hv, hc, _, h⟩ := AH.elem (f := ActI.l) (size := 3) (fun _ => rfl) hr hx
 exact ⟨g, off, AV, hv, hc, h⟩
theorem NK (hdec : EO) (T : Nat → Nat) (L : SL) (V : SV) (C : CC) (mb : Nat) (CS R : Value) (rb : Nat) (LV : Value) (m : Mach) (evs : List Ev) (hp : ∀ i, AK i = true → (m.core i).prog.length ≤ 4096) (k x : Int) (m' : Mach) (es : List Ev) (hr : m.actG k x = some (m', es)) (hle : evs.length ≤ 90000) (w : World) (h : RnAt T w L V C mb CS R rb LV m evs) : Y 49 #[rb, .agg (Ey k x)] w fun r w' => ∃ S T' V' LV', r = Z S ∧ RnAt T' w' L V' C mb CS R rb LV' m' (evs ++ es) ∧ Rs rb T w LV T' w' LV' ∧ AH w' 92 5 S es.length (AY es) ∧ ∀ j, S.ownBlock = some j → w.heap.size ≤ j ∧ LV'.ownBlock ≠ some j := by
 by_cases hf : k ≤ 5
 · rw [show Ey k x = #[I k, I x, I 0] by unfold Ey; rw [if_pos hf]]
   exact rdoesX.1 hdec T L V C mb CS R rb LV m evs hp k x m' es hr hf hle w h
 · rw [show Ey k x = #[I k, I 0, I x] by unfold Ey; rw [if_neg hf]]
   exact rdoesX.2 hdec T L V C mb CS R rb LV m evs hp k x m' es hr hf hle w h
theorem NH (hdec : EO) (T : Nat → Nat) (L : SL) (V : SV) (C : CC) (mb : Nat) (CS R : Value) (rb : Nat) (LV : Value) (m : Mach) (evs : List Ev) (hp : ∀ i, AK i = true → (m.core i).prog.length ≤ 4096) (mF : Mach) (evF : List Ev) (hr : Eh Cj m evs = some (mF, evF)) (hle : evs.length ≤ 80000) (S : Value) (w : World) (h : RnAt T w L V C mb CS R rb LV m evs) (hS : AH w 58 3 S BP.length (Br BP)) (hST : ∀ k, S.ownBlock = some k → T k = 0) : Y 18 #[rb, S] w fun r w' => ∃ v T' V' LV', r = Z v ∧ RnAt T' w' L V' C mb CS R rb LV' mF evF ∧ Rs rb T w LV T' w' LV' ∧ OutR w.heap.size T' w' LV' v 40 ∧ evF.length ≤ evs.length + 40 ∧ mF.c0.prog = m.c0.prog ∧ mF.c1.prog = m.c1.prog := by
 have hln : BP.length = 20 := rfl
 have hlI : Cj.length = 20 := rfl
 obtain ⟨g, off, AV, hvS, hcap, _⟩ := Mr (j := 0) hS rfl
 subst hvS
 rw [hln] at hcap
 have HS := Vw hS
 have HST := Vw hST
 have H := Vw h
 have HP := Vw hp
 have HR := Vw hr
 have HE := Vw hle
 have hcap' : (20 : Int) ≤ (AV : Int) := by omega
 clear hS hST h hp hr hle hln
 rw [show BP.length = 20 from rfl]
 go_enter func18, ntmps18
 go_wp2_with fail
 go_loopw [5, 16] (fun v i W => ∃ j : Nat, j ≤ 20 ∧ i = I j ∧ ∃ mj ej T' V' LV', Eh (Cj.drop j) mj ej = some (mF, evF) ∧ RnAt T' W L V' C mb CS R rb LV' mj ej ∧ Rs rb T w LV T' W LV' ∧ OutR w.heap.size T' W LV' v (2 * j) ∧ ej.length ≤ evs.length + 2 * j ∧ mj.c0.prog = m.c0.prog ∧ mj.c1.prog = m.c1.prog) (fun v i W => 20 - (intOf i).toNat)
 case atStart => exact ⟨0, by omega, rfl, m, evs, T, V, LV, HR.out, H.out, Rs.refl _ _ _ _, ⟨⟨0, [], AH.nil _ _ _, Nat.le_refl _, fun u hu => by simp at hu⟩, fun k hk => by simp [Value.ownBlock] at hk⟩, Nat.le_refl _, rfl, rfl⟩
 case round =>
  obtain ⟨j, hj, rfl, mj, ej, T', V', LV', ha, hrn, hrs, ho, hel, hp0, hp1⟩ := hrel
  obtain ⟨n, xs, hrow, hn, hone⟩ := ho.row
  obtain ⟨A2, cap2, rfl⟩ := hrow.form
  have HRn := Vw hrn
  have HRs := Vw hrs
  have HO := Vw ho
  have HRow := Vw hrow
  have HOne := Vw hone
  have HN := Vw hn
  have HL := Vw hel
  have HPr := Vw (WA hp0 hp1)
  have HA := Vw ha
  clear hrn hrs ho hrow hone hn hel hp0 hp1 ha
  by_cases hlt : j < 20
  · obtain ⟨p, hpj⟩ : ∃ p, Cj[j]? = some p := ⟨_, List.getElem?_eq_getElem (by rw [hlI]; exact hlt)⟩
    obtain ⟨a, haj, hal⟩ := UW hpj
    have hd : Cj.drop j = p :: Cj.drop (j + 1) := by
     have hj' : j < Cj.length := by rw [hlI]; exact hlt
     rw [List.drop_eq_getElem_cons hj']
     rw [List.getElem?_eq_getElem hj'] at hpj
     rw [Option.some.inj hpj]
    have hact := HA.out
    rw [hd, Eh] at hact
    cases hg : mj.actG p.1 p.2 with
    | none => simp [hg] at hact
    | some q =>
    obtain ⟨m1, e1⟩ := q
    simp only [hg, Option.bind_some] at hact
    have HA1 := Vw hact
    have hpg := Jy hg
    have HPG := Vw hpg
    have hSb : ∀ k, (Value.slice (some ⟨g, off, none⟩) 20 AV).ownBlock = some k → wr.heap[k]? = w.heap[k]? := fun k hk => HRs.out.pres.block k (HS.out.lt k hk) ⟨by rw [HST.out k hk]; rfl, fun e => by
     obtain ⟨cs', h'⟩ := HS.out.type k hk
     exact AG h' H.out.head (by decide) e, fun e => by
     obtain ⟨cs', h'⟩ := HS.out.type k hk
     obtain ⟨cs2, h2⟩ := H.out.row.type k e
     rw [h'] at h2
     cases h2⟩
    obtain ⟨g', off', cap', hv, _, hcell⟩ := Mr (HS.out.kept hSb) haj
    cases hv
    have hj0 : (0 : Int) ≤ (j : Int) := by omega
    have hj1 : (j : Int) < 20 := by omega
    have e0 : wr.cell? ⟨g, off + j * 3, none⟩ = I a.kind := hcell 0 _ rfl
    have e1' : wr.cell? ⟨g, off + j * 3 + 1, none⟩ = I a.core := hcell 1 _ rfl
    have e2 : wr.cell? ⟨g, off + j * 3 + 2, none⟩ = I a.line := hcell 2 _ rfl
    obtain ⟨W2, hE, hb2, hI2⟩ := alloc_new wr (.cells #[I a.kind, I a.core, I a.line] 58)
    have c2 := AA hI2
    have hav : Ey p.1 p.2 = #[I a.kind, I a.core, I a.line] := by
     have := congrArg List.toArray hal
     simpa [ActI.l] using this.symm
    have hdo := NK hdec T' L V' C mb CS R rb LV' mj ej (fun i hi => by
     have h1 := HP.out i hi
     rcases Aa hi with rfl | rfl
     · show mj.c0.prog.length ≤ 4096
       rw [HPr.out.1]
       exact h1
     · show mj.c1.prog.length ≤ 4096
       rw [HPr.out.2]
       exact h1) p.1 p.2 m1 e1 hg (by have := HL.out; have := HE.out; omega) W2 (HRn.out.below hb2)
    rw [hav] at hdo
    have HDO := Vw hdo
    have HB2 := Vw hb2
    clear hdo hcell hSb haj hal hpj hd hact hg hpg hb2 hI2 hav
    go_wp2_with fail
    refine HDO.out.mono ?_
    rintro r w3 ⟨S3, T3, V3, L3, rfl, rn3, rs3, row3, own3⟩
    have hrsA := (HRs.out.trans (Rs.below (rb := rb) (T := T') (LV := LV') HB2.out)).trans rs3
    have hrow3 : AH w3 92 5 (.slice A2 n cap2) n xs := (HRow.out.below HB2.out).kept fun k hk => rs3.pres.block k ((HRow.out.below HB2.out).lt k hk) ⟨by rw [(HO.out.own k hk).2.1]; rfl, fun e => by
     obtain ⟨cs', h'⟩ := HRow.out.type k hk
     exact AG h' HRn.out.head (by decide) e, (HO.out.own k hk).2.2⟩
    have hown3 : ∀ k, (Value.slice A2 n cap2).ownBlock = some k → w.heap.size ≤ k ∧ T3 k = 0 ∧ L3.ownBlock ≠ some k := fun k hk => by
     have hk' := (HRow.out.below HB2.out).lt k hk
     obtain ⟨o1, o2, o3⟩ := HO.out.own k hk
     refine ⟨o1, (rs3.lab k hk').trans o2, fun e => ?_⟩
     rcases rs3.mv k e with e | e
     · exact o3 e
     · omega
    have HX := Vw (WA rn3 (WA hrsA (WA hrow3 (WA hown3 (WA row3 own3)))))
    have hes : e1.length ≤ 2 := HPG.out.2
    have hn2 : n ≤ 40 := by have := HN.out; omega
    have HES := Vw (WA hes hn2)
    clear rn3 rs3 hrsA hrow3 hown3 row3 own3 e0 e1' e2 c2
    go_wp2_with (at_builtin; refine Ab rfl _ _ _ _ rfl Ki _ n xs rfl HX.out.2.2.1 S3 e1.length (AY e1) rfl (Src.ofRow HX.out.2.2.2.2.1) (by have := HES.out; omega) (by have := HES.out; omega) ?_)
    intro A4 cap4 w4 hr4 hg4 hm4
    obtain ⟨rn3, hrsA, hrow3, hown3, row3, own3⟩ := HX.out
    have hw3 := hrsA.pres.size
    have HF := Vw (show RnAt T3 w4 L V3 C mb CS R rb L3 m1 (ej ++ e1) ∧ Rs rb T w LV T3 w4 L3 ∧ OutR w.heap.size T3 w4 L3 (.slice A4 (n + e1.length) cap4) (2 * (j + 1)) from ⟨rn3.beside hrow3 (fun k hk => ⟨(hown3 k hk).2.1, (hown3 k hk).2.2⟩) hg4, hrsA.grown hg4 (fun k hk => (hown3 k hk).1), ⟨_, _, hr4, by have := HES.out; have := HN.out; omega, fun u hu => by
     rcases List.mem_append.1 hu with h | h
     · exact HOne.out u h
     · exact EV _ u h⟩, fun k hk => by
     rcases hm4 with e | ⟨g4, e, hg'⟩
     · exact hown3 k (e ▸ hk)
     · rw [e] at hk
       cases hk
       exact ⟨by omega, rn3.low _ hg', fun e2 => by have := rn3.row.lt _ e2; omega⟩⟩)
    clear hr4 hg4 hm4 rn3 hrsA hrow3 hown3 row3 own3
    go_wp2_with fail
    refine ⟨⟨j + 1, by omega, by simp, m1, ej ++ e1, T3, V3, L3, HA1.out, HF.out.1, HF.out.2.1, HF.out.2.2, ?_, HPG.out.1.1.trans HPr.out.1, HPG.out.1.2.trans HPr.out.2⟩, by simp [intOf]; omega⟩
    have := HES.out
    have := HL.out
    rw [List.length_append]
    omega
  · obtain rfl : j = 20 := by omega
    have ha := HA.out
    rw [show Cj.drop 20 = [] from rfl, Eh] at ha
    simp only [Option.some.injEq, Prod.mk.injEq] at ha
    obtain ⟨rfl, rfl⟩ := ha
    go_wp2_with fail
    go_ret
    exact ⟨_, T', V', LV', rfl, HRn.out, HRs.out, HO.out, HL.out, HPr.out.1, HPr.out.2⟩
theorem QB {m : Mach} (h : m.okQ = true) : ∀ i, AK i = true → (m.s.q i 1).length < 1000 ∧ (m.s.q i 2).length < 1000 ∧ (m.s.q i 3).length < 1000 := by
 simp only [Mach.okQ, Bool.and_eq_true, decide_eq_true_eq] at h
 intro i hi
 rcases Aa hi with rfl | rfl
 · exact ⟨h.1.1.1.1.1, h.1.1.1.1.2, h.1.1.1.2⟩
 · exact ⟨h.1.1.2, h.1.2, h.2⟩
theorem Hd (hdec : EO) (T : Nat → Nat) (L : SL) (V : SV) (C : CC) (mb : Nat) (CS R : Value) (rb : Nat) (LV : Value) (m : Mach) (hp : ∀ i, AK i = true → (m.core i).prog.length ≤ 4096) (rounds : Nat) (hrd : rounds ≤ 2000) (mF : Mach) (evF : List Ev) (hr : Co rounds m [] = some (mF, evF)) (w : World) (h : RnAt T w L V C mb CS R rb LV m []) : Y 9 #[rb, I rounds] w fun r w' => ∃ T' V' LV', (∃ v, r = Z v) ∧ RnAt T' w' L V' C mb CS R rb LV' mF evF ∧ Rs rb T w LV T' w' LV' ∧ evF.length ≤ 80000 := by
 have c1 := AA h.head
 have hrnd := Vw (show ∀ w, Y 31 #[.agg KE] w fun e w' => ∃ S, e = Z S ∧ AH w' 58 3 S BP.length (Br BP) ∧ (∀ k, S.ownBlock = some k → w.heap.size ≤ k) ∧ Below w.heap.size w w' from fun w => LY w)
 have H := Vw h
 have HP := Vw hp
 have HR := Vw hr
 have hmin : min (rounds : Int) 4000 = rounds := by omega
 have hr0 : (rounds : Int) ≤ 2000 := by omega
 have hltr := AF h.head
 clear h hp hr
 go_enter func9, ntmps9
 go_wp2_with fail
 refine (hrnd.out _).mono ?_
 rintro r w1 ⟨S, rfl, hS, hSo, hb1⟩
 have HS := Vw hS
 have HSo := Vw hSo
 have HB1 := Vw hb1
 obtain ⟨A1, cap1, rfl⟩ := hS.form
 clear hS hSo hb1 c1 hrnd
 go_wp2_with fail
 go_loopw [5, 7] (fun v i W => ∃ n : Nat, n ≤ rounds ∧ i = I n ∧ ∃ mj ej T' V' LV', Co (rounds - n) mj ej = some (mF, evF) ∧ RnAt T' W L V' C mb CS R rb LV' mj ej ∧ Rs rb T w LV T' W LV' ∧ OutR w.heap.size T' W LV' v (40 * n) ∧ ej.length ≤ 40 * n ∧ mj.c0.prog = m.c0.prog ∧ mj.c1.prog = m.c1.prog ∧ AH W 58 3 (.slice A1 BP.length cap1) BP.length (Br BP) ∧ (∀ k, (Value.slice A1 BP.length cap1).ownBlock = some k → T' k = 0 ∧ w.heap.size ≤ k ∧ k < W.heap.size)) (fun v i W => rounds - (intOf i).toNat)
 case atStart =>
  have r1 := H.out.below HB1.out
  exact ⟨0, by omega, rfl, m, [], T, V, LV, HR.out, r1, Rs.below HB1.out, ⟨⟨0, [], AH.nil _ _ _, Nat.le_refl _, fun u hu => by simp at hu⟩, fun k hk => by simp [Value.ownBlock] at hk⟩, Nat.le_refl _, rfl, rfl, HS.out, fun k hk => ⟨H.out.low k (HSo.out k hk), HSo.out k hk, HS.out.lt k hk⟩⟩
 case round =>
  obtain ⟨n, hn, rfl, mj, ej, T', V', LV', ha, hrn, hrs, ho, hel, hp0, hp1, hSr, hSo⟩ := hrel
  obtain ⟨q, xs, hrow, hq, hone⟩ := ho.row
  obtain ⟨A2, cap2, rfl⟩ := hrow.form
  have HRn := Vw hrn
  have HRs := Vw hrs
  have HO := Vw ho
  have HRow := Vw hrow
  have HOne := Vw hone
  have HN := Vw hq
  have HL := Vw hel
  have HPr := Vw (WA hp0 hp1)
  have HSr := Vw hSr
  have HSo2 := Vw hSo
  have hlt : n < rounds := by
   by_cases h : n < rounds
   · exact h
   · rw [show rounds - n = 0 by omega] at ha
     cases ha
  obtain ⟨k, hk⟩ : ∃ k, rounds - n = k + 1 := ⟨rounds - n - 1, by omega⟩
  rw [hk, Co] at ha
  have hwr : (n : Int) < (rounds : Int) := by omega
  have hn0 : (0 : Int) ≤ (n : Int) := by omega
  have c2 := AA hrn.head
  split at ha
  case isFalse => cases ha
  rename_i hok
  simp only [Bool.and_eq_true] at hok
  have hqt := Vw (fun w h => IA T' wr L C mb CS R mj (QB hok.1) (fun i hi => MX hok.2 hi) w h)
  have HA := Vw ha
  clear hrn hrs ho hrow hone hq hel hp0 hp1 ha hSr hSo hok
  cases hqq : mj.quiet with
  | true =>
    have ha := HA.out
    rw [hqq] at hqt ha
    simp only [if_true, Option.some.injEq, Prod.mk.injEq] at ha
    obtain ⟨rfl, rfl⟩ := ha
    go_wp2_with (go_at_call 12; refine (hqt.out _ HRn.out.start).mono ?_; rintro r w3 ⟨rfl, hk3⟩)
    go_ret
    obtain ⟨T3, V3, rn3, rs3⟩ := HRn.out.step hk3
    exact ⟨T3, V3, LV', ⟨_, rfl⟩, rn3, HRs.out.trans rs3, by have := HL.out; omega⟩
  | false =>
    have ha := HA.out
    rw [hqq] at hqt ha
    simp only [Bool.false_eq_true, if_false] at ha
    cases hac : Eh Cj mj ej with
    | none => simp [hac] at ha
    | some z =>
    obtain ⟨m1, e1⟩ := z
    simp only [hac, Option.bind_some] at ha
    have HA2 := Vw ha
    have HAC := Vw hac
    clear ha hac HA hqq
    go_wp2_with (go_at_call 12; refine (hqt.out _ HRn.out.start).mono ?_; rintro r w3 ⟨rfl, hk3⟩)
    obtain ⟨T3, V3, rn3, rs3⟩ := HRn.out.step hk3
    have hSb : ∀ k, (Value.slice A1 BP.length cap1).ownBlock = some k → w3.heap[k]? = wr.heap[k]? := fun k hk => rs3.pres.block k (HSr.out.lt k hk) ⟨by rw [(HSo2.out k hk).1]; rfl, fun e => by
     obtain ⟨cs', h'⟩ := HSr.out.type k hk
     exact AG h' HRn.out.head (by decide) e, fun e => by
     obtain ⟨cs', h'⟩ := HSr.out.type k hk
     obtain ⟨cs2, h2⟩ := HRn.out.row.type k e
     rw [h'] at h2
     cases h2⟩
    have hpl := Vw (NH hdec T3 L V3 C mb CS R rb LV' mj ej (fun i hi => by
     have h1 := HP.out i hi
     rcases Aa hi with rfl | rfl
     · show mj.c0.prog.length ≤ 4096
       rw [HPr.out.1]
       exact h1
     · show mj.c1.prog.length ≤ 4096
       rw [HPr.out.2]
       exact h1) m1 e1 HAC.out (by have := HL.out; omega) (.slice A1 BP.length cap1) w3 rn3 (HSr.out.kept hSb) (fun k hk => (rs3.lab k (HSr.out.lt k hk)).trans (HSo2.out k hk).1))
    have HR3 := Vw (WA rn3 (WA rs3 (HSr.out.kept hSb)))
    clear rn3 rs3 hSb hk3 c2
    go_wp2_with fail
    refine hpl.out.mono ?_
    rintro r w4 ⟨v4, T4, V4, L4, rfl, rn4, rs4, ho4, hl4, hq0, hq1⟩
    obtain ⟨q4, xs4, row4, hq4, one4⟩ := ho4.row
    obtain ⟨A4, cap4, rfl⟩ := row4.form
    have hrs34 := HR3.out.2.1.trans rs4
    have hrow4 : AH w4 92 5 (.slice A2 q cap2) q xs := HRow.out.kept fun k hk => hrs34.pres.block k (HRow.out.lt k hk) ⟨by rw [(HO.out.own k hk).2.1]; rfl, fun e => by
     obtain ⟨cs', h'⟩ := HRow.out.type k hk
     exact AG h' HRn.out.head (by decide) e, (HO.out.own k hk).2.2⟩
    have hown4 : ∀ k, (Value.slice A2 q cap2).ownBlock = some k → w.heap.size ≤ k ∧ T4 k = 0 ∧ L4.ownBlock ≠ some k := fun k hk => by
     have hk' := HRow.out.lt k hk
     obtain ⟨o1, o2, o3⟩ := HO.out.own k hk
     refine ⟨o1, (hrs34.lab k hk').trans o2, fun e => ?_⟩
     rcases hrs34.mv k e with e | e
     · exact o3 e
     · omega
    have hS4 : AH w4 58 3 (.slice A1 BP.length cap1) BP.length (Br BP) := HSr.out.kept fun k hk => hrs34.pres.block k (HSr.out.lt k hk) ⟨by rw [(HSo2.out k hk).1]; rfl, fun e => by
     obtain ⟨cs', h'⟩ := HSr.out.type k hk
     exact AG h' HRn.out.head (by decide) e, fun e => by
     obtain ⟨cs', h'⟩ := HSr.out.type k hk
     obtain ⟨cs2, h2⟩ := HRn.out.row.type k e
     rw [h'] at h2
     cases h2⟩
    have hT4 : ∀ k, (Value.slice A1 BP.length cap1).ownBlock = some k → T4 k = 0 := fun k hk => (hrs34.lab k (HSr.out.lt k hk)).trans (HSo2.out k hk).1
    have HX := Vw (WA rn4 (WA (HRs.out.trans hrs34) (WA hrow4 (WA hown4 (WA row4 (WA ho4.own (WA one4 (WA hS4 hT4))))))))
    have HQ := Vw (show q4 ≤ 40 ∧ q ≤ 80000 ∧ e1.length ≤ 40 * (n + 1) ∧ q ≤ 40 * n from ⟨hq4, by have := HN.out; omega, by have := HL.out; omega, HN.out⟩)
    have HPQ := Vw (WA (hq0.trans HPr.out.1) (hq1.trans HPr.out.2))
    clear rn4 rs4 ho4 hl4 hq0 hq1 row4 hq4 one4 hrs34 hrow4 hown4 hS4 hT4
    go_wp2_with (at_builtin; refine Ab rfl _ _ _ _ rfl Ki _ q xs rfl HX.out.2.2.1 (.slice A4 q4 cap4) q4 xs4 rfl (HX.out.2.2.2.2.1.src underlying42 HX.out.2.2.2.2.2.2.1) (by have := HQ.out; omega) (by have := HQ.out; omega) ?_)
    intro A5 cap5 w5 hr5 hg5 hm5
    obtain ⟨rn4, hrsA, hrow4, hown4, row4, own4, one4, hS4, hT4⟩ := HX.out
    have hw4 := hrsA.pres.size
    have HF := Vw (show RnAt T4 w5 L V4 C mb CS R rb L4 m1 e1 ∧ Rs rb T w LV T4 w5 L4 ∧ OutR w.heap.size T4 w5 L4 (.slice A5 (q + q4) cap5) (40 * (n + 1)) ∧ AH w5 58 3 (.slice A1 BP.length cap1) BP.length (Br BP) ∧ (∀ k, (Value.slice A1 BP.length cap1).ownBlock = some k → T4 k = 0 ∧ w.heap.size ≤ k ∧ k < w5.heap.size) from ⟨rn4.beside hrow4 (fun k hk => ⟨(hown4 k hk).2.1, (hown4 k hk).2.2⟩) hg5, hrsA.grown hg5 (fun k hk => (hown4 k hk).1), ⟨⟨_, _, hr5, by have := HQ.out; omega, fun u hu => by
     rcases List.mem_append.1 hu with h | h
     · exact HOne.out u h
     · exact one4 u h⟩, fun k hk => by
     rcases hm5 with e | ⟨g5, e, hg'⟩
     · exact hown4 k (e ▸ hk)
     · rw [e] at hk
       cases hk
       exact ⟨by omega, rn4.low _ hg', fun e2 => by have := rn4.row.lt _ e2; omega⟩⟩, hS4.kept fun k hk => by
     obtain ⟨cs', h'⟩ := hS4.type k hk
     exact (AW hrow4 hg5 h' (by decide)).trans h'.symm, fun k hk => ⟨hT4 k hk, (HSo2.out k hk).2.1, Vy (hS4.lt k hk) hg5.size⟩⟩)
    clear hr5 hg5 hm5 rn4 hrsA hrow4 hown4 row4 own4 one4 hS4 hT4
    go_wp2_with fail
    exact ⟨⟨n + 1, by omega, by simp, m1, e1, T4, V4, L4, by rw [show rounds - (n + 1) = k by omega]; exact HA2.out, HF.out.1, HF.out.2.1, HF.out.2.2.1, HQ.out.2.2.1, HPQ.out.1, HPQ.out.2, HF.out.2.2.2.1, HF.out.2.2.2.2⟩, by simp [intOf]; omega⟩
theorem Eo (T : Nat → Nat) (L : SL) (V : SV) (C : CC) (mb : Nat) (CS R : Value) (rb : Nat) (LV : Value) (m : Mach) (evs : List Ev) (w : World) (h : RnAt T w L V C mb CS R rb LV m evs) : Y 8 #[rb] w fun r w' => r = Z (.pointer (some mb)) ∧ w = w' := by
 have c1 := AA h.head
 clear h
 go_enter func8, ntmps8
 go_wp2_with fail
 go_ret
 exact ⟨rfl, rfl⟩
theorem He (T : Nat → Nat) (L : SL) (V : SV) (C : CC) (mb : Nat) (CS R : Value) (rb : Nat) (LV : Value) (m : Mach) (evs : List Ev) (hl : evs.length < 100000) (w : World) (h : RnAt T w L V C mb CS R rb LV m evs) : Y 11 #[rb] w fun r w' => ∃ S, r = Z S ∧ AH w' 92 5 S evs.length (AY evs) ∧ (∀ k, S.ownBlock = some k → w.heap.size ≤ k) ∧ Below w w w' := by
 have c1 := AA h.head
 have hr := h.row
 rcases hr.2 with ⟨rfl, h0⟩ | ⟨g, off, AV, gs, rfl, hg, _⟩
 · have he : evs = [] := List.eq_nil_of_length_eq_zero h0
   subst he
   have hc := Nk w
   clear h hr
   go_enter func11, ntmps11
   go_wp2_with fail
   refine hc.mono ?_
   rintro e w1 ⟨rfl, rfl⟩
   go_wp2_with fail
   go_ret
   exact ⟨_, rfl, En _, by simp [Value.ownBlock], Below.refl _ _⟩
 · have hc := cloneX.1 g off evs.length AV (AY evs) (EV evs) w hr hl
   clear h hr hg
   go_enter func11, ntmps11
   go_wp2_with fail
   refine hc.mono ?_
   rintro e w1 ⟨S, rfl, g1, g2, g3⟩
   obtain ⟨A, cap2, rfl⟩ := g1.form
   go_wp2_with fail
   go_ret
   exact ⟨_, rfl, g1, g2, g3⟩
theorem RW (T0 : Nat → Nat) (w0 : World) (L : SL) (s : Sys) (hq : s.wq = []) (w : World) (h : Sy T0 w0 L s w) : Y 78 #[L.sb] w fun e w' => ∃ S, e = Z S ∧ AH w' 109 8 S 5 (s.mem.flatMap Ln.cells) ∧ (∀ k, S.ownBlock = some k → w.heap.size ≤ k) ∧ Below w w w' := by
 have c1 := h.dirp.2
 have H := Vw h
 obtain ⟨T, V, h, hb, hc⟩ := h
 have hw := h.wq
 have hrq := h.rq
 rw [hq] at hrq
 obtain ⟨A, AV, hf⟩ := hrq.form
 rw [hf] at hw
 have him := Vw (NA L.qb L.dv L.mb V.rd V.wr s.mem A AV w hw h.mem)
 clear h hb hc hw hrq hf
 go_enter func78, ntmps78
 go_wp2_with fail
 refine him.out.mono ?_
 rintro e w2 ⟨S, rfl, hr, hS, hb⟩
 have H2 := Vw (WA hr (WA hS hb))
 clear hr hS hb
 go_wp2_with fail
 go_ret
 exact ⟨S, rfl, H2.out⟩
theorem La (T : Nat → Nat) (L : SL) (V : SV) (C : CC) (mb : Nat) (CS R : Value) (rb : Nat) (LV : Value) (m : Mach) (evs : List Ev) (x0 x1 x2 x3 x4 : Ln) (hq : m.s.wq = []) (hm : m.s.mem = [x0, x1, x2, x3, x4]) (w : World) (h : RnAt T w L V C mb CS R rb LV m evs) : Y 43 #[rb] w fun r w' => ∃ S, r = Z S ∧ AH w' 109 8 S 5 ([Ln.zero, x1, x2, x3, x4].flatMap Ln.cells) ∧ (∀ k, S.ownBlock = some k → w.heap.size ≤ k) ∧ Below w w w' := by
 have c1 := AA h.head
 have hs := Vw (Oo T w L C mb CS R m w h.start)
 have hme := Vw (show Y 78 #[L.sb] w fun e w' => ∃ S, e = Z S ∧ AH w' 109 8 S 5 ([x0, x1, x2, x3, x4].flatMap Ln.cells) ∧ (∀ k, S.ownBlock = some k → w.heap.size ≤ k) ∧ Below w w w' by
  obtain ⟨T1, g1, g3⟩ := h.start.sy
  have := RW T1 w L m.s hq w g1
  rw [hm] at this
  exact this)
 have HH := Vw h.head
 clear h hq hm
 go_enter func43, ntmps43
 go_wp2_with (go_at_call 77; refine hs.out.mono ?_; rintro r wq ⟨rfl, he⟩; obtain rfl : w = wq := he)
 refine hme.out.mono ?_
 rintro r w2 ⟨S, rfl, hr2, ho2, hb2⟩
 obtain ⟨g, off, AV, cs, rfl, hg, hcap, hsz, hc⟩ := hr2.lies (by decide)
 have c2 := AA (AB hb2 HH.out)
 have hcap' : (5 : Int) ≤ (AV : Int) := by omega
 have hz : (zeroValue 109).run prog w2 = .ok (.agg KD) w2 := by kernel_rfl
 have hcl := CR (P := prog) w2 76 109 0 (.agg KD) [U 0, U 0, U 0, U 0, U 0, U 0, U 0, U 0] 1 underlying76 hz (by kernel_rfl) g off AV (by omega) hg (by simp; omega) (by simp [Value.oneCell'])
 have hle : off + ([U 0, U 0, U 0, U 0, U 0, U 0, U 0, U 0] : List Value).length ≤ cs.size := by simp; omega
 have k1 := AT [U 0, U 0, U 0, U 0, U 0, U 0, U 0, U 0] hg off _ rfl
 have k2 : (EB cs off [U 0, U 0, U 0, U 0, U 0, U 0, U 0, U 0]).size = cs.size := FD _ _ _
 have HF := Vw (show AH (w2.setCells g off [U 0, U 0, U 0, U 0, U 0, U 0, U 0, U 0]) 109 8 (.slice (some ⟨g, off, none⟩) 5 AV) 5 ([Ln.zero, x1, x2, x3, x4].flatMap Ln.cells) ∧ (∀ k, (Value.slice (some ⟨g, off, none⟩) 5 AV).ownBlock = some k → w.heap.size ≤ k) ∧ Below w w (w2.setCells g off [U 0, U 0, U 0, U 0, U 0, U 0, U 0, U 0]) from ⟨⟨rfl, .inr ⟨g, off, AV, _, rfl, k1, hcap, by omega, fun j u hu => by
  rw [EZ _ _ _ _ hle]
  by_cases hj : j < 8
  · rw [if_pos ⟨by omega, by simp; omega⟩, show off + j - off = j by omega]
    rcases (by omega : j = 0 ∨ j = 1 ∨ j = 2 ∨ j = 3 ∨ j = 4 ∨ j = 5 ∨ j = 6 ∨ j = 7) with rfl | rfl | rfl | rfl | rfl | rfl | rfl | rfl <;> exact hu
  · rw [if_neg (by simp; omega)]
    refine hc j u ?_
    obtain ⟨q, rfl⟩ : ∃ q, j = q + 8 := ⟨j - 8, by omega⟩
    exact hu⟩⟩, ho2, Ac (ho2 g rfl) _ hb2 _⟩)
 clear hr2 ho2 hb2 hg hc k1 k2 hle c1 hz hsz
 go_wp2_with fail
 go_ret
 exact ⟨_, rfl, HF.out⟩
theorem JV (T : Nat → Nat) (L : SL) (V : SV) (C : CC) (mb : Nat) (CS R : Value) (rb : Nat) (LV : Value) (m : Mach) (evs : List Ev) (x0 x1 x2 x3 x4 : Ln) (hq : m.s.wq = []) (hm : m.s.mem = [x0, x1, x2, x3, x4]) (w : World) (h : RnAt T w L V C mb CS R rb LV m evs) : Y 14 #[rb] w fun r w' => ∃ v, r = Z v ∧ AH w' 27 1 v 8 (Ln.cells x4) ∧ (∀ k, v.ownBlock = some k → w.heap.size ≤ k) ∧ Below w w w' := by
 have hi := Vw (La T L V C mb CS R rb LV m evs x0 x1 x2 x3 x4 hq hm w.drew (h.below (Below.refl _ _).drew))
 have hl := Vw (fun S w h => On Ln.zero x1 x2 x3 x4 S w h)
 unfold Ai at hl
 have c1 := AA h.head
 have HH := Vw h.head
 clear h hq hm
 go_enter func14, ntmps14
 go_wp2_with fail
 have hk0 : (fun w' : World => w'.cell? rb = I 2 ∧ w'.cell? ⟨rb, 1, none⟩ = I 5 ∧ w'.cell? ⟨rb, 2, none⟩ = I 1 ∧ w'.cell? ⟨rb, 3, none⟩ = I 1 ∧ w'.cell? ⟨rb, 4, none⟩ = I 2 ∧ w'.cell? ⟨rb, 5, none⟩ = I 2 ∧ w'.cell? ⟨rb, 6, none⟩ = I 2 ∧ w'.cell? ⟨rb, 7, none⟩ = I 2 ∧ w'.cell? ⟨rb, 8, none⟩ = I 1) w.drew := ⟨AD HH.out 0 rfl, AD HH.out 1 rfl, AD HH.out 2 rfl, AD HH.out 3 rfl, AD HH.out 4 rfl, AD HH.out 5 rfl, AD HH.out 6 rfl, AD HH.out 7 rfl, AD HH.out 8 rfl⟩
 go_region_held3 (fun w' => w'.cell? rb = some (I 2) ∧ w'.cell? ⟨rb, 1, none⟩ = some (I 5) ∧ w'.cell? ⟨rb, 2, none⟩ = some (I 1) ∧ w'.cell? ⟨rb, 3, none⟩ = some (I 1) ∧ w'.cell? ⟨rb, 4, none⟩ = some (I 2) ∧ w'.cell? ⟨rb, 5, none⟩ = some (I 2) ∧ w'.cell? ⟨rb, 6, none⟩ = some (I 2) ∧ w'.cell? ⟨rb, 7, none⟩ = some (I 2) ∧ w'.cell? ⟨rb, 8, none⟩ = some (I 1)) (first | with_reducible exact hk0 | with_reducible exact hk1 | with_reducible exact hk2)
  (first
   | (go_at_call 42; refine (hl.out _ _ hr2).mono ?_; rintro r w3 ⟨v, rfl, hr3, ho3, hb3⟩; have hb23 := hb2.trans (hb3.mono hb2.size); have hk2 : (fun w' : World => w'.cell? rb = I 2 ∧ w'.cell? ⟨rb, 1, none⟩ = I 5 ∧ w'.cell? ⟨rb, 2, none⟩ = I 1 ∧ w'.cell? ⟨rb, 3, none⟩ = I 1 ∧ w'.cell? ⟨rb, 4, none⟩ = I 2 ∧ w'.cell? ⟨rb, 5, none⟩ = I 2 ∧ w'.cell? ⟨rb, 6, none⟩ = I 2 ∧ w'.cell? ⟨rb, 7, none⟩ = I 2 ∧ w'.cell? ⟨rb, 8, none⟩ = I 1) w3 := ⟨AD (AB hb23 HH.out) 0 rfl, AD (AB hb23 HH.out) 1 rfl, AD (AB hb23 HH.out) 2 rfl, AD (AB hb23 HH.out) 3 rfl, AD (AB hb23 HH.out) 4 rfl, AD (AB hb23 HH.out) 5 rfl, AD (AB hb23 HH.out) 6 rfl, AD (AB hb23 HH.out) 7 rfl, AD (AB hb23 HH.out) 8 rfl⟩; have HF := Vw (show AH w3 27 1 v 8 (Ln.cells x4) ∧ (∀ k, v.ownBlock = some k → w.heap.size ≤ k) ∧ Below w w w3 from ⟨hr3, fun k hk => Vx hb2.size (ho3 k hk), (Below.refl _ _).drew.trans hb23⟩))
   | (go_at_call 43; refine hi.out.mono ?_; rintro r w2 ⟨S, rfl, hr2, ho2, hb2⟩; have hk1 : (fun w' : World => w'.cell? rb = I 2 ∧ w'.cell? ⟨rb, 1, none⟩ = I 5 ∧ w'.cell? ⟨rb, 2, none⟩ = I 1 ∧ w'.cell? ⟨rb, 3, none⟩ = I 1 ∧ w'.cell? ⟨rb, 4, none⟩ = I 2 ∧ w'.cell? ⟨rb, 5, none⟩ = I 2 ∧ w'.cell? ⟨rb, 6, none⟩ = I 2 ∧ w'.cell? ⟨rb, 7, none⟩ = I 2 ∧ w'.cell? ⟨rb, 8, none⟩ = I 1) w2 := ⟨AD (AB hb2 HH.out) 0 rfl, AD (AB hb2 HH.out) 1 rfl, AD (AB hb2 HH.out) 2 rfl, AD (AB hb2 HH.out) 3 rfl, AD (AB hb2 HH.out) 4 rfl, AD (AB hb2 HH.out) 5 rfl, AD (AB hb2 HH.out) 6 rfl, AD (AB hb2 HH.out) 7 rfl, AD (AB hb2 HH.out) 8 rfl⟩))
 all_goals
  go_wp2_with fail
  go_ret
  exact ⟨v, rfl, HF.out⟩
end Go.Proofs.YtkoplblbeapfgaaGreatDoor
