/-
Parts of the walk of TopEnds. Conditions stand in each statement.
-/
import Derived.Test.YtkoplblbeapfgaaGreatDoorX30
import Derived.Test.YtkoplblbeapfgaaGreatDoorX31
import Derived.Test.YtkoplblbeapfgaaGreatDoorX36
namespace Go.Proofs.YtkoplblbeapfgaaGreatDoor
open Go.RowKit
open Tryz
set_option linter.all false
set_option maxRecDepth 100000
set_option maxHeartbeats 8000000
def Tx : BS := (⟨[], [], []⟩ : BS).add [⟨22, 0, 0, 0, 0⟩]
theorem Fd : Bk EI = true := by kernel_rfl
theorem Ex (w0 : World) : Fr w0 (.slice none 0 0) EI := by
 intro w _
 have hgo := CA
 have hdn := Vw (fun Av bb w h => GL Av bb Tx (by decide) (by decide) (by decide) (by decide) (by decide) (Dk Fd) w h)
 simp only [Ai] at hgo ⊢
 obtain ⟨W1, hE, hb1, hI1⟩ := alloc_new w (.cells KA 25)
 have c1 := AA hI1
 have HB1 := Vw hb1
 have HI1 := Vw hI1
 clear hb1 hI1
 go_enter func27, ntmps27
 go_wp2_with fail
 refine (hgo _).mono ?_
 rintro e w2 ⟨rfl, hb2⟩
 have HB2 := Vw (HB1.out.trans (hb2.mono HB1.out.size))
 have c2 := AA (AB hb2 HI1.out)
 have HI2 := Vw (AB hb2 HI1.out)
 clear hb2 c1 hE
 go_wp2_with fail
 refine wp_loop_rounds 1 ?_
 rw [rounds_succ]
 obtain ⟨W3, hE3⟩ := ex_ (w2.alloc (.cells #[.slice none 0 0, .slice none 0 0, .slice none 0 0, false] 159))
 have hs3 : W3.heap.size = w2.heap.size + 1 := by rw [← hE3]; simp
 obtain ⟨W4, hE4, hb4, hI4⟩ := alloc_new W3 (.cells #[w2.heap.size, I 2, I 5, I 1, I 1, I 2, I 2, I 2, I 2, I 1, I 0, I 0, I 0] 161)
 have G0 : Ap (fun k => k < w2.heap.size) W3 w2.heap.size ⟨[], [], []⟩ := hE3 ▸ Ap.new w2
 have HW3 := Vw (show Below w w W3 from hE3 ▸ HB2.out.trans ((AC w2 _).mono HB2.out.size))
 have G := Vw (show At (fun k => k < w2.heap.size ∨ k = W3.heap.size) W4 w2.heap.size ⟨[], [], []⟩ W4 from ⟨hE4 ▸ G0.guard _, Pres.refl _ _⟩)
 rw [hs3] at hI4 G
 have hs4 := hb4.size
 have HW4 := Vw (HW3.out.trans (hb4.mono HW3.out.size))
 have c4 := AA hI4
 have c3 := AA (show W3.heap[w.heap.size]? = _ from hE3 ▸ AB (AC w2 _) HI2.out)
 have HI4 := Vw hI4
 have HA := Vw (show ∀ k, (k < w2.heap.size ∨ k = w2.heap.size + 1) → k < W4.heap.size from fun k hk => by have := AF hI4; omega)
 have hz2 := Vw HB2.out.size
 have hz4 := Vw (show w2.heap.size < W4.heap.size by omega)
 clear G0 hb4 hI4
 generalize hbb : w2.heap.size = bb at *
 go_wp2_with fail
 refine wp_loop_rounds 1 ?_
 rw [rounds_succ]
 clear c2 c3
 go_wp2_with fail
 refine (Dw _ bb ⟨[], [], []⟩ [⟨22, 0, 0, 0, 0⟩] 1 rfl _ G.out.1 (G.out.in HA.out) (by decide)).mono ?_
 rintro e w1 ⟨rfl, g1, g2⟩
 replace G := Vw (G.out.step (B' := Tx) g1 g2)
 clear g1 g2 c4
 have c1 := AA (G.out.heap (.inr rfl) HI4.out)
 go_wp2_with fail
 refine (hdn.out _ bb _ G.out.1).mono ?_
 rintro e w5 ⟨S, rfl, hr, ho, hb⟩
 have hp := G.out.2
 have hz := hp.size
 have HF := Vw (show AH w5 27 1 S EI.length (AX (EI.map BG)) ∧ (∀ k, S.ownBlock = some k → w.heap.size ≤ k) ∧ Below w w w5 from ⟨hr, fun k hk => by have := ho k hk; have := HW4.out.size; omega, ⟨hb.os.trans (hp.os.trans HW4.out.os), hb.tape.trans (hp.tape.trans HW4.out.tape), hb.output.trans (hp.output.trans HW4.out.output), by have := HW4.out.size; have := hb.size; omega, fun k hk => (hb.block k (by have := HW4.out.size; omega)).trans ((hp.block k (by have := HW4.out.size; omega) (.inl (by have := hz2.out; omega))).trans (HW4.out.block k hk))⟩⟩)
 clear hr ho hb hp hz
 go_wp2_with fail
 go_ret2
 exact ⟨S, rfl, HF.out⟩
def DR (c : Int) (ts : List Int) : List (List Int) := [4, c, 0, 0, 0] :: ts.map fun v => [8, c, 0, 0, v]
theorem Rf {α β : Type} {p : α → Bool} {f : α → β} {X : List α} {K : List β} (h : (X.filter p).map f = K) {j r : Nat} {e : α} (he : X[j]? = some e) (hp : p e = true) (hr : ((X.take j).filter p).map f = K.take r) (hr2 : r ≤ K.length) : K[r]? = some (f e) := by
 have hj := (List.getElem?_eq_some_iff.1 he).1
 have hsplit : X = X.take j ++ e :: X.drop (j + 1) := by
  conv => lhs; rw [← List.take_append_drop j X]
  rw [List.drop_eq_getElem_cons hj]
  rw [List.getElem?_eq_getElem hj] at he
  rw [Option.some.inj he]
 have h2 := h
 rw [hsplit, List.filter_append, List.map_append, hr, List.filter_cons_of_pos hp, List.map_cons] at h2
 have hl : (K.take r).length = r := by rw [List.length_take]; omega
 rw [← h2, List.getElem?_append_right (by omega), hl, Nat.sub_self]
 rfl
theorem Re {α β : Type} {p : α → Bool} {f : α → β} {X : List α} {K : List β} {j r : Nat} {e : α} (he : X[j]? = some e) (hr : ((X.take j).filter p).map f = K.take r) : (p e = false → ((X.take (j + 1)).filter p).map f = K.take r) ∧ (p e = true → K[r]? = some (f e) → ((X.take (j + 1)).filter p).map f = K.take (r + 1)) := by
 have ht : X.take (j + 1) = X.take j ++ [e] := by rw [List.take_add_one, he]; rfl
 refine ⟨fun hp => ?_, fun hp hk => ?_⟩
 · rw [ht, List.filter_append, List.map_append, hr, List.filter_cons_of_neg (by simp [hp])]
   simp
 · rw [ht, List.filter_append, List.map_append, hr, List.filter_cons_of_pos hp, List.take_add_one, hk]
   rfl
theorem KN {c : Int} (hc : c ≠ -1) : ∀ (l : List Ev), ∀ e ∈ Cc 0 c l, e.core = c
 | [], e, h => by simp [Cc] at h
 | a :: l, e, h => by
   simp only [Cc] at h
   split at h
   · rename_i hb
     rcases List.mem_cons.1 h with rfl | h
     · simp [KZ, hc] at hb
       exact hb
     · exact KN hc l e h
   · exact KN hc l e h
def KH (base : Nat) (c : Int) (ts : List Int) (r : Nat) (v : Value) (W : World) : Prop :=
 (r = 0 ∧ v = .slice none 0 0) ∨ ∃ q pg po pc Q, r = q + 1 ∧ v = .slice (some ⟨pg, po, none⟩) 1 pc ∧ AH W 28 1 v 1 [Q] ∧ AH W 27 1 Q q (AX (ts.take q)) ∧ base ≤ pg ∧ ∀ k, Q.ownBlock = some k → base ≤ k
theorem KH.below {base : Nat} {c : Int} {ts : List Int} {r : Nat} {v : Value} {W W' : World} (h : KH base c ts r v W) (hb : Below W W W') : KH base c ts r v W' := by
 rcases h with h | ⟨q, pg, po, pc, Q, h1, h2, h3, h4, h5⟩
 · exact .inl h
 · exact .inr ⟨q, pg, po, pc, Q, h1, h2, h3.below hb, h4.below hb, h5⟩
theorem Ia (l : List Ev) (c : Int) (hc0 : 0 ≤ c) (hc1 : c < 10) (ts : List Int) (hk : ∀ e ∈ l, e.kind ≠ 11) (hkey : ((Cc 0 c l).filter CE).map Dr = DR c ts) (hts : ts.length < 100) (hlen : l.length < 100000) (S : Value) (w : World) (hr : AH w 92 5 S l.length (AY l)) : Y 92 #[Ai, S, I c] w fun e w' => ∃ P Q, e = Z P ∧ AH w' 28 1 P 1 [Q] ∧ AH w' 27 1 Q ts.length (AX ts) ∧ (∀ k, P.ownBlock = some k → w.heap.size ≤ k) ∧ (∀ k, Q.ownBlock = some k → w.heap.size ≤ k) ∧ Below w w w' := by
 obtain ⟨A, AV, rfl⟩ := hr.form
 obtain ⟨N, hN⟩ := ex_ l.length
 obtain ⟨X, hX⟩ := ex_ (Cc 0 c l)
 obtain ⟨M, hM⟩ := ex_ X.length
 have hxc := KN (c := c) (by omega) l
 have hxl := Ll 0 c l
 rw [hX] at hkey hxc hxl
 have hgo := CA
 simp only [Ai] at hgo ⊢
 have H := Vw hr
 have HK := Vw hk
 have HL := Vw hlen
 have HKEY := Vw hkey
 have HXC := Vw hxc
 have HX := Vw hX
 have HTS := Vw hts
 have HMN := Vw (show M ≤ N ∧ N < 100000 by omega)
 obtain ⟨W1, hE1, hb1, -⟩ := alloc_new w (.cells KA 25)
 have c1 := AA (show W1.heap[w.heap.size]? = some (.cells KA 25) from hE1 ▸ AE w _)
 have HB1 := Vw hb1
 rw [hN]
 have HN := Vw hN
 have HM := Vw hM
 clear hr hk hlen hkey hN hM hX hb1 hxc hxl hts
 go_enter func92, ntmps92
 go_wp2_with fail
 refine (hgo _).mono ?_
 rintro e w2 ⟨rfl, hb2⟩
 have hb2' := HB1.out.trans (hb2.mono HB1.out.size)
 have hcu := JR l HK.out HL.out (.slice A l.length AV) w2 (H.out.below hb2')
 rw [HN.out] at hcu
 have HCU := Vw hcu
 have HB2 := Vw hb2'
 clear hb2 hb2' hcu c1 hE1
 go_wp2_with fail
 refine HCU.out.mono ?_
 rintro e w3 ⟨P, Q, rfl, hP, hQ, hb3⟩
 obtain ⟨pg, po, pc, pcs, rfl, hpg, hpc, _, hpx⟩ := hP.lies (by decide)
 obtain ⟨QA, qc, rfl⟩ := hQ.form
 have p0 : w3.cell? ⟨pg, po, none⟩ = some (.slice QA N qc) := AD hpg _ (hpx 0 _ rfl)
 rw [← HN.out] at hQ
 have hof := Pn l 0 c HL.out (.slice QA l.length qc) w3 hQ
 rw [HX.out, HM.out, HN.out] at hof
 have HOF := Vw hof
 have HB3 := Vw (HB2.out.trans (hb3.mono HB2.out.size))
 have hpcI : (1 : Int) ≤ (pc : Int) := by omega
 clear hP hQ hb3 hpg hpc hpx HCU hof
 go_wp2_with fail
 refine HOF.out.mono ?_
 rintro e w4 ⟨XS, rfl, hxs, hxo, hb4⟩
 obtain ⟨XA, xc, rfl⟩ := hxs.form
 have HXS := Vw hxs
 have HB4 := Vw (HB3.out.trans (hb4.mono HB3.out.size))
 clear hxs hxo hb4 p0 HOF hpcI
 go_wp2_with fail
 go_loopw [7, 21] (fun v i W => ∃ j r : Nat, j ≤ M ∧ r ≤ ts.length + 1 ∧ i = I j ∧ ((X.take j).filter CE).map Dr = (DR c ts).take r ∧ KH w4.heap.size c ts r v W ∧ Below w4 w4 W) (fun v i W => M - (intOf i).toNat)
 case atStart => exact ⟨0, 0, Nat.zero_le _, Nat.zero_le _, rfl, rfl, .inl ⟨rfl, rfl⟩, Below.refl _ _⟩
 case round =>
  obtain ⟨j, r, hj, hr, rfl, hf, ht, hb⟩ := hrel
  have HT := Vw ht
  have HB := Vw hb
  have HF := Vw hf
  have HJ := Vw (WA hj hr)
  by_cases hlt : j < M
  · obtain ⟨e, he⟩ : ∃ e, X[j]? = some e := ⟨_, List.getElem?_eq_getElem (by rw [HM.out]; exact hlt)⟩
    have hr' := HXS.out.below hb
    rw [← HM.out] at hr'
    obtain ⟨g, off, cap', hvv, hcap, hcell⟩ := IQ hr' he
    rw [HM.out] at hvv hcap
    cases hvv
    have hco := HXC.out e (List.mem_of_getElem? he)
    have HNX := Vw (fun hp => Rf HKEY.out he hp hf (by simp [DR]; omega))
    have HST := Vw (Re he hf)
    obtain ⟨k, co, li, wo, va⟩ := e
    dsimp only at hco
    subst hco
    have e0 : wr.cell? ⟨g, off + j * 5, none⟩ = I k := hcell 0 _ rfl
    have e1' : wr.cell? ⟨g, off + j * 5 + 1, none⟩ = I co := hcell 1 _ rfl
    have e2 : wr.cell? ⟨g, off + j * 5 + 2, none⟩ = I li := hcell 2 _ rfl
    have e3 : wr.cell? ⟨g, off + j * 5 + 3, none⟩ = I wo := hcell 3 _ rfl
    have e4 : wr.cell? ⟨g, off + j * 5 + 4, none⟩ = U va := hcell 4 _ rfl
    have hj0 : (0 : Int) ≤ (j : Int) := by omega
    have hj1 : (j : Int) < (M : Int) := by omega
    have hNc : (M : Int) ≤ (xc : Int) := by omega
    have hj2 : (j : Int) + 1 ≤ 100000 := by have := HMN.out; omega
    obtain ⟨W1, hE, hb1, hI1⟩ := alloc_new wr (.cells #[I k, I co, I li, I wo, va] 92)
    have c1 := AA hI1
    have hsb := Hc ⟨k, co, li, wo, va⟩ W1
    dsimp only at hsb
    have HSB := Vw hsb
    have HE := Vw hE
    have HB1' := Vw hb1
    have HI1 := Vw hI1
    have HTV := Vw (show r = 0 ∨ ∃ q, r = q + 1 by cases r with | zero => exact .inl rfl | succ q => exact .inr ⟨q, rfl⟩)
    clear hE hf hj hr hr' hcell he hb1 hI1 hlt hcap hsb ht hb
    by_cases hky : CE ⟨k, co, li, wo, va⟩ = true
    · have hnx := HNX.out hky
      rcases HTV.out with rfl | ⟨q, rfl⟩
      · have h4 : k = 4 ∧ li = 0 ∧ wo = 0 ∧ va = 0 := by
         simp [DR, Dr] at hnx
         omega
        obtain ⟨rfl, rfl, rfl, rfl⟩ := h4
        have hv0 := (HT.out.resolve_right (by rintro ⟨q, _, _, _, _, h, _⟩; omega)).2
        subst hv0
        have HKY := Vw hky
        clear hnx hky
        rw [show ((4 : Int) == 4 && (0 : Int) == 0 && (0 : Int) == 0 && (0 : Int) == 0) = true from rfl] at HSB
        go_wp2_with fail
        rw [HE.out]
        clear HE e0 e1' e2 e3 e4
        go_wp2_with fail
        refine HSB.out.mono ?_
        rintro e' w6 ⟨rfl, hb6⟩
        have HB6 := Vw (HB1'.out.trans (hb6.mono HB1'.out.size))
        have HI6 := Vw (AB hb6 HI1.out)
        have c6 := AA HI6.out
        clear hb6 c1 HB1' HI1 HSB
        go_wp2_with (at_builtin; refine Ab rfl _ _ _ _ rfl UX (.slice none 0 0) 0 [] rfl (AH.nil _ 28 1) _ 1 _ rfl (Src.one underlying73 (AE w6 _) rfl (by simp [Value.oneCell'])) (by omega) (by omega) ?_)
        intro A7 cap7 w7 hr7 hg7 hm7
        obtain ⟨pg, po, pc, pcs, hv7, hpg, _, _, _⟩ := hr7.lies (by decide)
        cases hv7
        have HF7 := Vw (WA hr7 (WA hg7 hm7))
        clear hr7 hg7 hm7 hpg c6
        go_wp2_with fail
        refine ⟨⟨j + 1, 1, by omega, by omega, by simp, (HST.out).2 HKY.out (by simp [DR, Dr]), .inr ⟨0, pg, po, cap7, .slice none 0 0, rfl, rfl, HF7.out.1, AH.nil _ _ _, ?_, by simp [Value.ownBlock]⟩, ?_⟩, by simp [intOf]; omega⟩
        · rcases HF7.out.2.2 with hm | ⟨g', hm, hle⟩
          · cases hm
          · cases hm
            have := HB.out.size; have := HB6.out.size
            simp at hle
            omega
        · have h1 := HB.out.trans (HB6.out.mono HB.out.size)
          have h2 := h1.trans ((AC w6 (.cells #[.slice none 0 0] 28)).mono h1.size)
          exact h2.grown HF7.out.2.1 h2.size (fun k hk => by simp [Value.ownBlock] at hk)
      · obtain ⟨q', pg, po, pc, Q, hq, rfl, hP, hQ, hpb, hqb⟩ := HT.out.resolve_left (by rintro ⟨h, _⟩; omega)
        obtain rfl : q = q' := by omega
        have hval : ts[q]? = some va ∧ k = 8 ∧ li = 0 ∧ wo = 0 := by
         rw [DR, List.getElem?_cons_succ, List.getElem?_map] at hnx
         cases hq2 : ts[q]? with
         | none => rw [hq2] at hnx; cases hnx
         | some v =>
           rw [hq2] at hnx
           simp [Dr] at hnx
           obtain ⟨h1, h2, h3, h4⟩ := hnx
           subst h1 h2 h3 h4
           exact ⟨rfl, rfl, rfl, rfl⟩
        obtain ⟨htq, rfl, rfl, rfl⟩ := hval
        have hql := (List.getElem?_eq_some_iff.1 htq).1
        have htk : ts.take (q + 1) = ts.take q ++ [va] := by rw [List.take_add_one, htq]; rfl
        have HTK := Vw htk
        obtain ⟨QA, qcc, rfl⟩ := hQ.form
        have HPQ := Vw (WA hP (WA hQ (WA hpb hqb)))
        have HQL := Vw (show q < 100 by have := HTS.out; omega)
        have hnk : (DR co ts)[q + 1]? = some (Dr ⟨8, co, 0, 0, va⟩) := hnx
        have HNK := Vw hnk
        clear hnx hnk htq htk hP hQ hpb hqb hq hql
        go_wp2_with fail
        rw [HE.out]
        clear HE e0 e1' e2 e3 e4
        go_wp2_with fail
        refine HSB.out.mono ?_
        rintro e' w6 ⟨rfl, hb6⟩
        have HB6 := Vw (HB1'.out.trans (hb6.mono HB1'.out.size))
        have HI6 := Vw (AB hb6 HI1.out)
        have c6 := AA HI6.out
        clear hb6 c1 HB1' HI1 HSB
        have hP6 := (HPQ.out.1.below HB6.out)
        obtain ⟨_, _, _, pcs, hvv, hpg, _, _, hpx⟩ := hP6.lies (by decide)
        cases hvv
        have p6 : w6.cell? ⟨pg, po, none⟩ = some (.slice QA q qcc) := AD hpg _ (hpx 0 _ rfl)
        have HA := Vw (AC w6 (.cells #[va] 27))
        have p7 : (w6.alloc (.cells #[va] 27)).cell? ⟨pg, po, none⟩ = some (.slice QA q qcc) := AD (AB HA.out hpg) _ (hpx 0 _ rfl)
        have HPG := Vw hpg
        have HP6 := Vw hP6
        have HQ6 := Vw (HPQ.out.2.1.below HB6.out)
        have hq9 : q ≤ 100000 := by have := HQL.out; omega
        have hpc1 : (1 : Int) ≤ (pc : Int) := by
         rcases hP6.2 with ⟨h, _⟩ | ⟨_, _, _, _, h, _, h2, _⟩
         · cases h
         · cases h; omega
        clear hpg hP6 hpx
        go_wp2_with fail
        go_region_law
         (first
          | (refine Bb (by rfl) (.tmp 59) (.tmp 62) 28 28 (by rfl) GX (.slice QA q qcc) q (AX (ts.take q)) (by rfl) (HQ6.out.below HA.out.drew) _ 1 _ (by rfl) (Src.one underlying28 (AE w6 _) rfl (by simp [Value.oneCell'])) (by omega) (by omega) ?_; intro A3 cap3 w3' hr3 hg3 hm3; have d3 := AW (HQ6.out.below HA.out.drew) hg3 (AB HA.out.drew HPG.out) (by decide); have d0 := AD d3 po (v := .slice QA q qcc) (by
             obtain ⟨_, _, _, cs2, h, h1, _, _, h2⟩ := HP6.out.lies (by decide)
             cases h
             rw [HPG.out] at h1
             cases h1
             exact h2 0 _ rfl); have f0 := Aq d3 po))
        all_goals
         have hz1 := Vx HB.out.size HB6.out.size
         have hbz := (HB.out.trans (HB6.out.mono HB.out.size)).trans (HA.out.drew.mono hz1)
         have hb3 := hbz.grown hg3 (Vx hz1 HA.out.drew.size) HPQ.out.2.2.2
         have hrow : AH (w3'.setCell ⟨pg, po, none⟩ (.slice A3 (q + 1) cap3)) 28 1 (.slice (some ⟨pg, po, none⟩) 1 pc) 1 [.slice A3 (q + 1) cap3] := by
          obtain ⟨_, _, _, cs2, h, h1, h2, h3, h4⟩ := HP6.out.lies (by decide)
          cases h
          rw [HPG.out] at h1
          cases h1
          exact AH.set HP6.out.1 d3 h2 h3 h4 0 _
         have HFF := Vw (WA hrow (WA (hr3.stored d3 (by decide) po (.slice A3 (q + 1) cap3)) (WA hm3 (UV hb3 (p := ⟨pg, po, none⟩) HPQ.out.2.2.1 (.slice A3 (q + 1) cap3)))))
         have HS := Vw (show w4.heap.size ≤ (w6.alloc (.cells #[va] 27)).drew.heap.size from Vx hz1 HA.out.drew.size)
         clear hr3 hg3 hm3 d3 d0 f0 hz1 hbz hb3 hrow p6 p7 c6
         go_wp2_with fail
         refine ⟨⟨j + 1, q + 1 + 1, by omega, by have := HJ.out.2; have := HNK.out; have := (List.getElem?_eq_some_iff.1 HNK.out).1; simp [DR] at this; omega, by simp, (HST.out).2 hky HNK.out, .inr ⟨q + 1, pg, po, pc, .slice A3 (q + 1) cap3, rfl, rfl, HFF.out.1, ?_, HPQ.out.2.2.1, ?_⟩, HFF.out.2.2.2⟩, by simp [intOf]; omega⟩
         · rw [HTK.out]
           simpa [AX] using HFF.out.2.1
         · intro k hk
           rcases HFF.out.2.2.1 with hm | ⟨g', hm, hle⟩
           · exact HPQ.out.2.2.2 k (hm ▸ hk)
           · rw [hm] at hk
             cases hk
             exact Vx HS.out hle
    · have hkf : CE ⟨k, co, li, wo, va⟩ = false := by simpa using hky
      have h8 : (k == 8) = false := by
       simp [CE] at hkf
       simpa using hkf.1.1
      have hbg : (k == 4 && li == 0 && wo == 0 && va == 0) = false := by
       simp only [CE, Bool.or_eq_false_iff] at hkf
       exact hkf.2
      rw [hbg] at HSB
      clear hky hbg
      have HKF := Vw hkf
      clear hkf
      have ht' := HT.out
      rcases ht' with ⟨rfl, rfl⟩ | ⟨q, pg, po, pc, Q, rfl, rfl, _⟩
      · go_wp2_with fail
        rw [HE.out]
        clear HE e0 e1' e2 e3 e4
        go_wp2_with fail
        refine HSB.out.mono ?_
        rintro e' w6 ⟨rfl, hb6⟩
        have HB6 := Vw (HB1'.out.trans (hb6.mono HB1'.out.size))
        have HI6 := Vw (AB hb6 HI1.out)
        have c6 := AA HI6.out
        clear hb6 c1 HB1' HI1 HSB
        go_wp2_with fail
        refine ⟨⟨j + 1, 0, by omega, HJ.out.2, by simp, (HST.out).1 HKF.out, HT.out.below HB6.out, HB.out.trans (HB6.out.mono HB.out.size)⟩, by simp [intOf]; omega⟩
      · go_wp2_with fail
        rw [HE.out]
        clear HE e0 e1' e2 e3 e4
        go_wp2_with fail
        refine HSB.out.mono ?_
        rintro e' w6 ⟨rfl, hb6⟩
        have HB6 := Vw (HB1'.out.trans (hb6.mono HB1'.out.size))
        have HI6 := Vw (AB hb6 HI1.out)
        have c6 := AA HI6.out
        clear hb6 c1 HB1' HI1 HSB
        go_wp2_with fail
        refine ⟨⟨j + 1, q + 1, by omega, HJ.out.2, by simp, (HST.out).1 HKF.out, HT.out.below HB6.out, HB.out.trans (HB6.out.mono HB.out.size)⟩, by simp [intOf]; omega⟩
  · obtain rfl : j = M := by omega
    have hrr : r = ts.length + 1 := by
     have h := hf
     rw [← HM.out, List.take_length, HKEY.out] at h
     have h2 := congrArg List.length h
     rw [List.length_take] at h2
     simp [DR] at h2
     omega
    subst hrr
    rcases ht with ⟨h, _⟩ | ⟨q, pg, po, pc, Q, hq, rfl, hP, hQ, hpb, hqb⟩
    · omega
    · obtain rfl : q = ts.length := by omega
      rw [List.take_length] at hQ
      have HP := Vw (WA hP (WA hQ (WA hpb hqb)))
      clear hP hQ hpb hqb hq hb hf hj hr
      go_wp2_with fail
      go_ret
      exact ⟨.slice (some ⟨pg, po, none⟩) 1 pc, Q, rfl, HP.out.1, HP.out.2.1, fun k hk => by have hk' : pg = k := (by simpa [Value.ownBlock] using hk); have := HP.out.2.2.1; have := HB4.out.size; omega, fun k hk => Vx HB4.out.size (HP.out.2.2.2 k hk), HB4.out.trans (HB.out.mono HB4.out.size)⟩
theorem Hv {c : Int} (hc : c ≠ -1) : ∀ l : List Ev, Cc 0 c l = l.filter fun e => e.core == c
 | [] => rfl
 | a :: l => by
   have ih := Hv hc l
   have hb : KZ 0 c a = (a.core == c) := by simp [KZ, hc]
   simp only [Cc, List.filter_cons, hb, ih]
theorem IH {p : Ev → Bool} {P : List Int → Bool} (h : ∀ e, p e = P (Dr e)) {K : List Ev} {W : List (List Int)} (hK : K.map Dr = W) : (K.filter p).map Dr = W.filter P := by
 rw [← hK, List.filter_map]
 congr 1
 apply List.filter_congr
 intro e _
 exact h e
def Mi (t : List Int) (n : Nat) : Int := (t[n]?).getD 0
def Vh (t : List Int) : Bool := Mi t 0 == 4 && Mi t 2 == 0 && Mi t 3 == 0 && Mi t 4 == 0
theorem OH {evs : List Ev} (h : (evs.filter CE).map Dr = LF) : (∀ e ∈ evs, e.kind ≠ 11) ∧ (evs.filter Cs).map Ev.core = [0, 1] ∧ ((Cc 0 0 evs).filter CE).map Dr = DR 0 [5, 5, 101] ∧ ((Cc 0 1 evs).filter CE).map Dr = DR 1 [0, 101] := by
 refine ⟨fun e he hk => ?_, ?_, ?_, ?_⟩
 · have hm : Dr e ∈ (evs.filter CE).map Dr := List.mem_map_of_mem (List.mem_filter.2 ⟨he, by simp [CE, hk]⟩)
   rw [h] at hm
   simp [LF, Dr, hk] at hm
 · have h1 : evs.filter Cs = (evs.filter CE).filter Cs := by
    rw [List.filter_filter]
    apply List.filter_congr
    intro e _
    cases hb : Cs e
    · simp
    · simp only [Cs] at hb
      simp [CE, hb]
   have h2 := IH (p := Cs) (P := Vh) (fun e => rfl) h
   rw [← h1] at h2
   have h3 : (evs.filter Cs).map Ev.core = ((evs.filter Cs).map Dr).map fun t => Mi t 1 := by
    rw [List.map_map]
    rfl
   rw [h3, h2]
   rfl
 · rw [Hv (by decide), List.filter_filter]
   have h1 : (evs.filter fun e => CE e && e.core == 0) = (evs.filter CE).filter fun e => e.core == 0 := by
    rw [List.filter_filter]
    apply List.filter_congr
    intro e _
    rw [Bool.and_comm]
   have h2 := IH (p := fun e => e.core == 0) (P := fun t => Mi t 1 == 0) (fun e => rfl) h
   rw [h1, h2]
   rfl
 · rw [Hv (by decide), List.filter_filter]
   have h1 : (evs.filter fun e => CE e && e.core == 1) = (evs.filter CE).filter fun e => e.core == 1 := by
    rw [List.filter_filter]
    apply List.filter_congr
    intro e _
    rw [Bool.and_comm]
   have h2 := IH (p := fun e => e.core == 1) (P := fun t => Mi t 1 == 1) (fun e => rfl) h
   rw [h1, h2]
   rfl
end Go.Proofs.YtkoplblbeapfgaaGreatDoor
