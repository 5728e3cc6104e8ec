/-
Parts of the walk of TopEnds. Conditions stand in each statement.
-/
import Derived.Test.YtkoplblbeapfgaaGreatDoorX28
namespace Go.Proofs.YtkoplblbeapfgaaGreatDoor
open Go.RowKit
open Tryz
set_option linter.all false
set_option maxRecDepth 100000
set_option maxHeartbeats 8000000
theorem CoreAt.cg {w : World} {C : CL} {id : Int} {c : Core} (h : CoreAt w C id c) : C.cb ≠ C.gb := fun e => by
 obtain ⟨es, first, hb, _⟩ := h.buf
 have h80 := hb.room
 rw [← e] at h80
 have h81 : w.cell? ⟨C.cb, 80, none⟩ = none := by rw [World.cell?, h.head]; rfl
 rw [h81] at h80
 cases h80
theorem NQ (y0 y1 y2 y3 y4 : Ln) (l0 l1 lr : List Ins) (hl0 : l0.length ≤ 4096) (hl1 : l1.length ≤ 4096) (hlr : lr.length ≤ 4096) (hpos : 0 < lr.length) (hd0 : ∀ i ∈ l0, CF i = true) (hd1 : ∀ i ∈ l1, CF i = true) (hdr : ∀ i ∈ lr, CF i = true) (S PS P0 P1 RC : Value) (w : World) (hS : AH w 109 8 S 5 ([y0, y1, y2, y3, y4].flatMap Ln.cells)) (hPS : AH w 28 1 PS 2 [P0, P1]) (hP0 : AH w 27 1 P0 l0.length (AX (l0.map BG))) (hP1 : AH w 27 1 P1 l1.length (AX (l1.map BG))) (hRC : AH w 27 1 RC lr.length (AX (lr.map BG))) : Y 30 #[Dv, S, PS, RC] w fun e w' => ∃ T L V C mb CS R, e = Z (.tuple #[.pointer (some ⟨mb, 0, none⟩), I 0]) ∧ MkAt T w' L V C mb CS R ⟨DY l0, DY l1, OP [Ln.zero, y1, y2, y3, y4]⟩ ∧ (∀ k, k < w.heap.size → T k = 0) ∧ Below w w w' := by
 have hmn := Vw (fun w h => Oh y0 y1 y2 y3 y4 S w h)
 unfold Dv at *
 obtain ⟨pg, off, pcap, pcs, rfl, hpg, _, _, hpc⟩ := hPS.lies (by decide)
 obtain ⟨rg, roff, rcap, rcs, rfl, _⟩ := hRC.lies hpos
 obtain ⟨W1, hE, hb1, hI1⟩ := alloc_new w (.cells KE 23)
 have c1 := AA hI1
 have HB1 := Vw hb1
 have HI1 := Vw hI1
 have HPG := Vw (WA hpg hpc)
 have HS := Vw (hS.below hb1)
 have HP0 := Vw hP0
 have HP1 := Vw hP1
 have HRC := Vw hRC
 clear hS hPS hP0 hP1 hRC hb1 hI1 hpg hpc
 go_enter func30, ntmps30
 go_wp2_with fail
 refine (hmn.out _ HS.out).mono ?_
 rintro r w2 ⟨T, L, V, rfl, hsys, hTz, hb2⟩
 have HSys := Vw hsys
 have HT := Vw hTz
 have HB2 := Vw (WA (HB1.out.trans (hb2.mono HB1.out.size)) hb2)
 have c2 := AA (AB hb2 HI1.out)
 have hlow := Vw hsys.low
 have hrc2 := HRC.out.below (HB1.out.trans (hb2.mono HB1.out.size))
 have hcl := Vw (cloneX.2.1 rg roff lr.length rcap (AX (lr.map BG)) (fun u hu => by
  simp only [AX, List.mem_flatMap, List.mem_cons, List.not_mem_nil, or_false] at hu
  obtain ⟨a, _, rfl⟩ := hu
  rfl) w2 hrc2 (by omega))
 clear hsys hTz hb2 c1 hE hrc2
 go_wp2_with fail
 refine hcl.out.mono ?_
 rintro r w3 ⟨R, rfl, hR, hRo, hb3⟩
 obtain ⟨A0, capR, rfl⟩ := hR.form
 have HB3 := Vw hb3
 obtain ⟨W4, hE4, hb4, hI4⟩ := alloc_new w3 (.cells #[L.sb, .slice none 0 0, .slice A0 lr.length capR, I 0] 99)
 have hb24 : Below w2 w2 W4 := hb3.trans (hb4.mono hb3.size)
 have Q0 := Vw (show Mq T w2 W4 L V (OP [Ln.zero, y1, y2, y3, y4]) w3.heap.size (.slice none 0 0) (.slice A0 lr.length capR) 0 [] from ⟨HSys.out.below hb24, hI4, AH.nil _ _ _, fun k hk => by simp [Value.ownBlock] at hk, hb3.size, hb24, hlow.out⟩)
 have HW0 := Vw (show Below W1 W1 W4 ∧ w3.heap.size < W4.heap.size from ⟨HB2.out.2.trans (hb24.mono HB2.out.2.size), AF hI4⟩)
 have c3 := AA (AB hb3 (AB HB2.out.2 HI1.out))
 generalize hmb : w3.heap.size = mb at *
 clear hb3 hb4 hI4 hb24 hR hRo c2
 go_wp2_with fail
 refine wp_loop_rounds 3 ?_
 obtain ⟨V0, hV0⟩ := ex_ W4
 rw [hV0] at Q0 HW0 ⊢
 clear hE4 c3
 have c0 := AA Q0.out.head
 have cb0 := AA (AB HW0.out.1 HI1.out)
 have e0 : V0.cell? ⟨pg, off, none⟩ = some P0 := AD ((HW0.out.1.block _ (AF (AB HB1.out HPG.out.1))).trans (AB HB1.out HPG.out.1)) _ (HPG.out.2 0 _ rfl)
 rw [rounds_succ]
 go_wp2_with fail
 have hcn0 := FQ 0 rfl l0 (hl0) (hd0) P0 V0 (HP0.out.below (HB1.out.trans (HW0.out.1.mono HB1.out.size)))
 refine hcn0.mono ?_
 rintro r u0 ⟨cb_0, pb_0, gb_0, rfl, hc0, o1_0, o2_0, o3_0, o4_0, bb0⟩
 have K0 := Vw (WA hc0 (WA o1_0 (WA o2_0 (WA o3_0 (WA o4_0 bb0)))))
 clear hc0 o1_0 o2_0 o3_0 o4_0 bb0 hcn0 c0 cb0 e0
 have QA0 := Vw (Q0.out.below' K0.out.2.2.2.2.2)
 have d0 := AA QA0.out.head
 have HA0 := Vw (AC u0 (.cells #[cb_0] 70))
 go_wp2_with (at_builtin; refine Ab rfl _ _ _ _ rfl VG (.slice none 0 0) 0 [] rfl (QA0.out.cores.below HA0.out) _ 1 _ rfl (Src.one underlying97 (AE u0 _) rfl (by simp [Value.oneCell'])) (by omega) (by omega) ?_)
 intro A1 cap1 x0 hr0 hg0 hm0
 have hq0 := QA0.out.push HA0.out hr0 hg0 hm0
 have hh0 := AW (QA0.out.cores.below HA0.out) hg0 (AB HA0.out QA0.out.head) (by decide)
 have HQ0 := Vw hq0
 have y0 := AA hh0
 have f0 := AJ hh0
 clear hr0 hg0 hm0 hq0 hh0 d0
 go_wp2_with fail
 generalize hV1 : World.setCell x0 _ _ = V1 at *
 have Q1 := Vw HQ0.out.1
 have HW1 := Vw (show Below W1 W1 V1 ∧ u0.heap.size ≤ V1.heap.size from ⟨HB2.out.2.trans (Q1.out.below.mono HB2.out.2.size), by rw [← hV1]; simpa [World.setCell] using HQ0.out.2.1⟩)
 clear hV1 y0 f0
 have c1 := AA Q1.out.head
 have cb1 := AA (AB HW1.out.1 HI1.out)
 have e1 : V1.cell? ⟨pg, off + 1, none⟩ = some P1 := AD ((HW1.out.1.block _ (AF (AB HB1.out HPG.out.1))).trans (AB HB1.out HPG.out.1)) _ (HPG.out.2 1 _ rfl)
 rw [rounds_succ]
 go_wp2_with fail
 have hcn1 := FQ 1 rfl l1 (hl1) (hd1) P1 V1 (HP1.out.below (HB1.out.trans (HW1.out.1.mono HB1.out.size)))
 refine hcn1.mono ?_
 rintro r u1 ⟨cb_1, pb_1, gb_1, rfl, hc1, o1_1, o2_1, o3_1, o4_1, bb1⟩
 have K1 := Vw (WA hc1 (WA o1_1 (WA o2_1 (WA o3_1 (WA o4_1 bb1)))))
 clear hc1 o1_1 o2_1 o3_1 o4_1 bb1 hcn1 c1 cb1 e1
 have QA1 := Vw (Q1.out.below' K1.out.2.2.2.2.2)
 have d1 := AA QA1.out.head
 have HA1 := Vw (AC u1 (.cells #[cb_1] 70))
 go_wp2_with (at_builtin; refine Ab rfl _ _ _ _ rfl VG (.slice A1 1 cap1) 1 [.pointer (some cb_0)] rfl (QA1.out.cores.below HA1.out) _ 1 _ rfl (Src.one underlying97 (AE u1 _) rfl (by simp [Value.oneCell'])) (by omega) (by omega) ?_)
 intro A2 cap2 x1 hr1 hg1 hm1
 have hq1 := QA1.out.push HA1.out hr1 hg1 hm1
 have hh1 := AW (QA1.out.cores.below HA1.out) hg1 (AB HA1.out QA1.out.head) (by decide)
 have HQ1 := Vw hq1
 have y1 := AA hh1
 have f1 := AJ hh1
 clear hr1 hg1 hm1 hq1 hh1 d1
 go_wp2_with fail
 generalize hV2 : World.setCell x1 _ _ = V2 at *
 have Q2 := Vw HQ1.out.1
 have HW2 := Vw (show Below W1 W1 V2 ∧ u1.heap.size ≤ V2.heap.size from ⟨HB2.out.2.trans (Q2.out.below.mono HB2.out.2.size), by rw [← hV2]; simpa [World.setCell] using HQ1.out.2.1⟩)
 clear hV2 y1 f1
 have cb2 := AA (AB HW2.out.1 HI1.out)
 have hcn2 := Vw (FQ 0 rfl lr hlr hdr (.slice (some ⟨rg, roff, none⟩) lr.length rcap) V2 (HRC.out.below (HB1.out.trans (HW2.out.1.mono HB1.out.size))))
 rw [rounds_succ]
 go_wp2_with fail
 refine hcn2.out.mono ?_
 rintro r u2 ⟨cb_2, pb_2, gb_2, rfl, _, _, _, _, _, bb2⟩
 have BB2 := Vw bb2
 clear bb2 cb2 hcn2
 go_wp2_with fail
 go_ret2
 obtain ⟨k0, z1, z2, z3, z4, bb0⟩ := K0.out
 obtain ⟨k1, t1, t2, t3, t4, bb1⟩ := K1.out
 obtain ⟨s1, s2, s3⟩ := k0.lts
 obtain ⟨q1, q2, q3⟩ := k1.lts
 have m0 := HW0.out.2
 have m1 := HW1.out.2
 have m2 := HW2.out.2
 have b0 := bb0.size
 have b1 := bb1.size
 have hC1 : ∀ q, (Value.slice A1 1 cap1).ownBlock = some q → u0.heap.size ≤ q ∧ q < V1.heap.size := fun q hq => ⟨by
  rcases HQ0.out.2.2.1 q hq with e | e
  · simp [Value.ownBlock] at e
  · exact e, Q1.out.cores.lt q hq⟩
 have hC2 : ∀ q, (Value.slice A2 2 cap2).ownBlock = some q → (u0.heap.size ≤ q ∧ q < V1.heap.size) ∨ u1.heap.size ≤ q := fun q hq => by
  rcases HQ1.out.2.2.1 q hq with e | e
  · exact .inl (hC1 q e)
  · exact .inr e
 have h0V1 : CoreAt V1 ⟨cb_0, pb_0, gb_0⟩ 0 (DY l0) := k0.to fun k hk => HQ0.out.2.2.2 k (by rcases hk with rfl | rfl | rfl <;> assumption) (by rcases hk with rfl | rfl | rfl <;> (try simp only) <;> omega) (by simp [Value.ownBlock])
 have h0u1 : CoreAt u1 ⟨cb_0, pb_0, gb_0⟩ 0 (DY l0) := h0V1.to fun k hk => bb1.block k (by rcases hk with rfl | rfl | rfl <;> (try simp only) <;> (try simp only at s1 s2 s3) <;> omega)
 have h0V2 : CoreAt V2 ⟨cb_0, pb_0, gb_0⟩ 0 (DY l0) := h0u1.to fun k hk => HQ1.out.2.2.2 k (by rcases hk with rfl | rfl | rfl <;> (try simp only) <;> (try simp only at s1 s2 s3) <;> omega) (by rcases hk with rfl | rfl | rfl <;> (try simp only) <;> omega) (fun e => by have := hC1 k e; (try simp only at s1 s2 s3); rcases hk with rfl | rfl | rfl <;> (try simp only at this) <;> omega)
 have h1V2 : CoreAt V2 ⟨cb_1, pb_1, gb_1⟩ 1 (DY l1) := k1.to fun k hk => HQ1.out.2.2.2 k (by rcases hk with rfl | rfl | rfl <;> assumption) (by rcases hk with rfl | rfl | rfl <;> (try simp only) <;> omega) (fun e => by have := hC1 k e; rcases hk with rfl | rfl | rfl <;> (try simp only at this) <;> omega)
 have h0u2 : CoreAt u2 ⟨cb_0, pb_0, gb_0⟩ 0 (DY l0) := h0V2.to fun k hk => BB2.out.block k (by have := h0V2.lts; rcases hk with rfl | rfl | rfl <;> (try simp only at this ⊢) <;> omega)
 have h1u2 : CoreAt u2 ⟨cb_1, pb_1, gb_1⟩ 1 (DY l1) := h1V2.to fun k hk => BB2.out.block k (by have := h1V2.lts; rcases hk with rfl | rfl | rfl <;> (try simp only at this ⊢) <;> omega)
 (try simp only at s1 s2 s3 q1 q2 q3)
 have w24 := HB2.out.2.size
 have hw0 := Q0.out.below.size
 obtain ⟨M1, M2⟩ := Ty (C := ⟨⟨cb_0, pb_0, gb_0⟩, ⟨cb_1, pb_1, gb_1⟩⟩) (Q2.out.below' BB2.out) h0u2 h1u2 ⟨by (try simp only); omega, by (try simp only); omega, by (try simp only); omega⟩ z4 t4 (fun k k' hk hk' => by rcases hk with rfl | rfl | rfl <;> rcases hk' with rfl | rfl | rfl <;> (try simp only) <;> omega) (fun k hk => ⟨by rcases hk with rfl | rfl | rfl | rfl | rfl | rfl <;> (try simp only) <;> omega, fun e => by have := hC2 k e; rcases hk with rfl | rfl | rfl | rfl | rfl | rfl <;> (try simp only at this) <;> omega⟩) h0u2.cg h1u2.cg
 exact ⟨_, _, _, _, _, _, _, rfl, M1, fun k hk => (M2 k (Vy hk HB2.out.1.size)).trans (HT.out k (Vy hk HB1.out.size)), HB1.out.trans ((HW2.out.1.trans (BB2.out.mono HW2.out.1.size)).mono HB1.out.size)⟩
def Jz (w0 : World) (OPS : Value) (t : TxI) : Prop := ∀ (Av : Nat → Prop) (bb wb : Nat) (B : BS) (f k e : Nat) (w : World), Below w0 w0 w → (∀ k, k < w0.heap.size → Av k) → (∀ k, Av k → k < w.heap.size) → ¬ Av wb → B.l.length ≤ 10 → B.marks.length ≤ 10 → B.jumps.length ≤ 10 → Ap (fun k => Av k ∨ k = wb) w bb B → Bw w wb bb f k e → Y 61 #[wb, .agg #[OPS, t.abort]] w fun r w' => r = Z (.tuple #[]) ∧ Ap (fun k => Av k ∨ k = wb) w' bb (Dq B t) ∧ (∃ f k e, Bw w' wb bb f k e) ∧ Pres Av w w'
theorem Ap.kept {Av : Nat → Prop} {w w' : World} {bb : Nat} {B : BS} (h : Ap Av w bb B) (hk : ∀ k, k < w.heap.size → ¬ Av k → w'.heap[k]? = w.heap[k]?) : Ap Av w' bb B := by
 obtain ⟨vl, vm, vj, h1, h2, h3, h4, h5, h6, h7, h8⟩ := h
 exact ⟨vl, vm, vj, (hk bb (AF h1) h5).trans h1, h2.kept fun k hh => hk k (h2.lt k hh) (h6 k hh), h3.kept fun k hh => hk k (h3.lt k hh) (h7 k hh), h4.kept fun k hh => hk k (h4.lt k hh) (h8 k hh), h5, h6, h7, h8⟩
theorem Ap.setW {Av : Nat → Prop} {w : World} {bb : Nat} {B : BS} (h : Ap Av w bb B) {p : Addr} (hp : Av p.block) (u : Value) : Ap Av (w.setCell p u) bb B :=
 h.kept fun k _ hk => Vz w p u k (fun e => hk (e ▸ hp))
theorem Ap.regrow {Av : Nat → Prop} {w w' : World} {bb : Nat} {B : BS} {S S' : Value} (h : Ap (fun k => Av k ∨ S.ownBlock = some k) w bb B) (hg : w.grownBy w' S.ownBlock) (hm : Bf w S S') : Ap (fun k => Av k ∨ S'.ownBlock = some k) w' bb B := by
 obtain ⟨vl, vm, vj, h1, h2, h3, h4, h5, h6, h7, h8⟩ := h
 have key : ∀ k, k < w.heap.size → ¬ (Av k ∨ S.ownBlock = some k) → w'.heap[k]? = w.heap[k]? := fun k hk hn => hg.block k hk (fun e => hn (.inr e.symm))
 have hn : ∀ k, k < w.heap.size → ¬ (Av k ∨ S.ownBlock = some k) → ¬ (Av k ∨ S'.ownBlock = some k) := by
  intro k hk hn hh
  rcases hh with hh | hh
  · exact hn (.inl hh)
  · rcases hm with hm | ⟨g, hm, hle⟩
    · exact hn (.inr (hm ▸ hh))
    · rw [hm] at hh
      cases hh
      omega
 exact ⟨vl, vm, vj, (key bb (AF h1) h5).trans h1, h2.kept fun k hh => key k (h2.lt k hh) (h6 k hh), h3.kept fun k hh => key k (h3.lt k hh) (h7 k hh), h4.kept fun k hh => key k (h4.lt k hh) (h8 k hh), hn bb (AF h1) h5, fun k hh => hn k (h2.lt k hh) (h6 k hh), fun k hh => hn k (h3.lt k hh) (h7 k hh), fun k hh => hn k (h4.lt k hh) (h8 k hh)⟩
theorem KX (f k : Nat) (o : OpI) (l : List OpI) : ∀ B, Ec f k B (l ++ [o]) = Hf (Ec f k B l) f k o := by
 induction l with
 | nil => intro B; rfl
 | cons a l ih => intro B; exact ih _
theorem IX (o : OpI) (l : List OpI) : Ay (l ++ [o]) = Ay l ++ (if (o.bad || o.kind == 1) = true then [] else [o.w]) := by
 induction l with
 | nil => simp only [List.nil_append, Ay]
 | cons a l ih =>
   simp only [List.cons_append, Ay]
   rw [ih]
   by_cases h : (a.bad || a.kind == 1) = true
   · rw [if_pos h, if_pos h]
   · rw [if_neg h, if_neg h, List.cons_append]
theorem JO (l : List OpI) : (Ay l).length ≤ l.length := by
 induction l with
 | nil => exact Nat.le_refl _
 | cons a l ih =>
   simp only [Ay]
   split
   · simp only [List.length_cons]; omega
   · simp only [List.length_cons]; omega
structure Fits (B C : BS) (n : Nat) : Prop where
 l : C.l.length ≤ B.l.length + 60 * n
 jumps : C.jumps.length ≤ B.jumps.length + 4 * n
 ge : B.marks.length ≤ C.marks.length
 marks : C.marks.length ≤ B.marks.length + 2 * n
 keep : ∀ i, i < B.marks.length → C.marks[i]? = B.marks[i]?
theorem LT (B : BS) (x f : Nat) (v : Int) : ∃ p q, (GN B x f v).marks = ((B.marks ++ [-1] ++ [-1]).set B.marks.length p).set (B.marks.length + 1) q := ⟨_, _, rfl⟩
theorem RP (B : BS) (f k : Nat) (o : OpI) : Fits B (Hf B f k o) 1 := by
 unfold Hf
 split
 · exact ⟨by simp [BS.add, BS.jump], by simp [BS.add, BS.jump], by simp [BS.add, BS.jump], by simp [BS.add, BS.jump], fun i hi => rfl⟩
 split
 · exact ⟨by simp [Gf, BS.add, BS.jump], by simp [Gf, BS.add, BS.jump], by simp [Gf, BS.add, BS.jump], by simp [Gf, BS.add, BS.jump], fun i hi => rfl⟩
 split
 · exact ⟨by simp [FZ, AS, AP, BS.add, BS.jump]; try omega, by simp [FZ, AS, AP, BS.add, BS.jump], by simp [FZ, AS, BS.add, BS.jump], by simp [FZ, AS, BS.add, BS.jump], fun i hi => rfl⟩
 split
 · exact ⟨by simp [JL, AS, AP, BS.add, BS.jump]; try omega, by simp [JL, AS, AP, BS.add, BS.jump], by simp [JL, AS, BS.add, BS.jump], by simp [JL, AS, BS.add, BS.jump], fun i hi => rfl⟩
 · obtain ⟨p, q, hm⟩ := LT B o.w.toNat f o.v
   exact ⟨by simp [GN, AS, AP, BS.mark, BS.here, BS.add, BS.jump]; try omega, by simp [GN, AS, AP, BS.mark, BS.here, BS.add, BS.jump], by rw [hm]; simp; try omega, by rw [hm]; simp, fun i hi => by
    rw [hm, List.getElem?_set_ne (by omega), List.getElem?_set_ne (by omega), List.append_assoc, List.getElem?_append_left hi]⟩
theorem KY (f k : Nat) (l : List OpI) : ∀ B, Fits B (Ec f k B l) l.length := by
 induction l with
 | nil => intro B; exact ⟨Nat.le_refl _, Nat.le_refl _, Nat.le_refl _, Nat.le_refl _, fun _ _ => rfl⟩
 | cons a l ih =>
   intro B
   have h1 := RP B f k a
   have h2 := ih (Hf B f k a)
   refine ⟨?_, ?_, ?_, ?_, fun i hi => (h2.keep i (Vy hi h1.ge)).trans (h1.keep i hi)⟩
   · have := h1.l; have := h2.l; simp only [Ec, List.length_cons]; omega
   · have := h1.jumps; have := h2.jumps; simp only [Ec, List.length_cons]; omega
   · have := h1.ge; have := h2.ge; simp only [Ec]; omega
   · have := h1.marks; have := h2.marks; simp only [Ec, List.length_cons]; omega
structure TxFit (N : Nat) (C : BS) (m : Nat) : Prop where
 l : C.l.length ≤ N
 jumps : C.jumps.length ≤ N
 marks : C.marks.length ≤ N
 a : C.marks[m]? = some (-1)
 b : C.marks[m + 1]? = some (-1)
 c : C.marks[m + 2]? = some (-1)
theorem TxFit.lt {N : Nat} {C : BS} {m : Nat} (h : TxFit N C m) : m + 2 < C.marks.length := (List.getElem?_eq_some_iff.1 h.c).1
theorem Pj (B : BS) : ∃ p, (Iz B).marks = ((B.marks ++ [-1] ++ [-1] ++ [-1] ++ [-1]).set (B.marks ++ [-1] ++ [-1] ++ [-1]).length p) := ⟨_, rfl⟩
theorem VL (l : List Int) : (l ++ [-1] ++ [-1] ++ [-1] ++ [-1])[l.length]? = some (-1) ∧ (l ++ [-1] ++ [-1] ++ [-1] ++ [-1])[l.length + 1]? = some (-1) ∧ (l ++ [-1] ++ [-1] ++ [-1] ++ [-1])[l.length + 2]? = some (-1) := by
 induction l with
 | nil => exact ⟨rfl, rfl, rfl⟩
 | cons a l ih => exact ⟨by simpa using ih.1, by simpa using ih.2.1, by simpa using ih.2.2⟩
theorem Sa (B : BS) (hl : B.l.length ≤ 10) (hm : B.marks.length ≤ 10) (hj : B.jumps.length ≤ 10) : TxFit 40 (Iz B) B.marks.length := by
 obtain ⟨p, hp⟩ := Pj B
 have hs : (B.marks ++ [-1] ++ [-1] ++ [-1]).length = B.marks.length + 3 := by simp
 have ho := VL B.marks
 refine ⟨by simp [Iz, Ft, BS.mark, BS.here, BS.add, BS.jump]; omega, by simp [Iz, Ft, BS.mark, BS.here, BS.add, BS.jump]; omega, by rw [hp]; simp; omega, ?_, ?_, ?_⟩
 · rw [hp, List.getElem?_set_ne (by omega)]; exact ho.1
 · rw [hp, List.getElem?_set_ne (by omega)]; exact ho.2.1
 · rw [hp, List.getElem?_set_ne (by omega)]; exact ho.2.2
theorem TxFit.ops {N : Nat} {C D : BS} {m n : Nat} (h : TxFit N C m) (hf : Fits C D n) : TxFit (N + 60 * n) D m := by
 have := h.lt
 have h1 := h.l; have h2 := h.jumps; have h3 := h.marks
 have f1 := hf.l; have f2 := hf.jumps; have f3 := hf.marks
 exact ⟨by omega, by omega, by omega, (hf.keep _ (by omega)).trans h.a, (hf.keep _ (by omega)).trans h.b, (hf.keep _ (by omega)).trans h.c⟩
theorem TxFit.mono {N M : Nat} {C : BS} {m : Nat} (h : TxFit N C m) (hn : N ≤ M) : TxFit M C m := ⟨Vx h.l hn, Vx h.jumps hn, Vx h.marks hn, h.a, h.b, h.c⟩
theorem TxFit.tx2 {N : Nat} {C : BS} {m : Nat} (h : TxFit N C m) (t : TxI) (k e : Nat) : TxFit (N + 20) (Iy C t k e) m := by
 have h1 := h.l; have h2 := h.jumps; have h3 := h.marks
 unfold Iy
 split
 · exact ⟨by simp [BS.add, BS.jump]; omega, by simp [BS.add, BS.jump]; omega, Vx h3 (by omega), h.a, h.b, h.c⟩
 · unfold CI
   split
   · exact ⟨by simp [BS.add, BS.jump, AO]; omega, by simp [BS.add, BS.jump]; omega, Vx h3 (by omega), h.a, h.b, h.c⟩
   · exact ⟨by simp [BS.add, BS.jump, AO]; omega, by simp [BS.add, BS.jump]; omega, Vx h3 (by omega), h.a, h.b, h.c⟩
theorem Nq (B : BS) : ∃ p q, (DA B).marks = ((B.marks ++ [-1] ++ [-1]).set B.marks.length p).set (B.marks.length + 1) q := ⟨_, _, rfl⟩
theorem TxFit.tx3 {N : Nat} {C : BS} {m : Nat} (h : TxFit N C m) : ((C.here m).add [AN 5 102]).marks[m + 1]? = some (-1) ∧ (DA (((C.here m).add [AN 5 102]).here (m + 1))).marks[m + 2]? = some (-1) ∧ (DA (((C.here m).add [AN 5 102]).here (m + 1))).l.length ≤ N + 40 := by
 have h1 := h.l
 have hlt := h.lt
 obtain ⟨p, q, hm⟩ := Nq (((C.here m).add [AN 5 102]).here (m + 1))
 have e : (((C.here m).add [AN 5 102]).here (m + 1)).marks = (C.marks.set m C.l.length).set (m + 1) (C.l ++ [AN 5 102]).length := rfl
 refine ⟨?_, ?_, by simp [DA, BS.mark, BS.here, BS.add, BS.jump, AO, AP]; omega⟩
 · show (C.marks.set m C.l.length)[m + 1]? = some (-1)
   rw [List.getElem?_set_ne (by omega)]
   exact h.b
 · rw [hm, e, List.getElem?_set_ne (by simp; omega), List.getElem?_set_ne (by simp; omega), List.append_assoc, List.getElem?_append_left (by simp; omega), List.getElem?_set_ne (by omega), List.getElem?_set_ne (by omega)]
   exact h.c
def IL (o : OpI) : Bool := (o.bad == decide (8 ≤ o.w)) && decide (0 ≤ o.w) && decide (1 ≤ o.kind ∧ o.kind ≤ 4) && decide (0 ≤ o.v ∧ o.v < 9223372036854775808)
theorem Lk {o : OpI} (h : IL o = true) : o.bad = decide (8 ≤ o.w) ∧ 0 ≤ o.w ∧ 1 ≤ o.kind ∧ o.kind ≤ 4 ∧ 0 ≤ o.v ∧ o.v < 9223372036854775808 := by
 simp only [IL, Bool.and_eq_true, beq_iff_eq, decide_eq_true_eq] at h
 exact ⟨h.1.1.1, h.1.1.2, h.1.2.1, h.1.2.2, h.2.1, h.2.2⟩
theorem OF {l : List OpI} (h : ∀ o ∈ l, IL o = true) : ∀ x ∈ Ay l, 0 ≤ x ∧ x < 8 := by
 induction l with
 | nil => intro x hx; simp [Ay] at hx
 | cons a l ih =>
   have ih := ih fun o ho => h o (by simp [ho])
   obtain ⟨h1, h2, _⟩ := Lk (h a (by simp))
   intro x hx
   simp only [Ay] at hx
   split at hx
   · exact ih x hx
   · rename_i hb
     rcases List.mem_cons.1 hx with rfl | hx
     · simp only [Bool.or_eq_true, not_or, Bool.not_eq_true] at hb
       rw [hb.1] at h1
       have := of_decide_eq_false h1.symm
       omega
     · exact ih x hx
def Pf (A2 : Nat → Prop) (bb m0 m1 : Nat) (B4 : BS) (ops : List OpI) (W8 : World) (s i : Value) (W : World) : Prop :=
 ∃ j : Nat, j ≤ ops.length ∧ i = I j ∧ AH W 3 1 s (Ay (ops.take j)).length ((Ay (ops.take j)).map (I ·)) ∧ Ap (fun i => A2 i ∨ s.ownBlock = some i) W bb (Ec m0 m1 B4 (ops.take j)) ∧ Pres A2 W8 W ∧ ∀ i, s.ownBlock = some i → W8.heap.size ≤ i
theorem JQ {A2 : Nat → Prop} {bb m0 m1 : Nat} {B4 : BS} {ops : List OpI} {W8 wr W10 w' : World} {s i : Value} {j : Nat} {o : OpI} (ho : ops[j]? = some o) (hrow : AH wr 3 1 s (Ay (ops.take j)).length ((Ay (ops.take j)).map (I ·))) (hpr : Pres A2 W8 wr) (hout : ∀ i, s.ownBlock = some i → W8.heap.size ≤ i) (hb : Below wr wr W10) (hw : (o.bad || o.kind == 1) = true) (g : At (fun i => (A2 i ∨ s.ownBlock = some i) ∨ i = wr.heap.size) W10 bb (Hf (Ec m0 m1 B4 (ops.take j)) m0 m1 o) w') (hi : i = I ((j + 1 : Nat) : Int)) : Pf A2 bb m0 m1 B4 ops W8 s i w' := by
 have hj := (List.getElem?_eq_some_iff.1 ho).1
 have htk : ops.take (j + 1) = ops.take j ++ [o] := by rw [List.take_add_one, ho]; rfl
 refine ⟨j + 1, hj, hi, ?_, ?_, ?_, hout⟩
 · rw [htk, IX, if_pos hw, List.append_nil]
   exact (hrow.below hb).kept fun k hk => g.2.block k ((hrow.below hb).lt k hk) (.inl (.inr hk))
 · rw [htk, KX]
   exact g.1.weaken fun k hk => .inl hk
 · exact (hpr.trans (Pres.of_below hb)).trans (g.2.mono fun k _ hk => .inl (.inl hk))
theorem Gb {A2 : Nat → Prop} {bb m0 m1 : Nat} {B4 : BS} {ops : List OpI} {W8 wr W10 w5 w7 : World} {s S' i : Value} {j n : Nat} {o : OpI} {X : Obj} {xs : List Value} (hA : ∀ i, A2 i → i < W8.heap.size) (ho : ops[j]? = some o) (hpr : Pres A2 W8 wr) (hout : ∀ i, s.ownBlock = some i → W8.heap.size ≤ i) (hb : Below wr wr W10) (hw : (o.bad || o.kind == 1) = false) (g : At (fun i => (A2 i ∨ s.ownBlock = some i) ∨ i = wr.heap.size) W10 bb (Hf (Ec m0 m1 B4 (ops.take j)) m0 m1 o) w5) (hr : AH w7 3 1 S' n xs) (hn : n = (Ay (ops.take j)).length + 1) (hx : xs = (Ay (ops.take j)).map (I ·) ++ [I o.w]) (hg : (w5.alloc X).grownBy w7 s.ownBlock) (hm : Bf (w5.alloc X) s S') (hi : i = I ((j + 1 : Nat) : Int)) : Pf A2 bb m0 m1 B4 ops W8 S' i w7 := by
 subst hn hx
 have hj := (List.getElem?_eq_some_iff.1 ho).1
 have htk : ops.take (j + 1) = ops.take j ++ [o] := by rw [List.take_add_one, ho]; rfl
 have hba := AC w5 X
 refine ⟨j + 1, hj, hi, ?_, ?_, ?_, ?_⟩
 · rw [htk, IX, if_neg (by rw [hw]; decide), List.length_append, List.map_append]
   exact hr
 · rw [htk, KX]
   exact ((g.1.weaken (Bv := fun k => A2 k ∨ s.ownBlock = some k) fun k hk => .inl hk).below hba).regrow hg hm
 · exact ((hpr.trans (Pres.of_below hb)).trans (g.2.mono fun k _ hk => .inl (.inl hk))).trans ((Pres.of_below hba).trans (Pres.of_grown hg fun k hk ha => by have := hout k hk; have := hA k ha; omega))
 · intro k hk
   rcases hm with hm | ⟨g', hm, hle⟩
   · exact hout k (hm ▸ hk)
   · rw [hm] at hk
     cases hk
     have := hpr.size; have := hb.size; have := g.2.size; have := hba.size
     omega
theorem Mk.core_cell {T0 : Nat → Nat} {w0 w : World} {L : SL} {C : CC} {mb g off AV : Nat} {R : Value} {m : Mach} (h : Mk T0 w0 L C mb (.slice (some ⟨g, off, none⟩) 2 AV) R m w) {j : Nat} (hj : j < 2) : w.cell? ⟨g, off + j, none⟩ = some (.pointer (some ⟨(C.at j).cb, 0, none⟩)) := by
 obtain ⟨g', off', cap', cs, e, hg, _, _, hc⟩ := h.cores.lies (by decide)
 cases e
 rcases (by omega : j = 0 ∨ j = 1) with rfl | rfl
 · exact AD hg _ (hc 0 _ rfl)
 · exact AD hg _ (hc 1 _ rfl)
def Bc (m : Mach) (k : Int) : Bool := ED (m.core k) && EC (m.s.node k)
theorem GR (m : Mach) : m.quiet = (Bc m 0 && Bc m 1 && EW m.s.dir) := by
 have e0 : Bc m 0 = (ED m.c0 && EC m.s.n0) := rfl
 have e1 : Bc m 1 = (ED m.c1 && EC m.s.n1) := rfl
 rw [e0, e1, Mach.quiet]
 cases ED m.c0 <;> cases EC m.s.n0 <;> cases ED m.c1 <;> cases EC m.s.n1 <;> simp
theorem NL (m : Mach) (k : Int) (h : (m.core k).runs = true) : Bc m k = false := by simp [Bc, ED, h]
theorem OY (m : Mach) (k : Int) (h0 : 0 ≤ (m.core k).waits) (h : 0 < ((m.core k).buf.length : Int) + (m.core k).waits + ((m.s.node k).up.length : Int) + ((m.s.node k).ans.length : Int) + ((m.s.node k).down.length : Int)) : Bc m k = false := by
 cases hq : Bc m k with
 | false => rfl
 | true =>
   simp only [Bc, ED, EC, Bool.and_eq_true, List.isEmpty_iff, beq_iff_eq, Bool.not_eq_true'] at hq
   obtain ⟨⟨⟨_, b⟩, c⟩, ⟨⟨⟨d, e⟩, f⟩, _⟩, _⟩ := hq
   rw [b, c, d, e, f] at h
   simp at h
theorem Nx (x y : Slot) : (∀ z ∈ CD [x, y], z.st ≤ 3) ↔ x.st ≤ 3 ∧ y.st ≤ 3 := by
 simp only [CD, List.mem_filter, List.mem_cons, List.not_mem_nil, or_false, Bool.not_eq_true', beq_eq_false_iff_ne]
 constructor
 · intro h
   constructor
   · by_cases h0 : x.st = 0
     · omega
     · exact h x ⟨.inl rfl, h0⟩
   · by_cases h0 : y.st = 0
     · omega
     · exact h y ⟨.inr rfl, h0⟩
 · rintro ⟨h1, h2⟩ z ⟨rfl | rfl, _⟩ <;> assumption
theorem Ld (m : Mach) (k : Int) {z : Slot} (hz : z ∈ CD [(m.s.node k).arr.s0, (m.s.node k).arr.s1]) (h : ¬ z.st ≤ 3) : Bc m k = false := by
 cases hq : Bc m k with
 | false => rfl
 | true =>
   simp only [Bc, EC, Bool.and_eq_true, decide_eq_true_eq] at hq
   exact absurd ((Nx _ _).2 ⟨hq.2.1.2, hq.2.2⟩ z hz) h
theorem OX (m : Mach) (k : Int) (h0 : 0 ≤ (m.core k).waits) (hr : (m.core k).runs = false) (h : ¬ 0 < ((m.core k).buf.length : Int) + (m.core k).waits + ((m.s.node k).up.length : Int) + ((m.s.node k).ans.length : Int) + ((m.s.node k).down.length : Int)) (hs : ∀ z ∈ CD [(m.s.node k).arr.s0, (m.s.node k).arr.s1], z.st ≤ 3) : Bc m k = true := by
 have hs := (Nx _ _).1 hs
 have b0 : (m.core k).buf = [] := List.eq_nil_of_length_eq_zero (by omega)
 have b1 : (m.core k).waits = 0 := by omega
 have b2 : (m.s.node k).up = [] := List.eq_nil_of_length_eq_zero (by omega)
 have b3 : (m.s.node k).ans = [] := List.eq_nil_of_length_eq_zero (by omega)
 have b4 : (m.s.node k).down = [] := List.eq_nil_of_length_eq_zero (by omega)
 simp [Bc, ED, EC, hr, b0, b1, b2, b3, b4, hs.1, hs.2]
theorem Jv : ∀ (l : List Ent), (∀ k, k < l.length → (BO Ent.empty l k).busy = 0) → EW l = true
 | [], _ => rfl
 | e :: l, h => by
   have h0 : e.busy = 0 := h 0 (by simp)
   simp only [EW, h0, beq_self_eq_true, Bool.true_and]
   exact Jv l fun k hk => h (k + 1) (by simpa using hk)
theorem Jw : ∀ (l : List Ent) (k : Nat), k < l.length → (BO Ent.empty l k).busy ≠ 0 → EW l = false
 | e :: l, 0, _, h => by
   have h : e.busy ≠ 0 := h
   simp [EW, h]
 | e :: l, k + 1, hk, h => by
   have := Jw l k (by simpa using hk) h
   simp [EW, this]
theorem IA (T0 : Nat → Nat) (w0 : World) (L : SL) (C : CC) (mb : Nat) (CS R : Value) (m : Mach) (hq : ∀ i, AK i = true → (m.s.q i 1).length < 1000 ∧ (m.s.q i 2).length < 1000 ∧ (m.s.q i 3).length < 1000) (hw : ∀ i, AK i = true → 0 ≤ (m.core i).waits ∧ (m.core i).waits ≤ 100) (w : World) (h : Mk T0 w0 L C mb CS R m w) : Y 12 #[mb] w fun e w' => e = Z (.bool m.quiet) ∧ Mk T0 w0 L C mb CS R m w' := by
 obtain ⟨g, off, AV, _, rfl, _, _, _, _⟩ := h.cores.lies (by decide)
 have hQ := Vw (show ∀ i, AK i = true → ∀ w, Mk T0 w0 L C mb (.slice (some ⟨g, off, none⟩) 2 AV) R m w → Y 36 #[L.sb, I i] w fun e w' => ∃ A1 k1 A2 k2 A3 k3, e = Z (.tuple #[.slice A1 (m.s.node i).up.length k1, .slice A2 (m.s.node i).ans.length k2, .slice A3 (m.s.node i).down.length k3]) ∧ Mk T0 w0 L C mb (.slice (some ⟨g, off, none⟩) 2 AV) R m w' from fun i hi w h => by
  obtain ⟨T, hs, hb⟩ := h.sy
  refine (Ks T w L m.s i hi (hq i hi).1 (hq i hi).2.1 (hq i hi).2.2 w hs).mono ?_
  rintro e w' ⟨S1, S2, S3, h1, h2, h3, h4, h5⟩
  obtain ⟨A1, k1, r1⟩ := h2.form
  obtain ⟨A2, k2, r2⟩ := h3.form
  obtain ⟨A3, k3, r3⟩ := h4.form
  subst r1 r2 r3
  exact ⟨A1, k1, A2, k2, A3, k3, h1, hb _ _ h5⟩)
 have hS := Vw (show ∀ i, AK i = true → ∀ w, Mk T0 w0 L C mb (.slice (some ⟨g, off, none⟩) 2 AV) R m w → Y 39 #[L.sb, I i] w fun e w' => ∃ S, e = Z S ∧ AH w' 111 11 S (CD [(m.s.node i).arr.s0, (m.s.node i).arr.s1]).length (Be (CD [(m.s.node i).arr.s0, (m.s.node i).arr.s1])) ∧ Mk T0 w0 L C mb (.slice (some ⟨g, off, none⟩) 2 AV) R m w' from fun i hi w h => by
  obtain ⟨T, hs, hb⟩ := h.sy
  refine (Lv T w L m.s i hi w hs).mono ?_
  rintro e w' ⟨S, h1, h2, h3⟩
  exact ⟨S, h1, h2, hb _ _ h3⟩)
 have hE := Vw (show ∀ i, BQ i = true → ∀ w, Mk T0 w0 L C mb (.slice (some ⟨g, off, none⟩) 2 AV) R m w → Y 41 #[L.sb, I i] w fun e w' => e = Z (.agg (m.s.ent i).cells.toArray) ∧ Mk T0 w0 L C mb (.slice (some ⟨g, off, none⟩) 2 AV) R m w' from fun i hi w h => by
  obtain ⟨T, hs, hb⟩ := h.sy
  exact (Lx T w L m.s i hi w hs).mono fun e w' k => ⟨k.1, h.below k.2⟩)
 have hC := Vw (show ∀ w, Mk T0 w0 L C mb (.slice (some ⟨g, off, none⟩) 2 AV) R m w → Y 40 #[L.sb] w fun e w' => e = Z Dv ∧ Mk T0 w0 L C mb (.slice (some ⟨g, off, none⟩) 2 AV) R m w' from fun w h => by
  obtain ⟨T, hs, hb⟩ := h.sy
  exact (Jd T w L m.s w hs).mono fun e w' k => ⟨k.1, h.below k.2⟩)
 have hR := Vw (show ∀ i, AK i = true → ∀ w, Mk T0 w0 L C mb (.slice (some ⟨g, off, none⟩) 2 AV) R m w → Y 24 #[.pointer (some ⟨(C.at i).cb, 0, none⟩)] w fun e w' => e = Z (.bool (m.core i).runs) ∧ w = w' from fun i hi w h => Ni (C.at i) i _ w (h.core hi).1)
 have hWt := Vw (show ∀ i, AK i = true → ∀ w, Mk T0 w0 L C mb (.slice (some ⟨g, off, none⟩) 2 AV) R m w → Y 38 #[.pointer (some ⟨(C.at i).cb, 0, none⟩)] w fun e w' => e = Z (I (m.core i).waits) ∧ w = w' from fun i hi w h => MU (C.at i) i _ w (h.core hi).1)
 have hB := Vw (show ∀ i, AK i = true → ∀ w, Mk T0 w0 L C mb (.slice (some ⟨g, off, none⟩) 2 AV) R m w → Y 37 #[.pointer (some ⟨(C.at i).cb, 0, none⟩)] w fun e w' => ∃ A k, e = Z (.slice A (m.core i).buf.length k) ∧ Mk T0 w0 L C mb (.slice (some ⟨g, off, none⟩) 2 AV) R m w' from fun i hi w h => (LC (C.at i) i _ w (h.core hi).1).mono fun e w' ⟨A, k, h1, h2⟩ => ⟨A, k, h1, h.below h2⟩)
 have HQ := Vw (show ∀ i, AK i = true → (m.s.node i).up.length < 1000 ∧ (m.s.node i).ans.length < 1000 ∧ (m.s.node i).down.length < 1000 ∧ (m.core i).buf.length ≤ 2 from fun i hi => ⟨(hq i hi).1, (hq i hi).2.1, (hq i hi).2.2, by
  obtain ⟨_, _, _, _, _, hb, _⟩ := (h.core hi).1.buf
  simpa using hb⟩)
 have HW := Vw hw
 have HD := Vw (show m.s.dir.length = 5 by
  obtain ⟨T, V, a, _, _⟩ := h
  exact a.mc.sys.dlen)
 have c0 := AA h.head
 have H := Vw h
 have hfld : ∀ w : World, (Instr.field 23 (.agg KE) 1).run prog w = .ok (I 5) w := fun w => by kernel_rfl
 have hfle : ∀ (e : Ent) (w : World), (Instr.field 114 (.agg #[.bool e.here, .bool e.dirty, U e.data.a, U e.data.b, U e.data.c, U e.data.d, U e.data.e, U e.data.f, U e.data.g, U e.data.h, I e.owner, .int .u8 e.share, I e.busy, I e.who, .int .u8 e.wait]) 5).run prog w = .ok (I e.busy) w := fun e w => by kernel_rfl
 clear h hq hw
 go_enter func12, ntmps12
 go_wp2_with fail
 go_loopw [18] (fun i W => ∃ j : Nat, j ≤ 2 ∧ i = I j ∧ (∀ k : Nat, k < j → Bc m k = true) ∧ Mk T0 w0 L C mb (.slice (some ⟨g, off, none⟩) 2 AV) R m W) (fun i W => 2 - (intOf i).toNat)
 case atStart => exact ⟨0, by omega, rfl, fun k hk => by omega, H.out⟩
 case round =>
  obtain ⟨j, hj, rfl, hqk, hk⟩ := hrel
  have HP := Vw hqk
  have c1 := AA hk.head
  by_cases hlt : j < 2
  · have hci : AK (j : Int) = true := by rcases (by omega : j = 0 ∨ j = 1) with rfl | rfl <;> rfl
    have e0 := hk.core_cell hlt
    have hj0 : (0 : Int) ≤ (j : Int) := by omega
    have hlt' : (j : Int) < 2 := by omega
    have HK := Vw hk
    clear hk hqk
    go_wp2_with fail
    refine (hQ.out _ hci _ HK.out).mono ?_
    rintro e w1 ⟨A1, k1, A2, k2, A3, k3, rfl, h1⟩
    have H1 := Vw h1
    clear h1 c1 e0
    obtain ⟨q1, q2, q3, q4⟩ := HQ.out _ hci
    obtain ⟨v0, v1⟩ := HW.out _ hci
    have hrc := Vw (hR.out _ hci _ H1.out)
    cases hrun : (m.core j).runs with
    | true =>
      rw [hrun] at hrc
      go_wp2_with fail
      refine hrc.out.mono ?_
      rintro e w2 ⟨rfl, rfl⟩
      go_wp2_with fail
      go_ret
      refine ⟨?_, H1.out⟩
      have hf := NL m j hrun
      rw [GR]
      rcases (by omega : j = 0 ∨ j = 1) with rfl | rfl
      · rw [show Bc m 0 = false from hf]; simp
      · rw [show Bc m 1 = false from hf]; simp
    | false =>
      rw [hrun] at hrc
      have hwc := Vw (hWt.out _ hci)
      have hbc := Vw (hB.out _ hci)
      have hq4 : ((m.core j).buf.length : Int) ≤ 2 := by omega
      have s1 : IntKind.i64.wrap (((m.core j).buf.length : Int) + (m.core j).waits) = ((m.core j).buf.length : Int) + (m.core j).waits := by rw [IntKind.wrap_i64]; omega
      have s2 : IntKind.i64.wrap (((m.core j).buf.length : Int) + (m.core j).waits + ((m.s.node j).up.length : Int)) = ((m.core j).buf.length : Int) + (m.core j).waits + ((m.s.node j).up.length : Int) := by rw [IntKind.wrap_i64]; omega
      have s3 : IntKind.i64.wrap (((m.core j).buf.length : Int) + (m.core j).waits + ((m.s.node j).up.length : Int) + ((m.s.node j).ans.length : Int)) = ((m.core j).buf.length : Int) + (m.core j).waits + ((m.s.node j).up.length : Int) + ((m.s.node j).ans.length : Int) := by rw [IntKind.wrap_i64]; omega
      have s4 : IntKind.i64.wrap (((m.core j).buf.length : Int) + (m.core j).waits + ((m.s.node j).up.length : Int) + ((m.s.node j).ans.length : Int) + ((m.s.node j).down.length : Int)) = ((m.core j).buf.length : Int) + (m.core j).waits + ((m.s.node j).up.length : Int) + ((m.s.node j).ans.length : Int) + ((m.s.node j).down.length : Int) := by rw [IntKind.wrap_i64]; omega
      have HY := Vw (OX m j v0 hrun)
      have HZ := Vw (OY m j v0)
      have HSl := Vw (fun (z : Slot) hz h => Ld m j (z := z) hz h)
      have HSc := Vw (fun w h => hS.out j hci w h)
      generalize hn1 : (m.core j).buf.length = n1 at *
      generalize hn2 : (m.core j).waits = n2 at *
      generalize hn3 : (m.s.node j).up.length = n3 at *
      generalize hn4 : (m.s.node j).ans.length = n4 at *
      generalize hn5 : (m.s.node j).down.length = n5 at *
      clear hn1 hn2 hn3 hn4 hn5 hrun q1 q2 q3 q4
      go_wp2_with fail
      refine hrc.out.mono ?_
      rintro e w2 ⟨rfl, rfl⟩
      go_wp2_with fail
      refine (hbc.out _ H1.out).mono ?_
      rintro e w3 ⟨A4, k4, rfl, h3⟩
      have H3 := Vw h3
      clear h3
      go_wp2_with fail
      refine (hwc.out _ H3.out).mono ?_
      rintro e w4 ⟨rfl, rfl⟩
      by_cases hpos : 0 < (n1 : Int) + n2 + (n3 : Int) + (n4 : Int) + (n5 : Int)
      · go_wp2_with fail
        go_ret
        refine ⟨?_, H3.out⟩
        have hf := HZ.out hpos
        rw [GR]
        rcases (by omega : j = 0 ∨ j = 1) with rfl | rfl
        · rw [show Bc m 0 = false from hf]; simp
        · rw [show Bc m 1 = false from hf]; simp
      · have c4 := AA H3.out.head
        have HPOS := Vw hpos
        go_wp2_with fail
        refine (HSc.out _ H3.out).mono ?_
        rintro e w5 ⟨S, rfl, hr5, h5⟩
        have H5 := Vw h5
        have HR5 := Vw hr5
        have HL2 := Vw (show (CD [(m.s.node j).arr.s0, (m.s.node j).arr.s1]).length ≤ 2 from List.length_filter_le _ _)
        obtain ⟨A5, k5, rfl⟩ := hr5.form
        clear hr5 h5 c4 hpos
        generalize hLL : CD [(m.s.node j).arr.s0, (m.s.node j).arr.s1] = LL at *
        have hl2 : LL.length ≤ 2 := HL2.out
        go_wp2_with fail
        go_loopw [60] (fun i W => ∃ q : Nat, q ≤ LL.length ∧ i = I q ∧ (∀ z ∈ LL.take q, z.st ≤ 3) ∧ Below w5 w5 W) (fun i W => LL.length - (intOf i).toNat)
        case atStart => exact ⟨0, by omega, rfl, fun z hz => by simp at hz, Below.refl _ _⟩
        case round =>
         obtain ⟨q, hq, rfl, hz, hbq⟩ := hrel
         have HQz := Vw hz
         have HBq := Vw hbq
         clear hz hbq
         by_cases hltq : q < LL.length
         · obtain ⟨x, hx⟩ : ∃ x, LL[q]? = some x := ⟨LL[q], List.getElem?_eq_getElem hltq⟩
           obtain ⟨g', off', cap', hv, hc1, _, hcell⟩ := Fu (HR5.out.below HBq.out) hx
           cases hv
           have hltq' : (q : Int) < (LL.length : Int) := by omega
           have hq0 : (0 : Int) ≤ (q : Int) := by omega
           have e20 : wr.cell? ⟨g', off' + q * 11, none⟩ = I x.st := hcell 0 _ rfl
           have e21 : wr.cell? ⟨g', off' + q * 11 + 1, none⟩ = I x.line := hcell 1 _ rfl
           have e22 : wr.cell? ⟨g', off' + q * 11 + 2, none⟩ = U x.data.a := hcell 2 _ rfl
           have e23 : wr.cell? ⟨g', off' + q * 11 + 3, none⟩ = U x.data.b := hcell 3 _ rfl
           have e24 : wr.cell? ⟨g', off' + q * 11 + 4, none⟩ = U x.data.c := hcell 4 _ rfl
           have e25 : wr.cell? ⟨g', off' + q * 11 + 5, none⟩ = U x.data.d := hcell 5 _ rfl
           have e26 : wr.cell? ⟨g', off' + q * 11 + 6, none⟩ = U x.data.e := hcell 6 _ rfl
           have e27 : wr.cell? ⟨g', off' + q * 11 + 7, none⟩ = U x.data.f := hcell 7 _ rfl
           have e28 : wr.cell? ⟨g', off' + q * 11 + 8, none⟩ = U x.data.g := hcell 8 _ rfl
           have e29 : wr.cell? ⟨g', off' + q * 11 + 9, none⟩ = U x.data.h := hcell 9 _ rfl
           have e30 : wr.cell? ⟨g', off' + q * 11 + 10, none⟩ = I x.used := hcell 10 _ rfl
           obtain ⟨W7, hE7, hb7, hI7⟩ := alloc_new wr (.cells x 111)
           have c7 := AA hI7
           have HB7 := Vw (HBq.out.trans (hb7.mono HBq.out.size))
           have HX := Vw hx
           clear hcell hb7 hI7 hx
           by_cases h3 : x.st ≤ 3
           · go_wp2_with fail
             refine ⟨⟨q + 1, by omega, by simp, fun z hz => ?_, HB7.out⟩, by simp [intOf]; omega⟩
             rw [List.take_add_one, HX.out] at hz
             simp only [Option.toList_some, List.mem_append, List.mem_singleton] at hz
             rcases hz with hz | rfl
             · exact HQz.out z hz
             · exact h3
           · go_wp2_with fail
             go_ret
             refine ⟨?_, H5.out.below HB7.out⟩
             have hf := HSl.out x (List.mem_of_getElem? HX.out) h3
             rw [GR]
             rcases (by omega : j = 0 ∨ j = 1) with rfl | rfl
             · rw [show Bc m 0 = false from hf]; simp
             · rw [show Bc m 1 = false from hf]; simp
         · obtain rfl : q = LL.length := by omega
           have hyes := HY.out HPOS.out (by have := HQz.out; rwa [List.take_length] at this)
           go_wp2_with fail
           refine ⟨⟨j + 1, by omega, by simp, fun k hk => ?_, H5.out.below HBq.out⟩, by simp [intOf]; omega⟩
           by_cases e : k = j
           · subst e
             exact hyes
           · exact HP.out k (by omega)
  · obtain rfl : j = 2 := by omega
    have HK := Vw hk
    clear hk hqk
    go_wp2_with fail
    refine (hC.out _ HK.out).mono ?_
    rintro e w1 ⟨rfl, h1⟩
    have H1 := Vw h1
    have c2 := AA h1.head
    clear h1 c1
    have HQ01 := Vw (show Bc m 0 = true ∧ Bc m 1 = true from ⟨HP.out 0 (by decide), HP.out 1 (by decide)⟩)
    have hfe := Vw hfle
    clear hfle
    unfold Dv
    go_wp2_with fail
    go_loopw [75] (fun i W => ∃ q : Nat, q ≤ 5 ∧ i = I q ∧ (∀ k, k < q → (BO Ent.empty m.s.dir k).busy = 0) ∧ Mk T0 w0 L C mb (.slice (some ⟨g, off, none⟩) 2 AV) R m W) (fun i W => 5 - (intOf i).toNat)
    case atStart => exact ⟨0, by omega, rfl, fun k hk => by omega, H1.out⟩
    case round =>
     obtain ⟨q, hq, rfl, hz, hkq⟩ := hrel
     have HQz := Vw hz
     have HKq := Vw hkq
     have c3 := AA hkq.head
     clear hz hkq c2
     by_cases hltq : q < 5
     · have hlb : BQ (q : Int) = true := by simp [BQ]; omega
       have hce := Vw (hE.out q hlb _ HKq.out)
       have hq0 : (0 : Int) ≤ (q : Int) := by omega
       have hq1 : (q : Int) < 5 := by omega
       have HEN := Vw (show m.s.ent q = BO Ent.empty m.s.dir q from rfl)
       generalize m.s.ent q = en at *
       have hfl1 := hfe.out en
       cases hbz : (en.busy != 0) with
       | false =>
         go_wp2_with fail
         refine hce.out.mono ?_
         rintro e w6 ⟨rfl, h6⟩
         simp only [Ent.cells]
         have H6 := Vw h6
         clear h6
         go_wp2_with fail
         refine ⟨⟨q + 1, by omega, by simp, fun k hk => ?_, H6.out⟩, by simp [intOf]; omega⟩
         by_cases e : k = q
         · subst e
           rw [← HEN.out]
           simpa using hbz
         · exact HQz.out k (by omega)
       | true =>
         go_wp2_with fail
         refine hce.out.mono ?_
         rintro e w6 ⟨rfl, h6⟩
         simp only [Ent.cells]
         have H6 := Vw h6
         clear h6
         go_wp2_with fail
         go_ret
         refine ⟨?_, H6.out⟩
         rw [GR, Jw m.s.dir q (by rw [HD.out]; exact hltq) (by rw [← HEN.out]; simpa using hbz)]
         simp
     · obtain rfl : q = 5 := by omega
       go_wp2_with fail
       go_ret
       refine ⟨?_, HKq.out⟩
       rw [GR, HQ01.out.1, HQ01.out.2, Jv m.s.dir (by rw [HD.out]; exact HQz.out)]
       rfl
end Go.Proofs.YtkoplblbeapfgaaGreatDoor
