/-
Parts of the walk of TopEnds. Conditions stand in each statement.
-/
import Derived.Test.YtkoplblbeapfgaaGreatDoorX19
import Derived.Test.YtkoplblbeapfgaaGreatDoorX23
namespace Go.Proofs.YtkoplblbeapfgaaGreatDoor
open Go.RowKit
open Tryz
set_option linter.all false
set_option maxRecDepth 100000
set_option maxHeartbeats 8000000
theorem VG : ET prog 97 70 1 8 := ET.of underlying97 (z := .pointer none) (by kernel_rfl) rfl
structure Mq (T : Nat → Nat) (w1 W : World) (L : SL) (V : SV) (s : Sys) (mb : Nat) (CS R : Value) (n : Nat) (row : List Value) : Prop where
 sys : SysAt T W L V s
 head : W.heap[mb]? = some (.cells #[L.sb, CS, R, I 0] 99)
 cores : AH W 70 1 CS n row
 own : ∀ k, CS.ownBlock = some k → w1.heap.size ≤ k
 mbl : w1.heap.size ≤ mb
 below : Below w1 w1 W
 low : ∀ k, T k ≠ 0 → k < w1.heap.size
theorem Mq.below' {T : Nat → Nat} {w1 W W' : World} {L : SL} {V : SV} {s : Sys} {mb n : Nat} {CS R : Value} {row : List Value} (h : Mq T w1 W L V s mb CS R n row) (hb : Below W W W') : Mq T w1 W' L V s mb CS R n row :=
 ⟨h.sys.below hb, AB hb h.head, h.cores.below hb, h.own, h.mbl, h.below.trans (hb.mono h.below.size), h.low⟩
theorem Mq.push {T : Nat → Nat} {w1 W W3 W4 : World} {L : SL} {V : SV} {s : Sys} {mb n : Nat} {CS R : Value} {row row' : List Value} (h : Mq T w1 W L V s mb CS R n row) (hA : Below W W W3) {A : Option Addr} {AV n' : Nat} (hr : AH W4 70 1 (.slice A n' AV) n' row') (hg : W3.grownBy W4 CS.ownBlock) (hm : Bf W3 CS (.slice A n' AV)) : Mq T w1 (W4.setCell ⟨mb, 1, none⟩ (.slice A n' AV)) L V s mb (.slice A n' AV) R n' row' ∧ W.heap.size ≤ W4.heap.size ∧ (∀ k, (Value.slice A n' AV).ownBlock = some k → CS.ownBlock = some k ∨ W.heap.size ≤ k) ∧ ∀ k, k < W.heap.size → k ≠ mb → CS.ownBlock ≠ some k → (W4.setCell ⟨mb, 1, none⟩ (.slice A n' AV)).heap[k]? = W.heap[k]? := by
 have h3 := h.below' hA
 have hh4 := AW h3.cores hg h3.head (by decide)
 have hT : ∀ k, w1.heap.size ≤ k → T k = 0 := fun k hk => by
  by_cases h0 : T k = 0
  · exact h0
  · exact absurd (h.low k h0) (by omega)
 have hp : Ad (fun n => n == 0 || decide (20 ≤ n)) T W3 (W4.setCell ⟨mb, 1, none⟩ (.slice A n' AV)) := (Pres.of_grown hg fun k hk ha => by
  have : (T k == 0 || decide (20 ≤ T k)) = false := ha
  rw [hT k (h.own k hk)] at this
  cases this).setCell (p := ⟨mb, 1, none⟩) (by
   show ¬ ((T mb == 0 || decide (20 ≤ T mb)) = false)
   rw [hT mb h.mbl]
   decide) _
 have hb4 : Below w1 w1 (W4.setCell ⟨mb, 1, none⟩ (.slice A n' AV)) := ((h3.below.grown hg h3.below.size (fun k hk => h.own k hk))).setCell (p := ⟨mb, 1, none⟩) h.mbl _
 refine ⟨⟨h3.sys.keep hp, AI hh4 1 _, hr.stored hh4 (by decide) 1 _, fun k hk => ?_, h.mbl, hb4, h.low⟩, Vx hA.size hg.size, fun k hk => ?_, fun k hk hkm hkc => ?_⟩
 · rcases hm with e | ⟨g, e, hg4⟩
   · exact h.own k (e ▸ hk)
   · rw [e] at hk
     cases hk
     exact Vx h3.below.size hg4
 · rcases hm with e | ⟨g, e, hg4⟩
   · exact .inl (e ▸ hk)
   · rw [e] at hk
     cases hk
     exact .inr (Vx hA.size hg4)
 · exact (Vz _ _ _ _ hkm).trans ((hg.block k (Vy hk hA.size) (fun e => hkc e.symm)).trans (hA.block k hk))
theorem CoreAt.to {w w' : World} {C : CL} {id : Int} {c : Core} (h : CoreAt w C id c) (hb : ∀ k, (k = C.cb ∨ k = C.pb ∨ k = C.gb) → w'.heap[k]? = w.heap[k]?) : CoreAt w' C id c := h.kept (hb _ (.inl rfl)) (hb _ (.inr (.inl rfl))) (hb _ (.inr (.inr rfl)))
theorem CoreAt.lts {w : World} {C : CL} {id : Int} {c : Core} (h : CoreAt w C id c) : C.cb < w.heap.size ∧ C.pb < w.heap.size ∧ C.gb < w.heap.size := ⟨AF h.head, h.prog.lt, h.buf.lt⟩
def EJ (T : Nat → Nat) (C : CC) : Nat → Nat := fun k => if k = C.c0.cb then 20 else if k = C.c0.pb then 21 else if k = C.c0.gb then 22 else if k = C.c1.cb then 24 else if k = C.c1.pb then 25 else if k = C.c1.gb then 26 else T k
theorem SysAt.relab {T T' : Nat → Nat} {w : World} {L : SL} {V : SV} {s : Sys} (h : SysAt T w L V s) (hs : ∀ k, T k ≠ 0 → T' k = T k) (hl : ∀ k, T' k ≠ 0 → k < w.heap.size) : SysAt T' w L V s := by
 have e : ∀ k r, r ≠ 0 → T k = r → T' k = r := fun k r hr hk => (hs k (by omega)).trans hk
 have l : ∀ v r, r ≠ 0 → Fq T v r → Fq T' v r := fun v r hr hv k hk => e k r hr (hv k hk)
 exact ⟨h.sys, h.nodes, h.ag0, h.ag1, h.arr0, h.arr1, h.ru0, h.rs0, h.rd0, h.ru1, h.rs1, h.rd1, h.dir, h.dlen, h.wq, h.rq, h.mem, e _ _ (by decide) h.tsb, e _ _ (by decide) h.tnb, e _ _ (by decide) h.tdb, e _ _ (by decide) h.tqb, e _ _ (by decide) h.tdv, e _ _ (by decide) h.tmb, e _ _ (by decide) h.tg0, e _ _ (by decide) h.tg1, e _ _ (by decide) h.ta0, e _ _ (by decide) h.ta1, e _ _ (by decide) h.tl0, e _ _ (by decide) h.tl1, l _ _ (by decide) h.tu0, l _ _ (by decide) h.ts0, l _ _ (by decide) h.td0, l _ _ (by decide) h.tu1, l _ _ (by decide) h.ts1, l _ _ (by decide) h.td1, l _ _ (by decide) h.tq, hl⟩
theorem Ty {T : Nat → Nat} {w1 w : World} {L : SL} {V : SV} {s : Sys} {mb : Nat} {CS R : Value} {C : CC} {a b : Core} (h : Mq T w1 w L V s mb CS R 2 [.pointer (some C.c0.cb), .pointer (some C.c1.cb)]) (h0 : CoreAt w C.c0 0 a) (h1 : CoreAt w C.c1 1 b)
 (hlo : w1.heap.size ≤ C.c0.cb ∧ w1.heap.size ≤ C.c0.pb ∧ w1.heap.size ≤ C.c0.gb) (hgp : C.c0.gb ≠ C.c0.pb) (hgp1 : C.c1.gb ≠ C.c1.pb) (hd : ∀ k k', (k = C.c0.cb ∨ k = C.c0.pb ∨ k = C.c0.gb) → (k' = C.c1.cb ∨ k' = C.c1.pb ∨ k' = C.c1.gb) → k < k') (hmb : ∀ k, (k = C.c0.cb ∨ k = C.c0.pb ∨ k = C.c0.gb ∨ k = C.c1.cb ∨ k = C.c1.pb ∨ k = C.c1.gb) → k ≠ mb ∧ CS.ownBlock ≠ some k) (hcg : C.c0.cb ≠ C.c0.gb) (hcg1 : C.c1.cb ≠ C.c1.gb) :
 MkAt (EJ T C) w L V C mb CS R ⟨a, b, s⟩ ∧ ∀ k, k < w1.heap.size → EJ T C k = T k := by
 have p0 : C.c0.cb ≠ C.c0.pb := by obtain ⟨cs, hcs, _⟩ := h0.prog; exact AG h0.head hcs (by decide)
 have p1 : C.c1.cb ≠ C.c1.pb := by obtain ⟨cs, hcs, _⟩ := h1.prog; exact AG h1.head hcs (by decide)
 have d := fun k k' => hd k k'
 have c00 := d C.c0.cb C.c1.cb (by simp) (by simp)
 have c01 := d C.c0.cb C.c1.pb (by simp) (by simp)
 have c02 := d C.c0.cb C.c1.gb (by simp) (by simp)
 have c10 := d C.c0.pb C.c1.cb (by simp) (by simp)
 have c11 := d C.c0.pb C.c1.pb (by simp) (by simp)
 have c12 := d C.c0.pb C.c1.gb (by simp) (by simp)
 have c20 := d C.c0.gb C.c1.cb (by simp) (by simp)
 have c21 := d C.c0.gb C.c1.pb (by simp) (by simp)
 have c22 := d C.c0.gb C.c1.gb (by simp) (by simp)
 obtain ⟨q1, q2, q3⟩ := hlo
 obtain ⟨z1, z2, z3⟩ := h0.lts
 obtain ⟨z4, z5, z6⟩ := h1.lts
 have hz : ∀ k, w1.heap.size ≤ k → T k = 0 := fun k hk => by
  by_cases h0 : T k = 0
  · exact h0
  · exact absurd (h.low k h0) (by omega)
 have hlt : ∀ k, k < w1.heap.size → EJ T C k = T k := fun k hk => by
  unfold EJ
  rw [if_neg (by omega), if_neg (by omega), if_neg (by omega), if_neg (by omega), if_neg (by omega), if_neg (by omega)]
 have hout : ∀ k, k ≠ C.c0.cb → k ≠ C.c0.pb → k ≠ C.c0.gb → k ≠ C.c1.cb → k ≠ C.c1.pb → k ≠ C.c1.gb → EJ T C k = T k := fun k e1 e2 e3 e4 e5 e6 => by
  unfold EJ
  rw [if_neg e1, if_neg e2, if_neg e3, if_neg e4, if_neg e5, if_neg e6]
 have hsz := h.below.size
 refine ⟨⟨⟨h.sys.relab (fun k hk => hlt k (h.low k hk)) (fun k hk => ?_), h0, h1, ?_, ?_, ?_, ?_, ?_, ?_⟩, h.head, h.cores, ?_, fun k hk => ?_⟩, hlt⟩
 · by_cases e1 : k = C.c0.cb
   · omega
   by_cases e2 : k = C.c0.pb
   · omega
   by_cases e3 : k = C.c0.gb
   · omega
   by_cases e4 : k = C.c1.cb
   · omega
   by_cases e5 : k = C.c1.pb
   · omega
   by_cases e6 : k = C.c1.gb
   · omega
   rw [hout k e1 e2 e3 e4 e5 e6] at hk
   exact Vy (h.low k hk) hsz
 · simp [EJ]
 · simp [EJ, p0.symm]
 · simp [EJ, hgp, hcg.symm]
 · unfold EJ
   rw [if_neg (by omega), if_neg (by omega), if_neg (by omega), if_pos rfl]
 · unfold EJ
   rw [if_neg (by omega), if_neg (by omega), if_neg (by omega), if_neg p1.symm, if_pos rfl]
 · unfold EJ
   rw [if_neg (by omega), if_neg (by omega), if_neg (by omega), if_neg hcg1.symm, if_neg hgp1, if_pos rfl]
 · rw [hout mb (hmb _ (by simp)).1.symm (hmb _ (by simp)).1.symm (hmb _ (by simp)).1.symm (hmb _ (by simp)).1.symm (hmb _ (by simp)).1.symm (hmb _ (by simp)).1.symm]
   exact hz _ h.mbl
 · have hx : ∀ q, (q = C.c0.cb ∨ q = C.c0.pb ∨ q = C.c0.gb ∨ q = C.c1.cb ∨ q = C.c1.pb ∨ q = C.c1.gb) → k ≠ q := fun q hq e => (hmb q hq).2 (e ▸ hk)
   rw [hout k (hx _ (by simp)) (hx _ (by simp)) (hx _ (by simp)) (hx _ (by simp)) (hx _ (by simp)) (hx _ (by simp))]
   exact hz _ (h.own k hk)
theorem Cb : ∀ (js : List (Nat × Nat)) (mk : List Int) (l : List Ins), (EG js mk l).length = l.length
 | [], _, _ => rfl
 | j :: js, mk, l => by rw [EG, Cb js]; simp
theorem Ja : ∀ (js : List (Nat × Nat)) (x : Nat × Nat) (mk : List Int) (l : List Ins), EG (js ++ [x]) mk l = (EG js mk l).set x.1 { BO Lr (EG js mk l) x.1 with imm := BO (-1) mk x.2 }
 | [], x, mk, l => rfl
 | j :: js, x, mk, l => by rw [List.cons_append, EG, Ja js x mk]; rfl
theorem Lq {α : Type} (d : α) : ∀ (l : List α) (n : Nat), n < l.length → l[n]? = some (BO d l n)
 | [], n, h => by simp at h
 | a :: l, 0, _ => rfl
 | a :: l, n + 1, h => by simpa [BO] using Lq d l n (by simpa using h)
theorem Jn : ∀ (l : List Ins) (k : Nat) (v : Int), k < l.length → (Az l).set (k * 5 + 4) (I v) = Az (l.set k { BO Lr l k with imm := v })
 | [], k, v, h => by simp at h
 | a :: l, 0, v, _ => rfl
 | a :: l, k + 1, v, h => by
   have e := Jn l k v (by simpa using h)
   have h1 : Az (a :: l) = a.cells ++ Az l := rfl
   have h2 : Az ((a :: l).set (k + 1) { BO Lr (a :: l) (k + 1) with imm := v }) = a.cells ++ Az (l.set k { BO Lr l k with imm := v }) := rfl
   rw [h1, h2, ← e, List.set_append_right _ _ (by simp [Ins.cells]; omega)]
   congr 2
   simp [Ins.cells]
   omega
theorem Ri {w : World} {v : Value} {l : List Ins} (hr : AH w 165 5 v l.length (Az l)) {j : Nat} {x : Ins} (hx : l[j]? = some x) : ∃ g off AV, v = .slice (some ⟨g, off, none⟩) l.length AV ∧ l.length ≤ AV ∧ ∀ i u, x.cells[i]? = some u → w.cell? ⟨g, off + j * 5 + i, none⟩ = some u := by
 obtain ⟨g, off, AV, hv, hc, _, h⟩ := AH.elem (f := Ins.cells) (size := 5) (fun _ => rfl) hr hx
 exact ⟨g, off, AV, hv, hc, h⟩
theorem Rg {w : World} {v : Value} {l : List (Nat × Nat)} (hr : AH w 232 2 v l.length (IB l)) {j : Nat} {x : Nat × Nat} (hx : l[j]? = some x) : ∃ g off AV, v = .slice (some ⟨g, off, none⟩) l.length AV ∧ l.length ≤ AV ∧ w.cell? ⟨g, off + j * 2, none⟩ = I x.1 ∧ w.cell? ⟨g, off + j * 2 + 1, none⟩ = I x.2 := by
 obtain ⟨g, off, AV, hv, hc, _, h⟩ := AH.elem (f := fun j => [I j.1, I j.2]) (size := 2) (fun _ => rfl) hr hx
 exact ⟨g, off, AV, hv, hc, h 0 _ rfl, h 1 _ rfl⟩
theorem QJ {w : World} {v : Value} {l : List Int} (hr : AH w 3 1 v l.length (Es l)) {j : Nat} {x : Int} (hx : l[j]? = some x) : ∃ g off AV, v = .slice (some ⟨g, off, none⟩) l.length AV ∧ l.length ≤ AV ∧ w.cell? ⟨g, off + j, none⟩ = I x := by
 have hr' : AH w 3 1 v l.length (l.flatMap fun x => [I x]) := by
  have e : Es l = l.flatMap fun x => [I x] := by
   clear hr hx
   induction l with
   | nil => rfl
   | cons a l ih => simp only [Es, List.map_cons, List.flatMap_cons] at ih ⊢; rw [ih]; rfl
  rwa [e] at hr
 obtain ⟨g, off, AV, hv, hc, _, h⟩ := AH.elem (f := fun x => [I x]) (size := 1) (fun _ => rfl) hr' hx
 exact ⟨g, off, AV, hv, hc, by simpa using h 0 _ rfl⟩
theorem GL (Av : Nat → Prop) (bb : Nat) (B : BS) (hl0 : 0 < B.l.length) (hl1 : B.l.length ≤ 4096) (hjn : B.jumps.length ≤ 4096) (hmn : B.marks.length ≤ 4096) (hj : ∀ j ∈ B.jumps, j.1 < B.l.length ∧ j.2 < B.marks.length ∧ 0 ≤ BO (-1) B.marks j.2) (hok : ∀ i ∈ B.fin, CF i = true) (w : World) (h : Ap Av w bb B) : Y 63 #[bb] w fun r w' => ∃ S, r = Z (.tuple #[S, I 0]) ∧ AH w' 27 1 S B.fin.length (AX (B.fin.map BG)) ∧ (∀ k, S.ownBlock = some k → w.heap.size ≤ k) ∧ Below w w w' := by
 obtain ⟨vl, vm, vj, hh, hrl, hrm, hrj, _⟩ := h
 obtain ⟨gl, ol, kl, _, rfl, _⟩ := hrl.lies hl0
 obtain ⟨Aj, kj, rfl⟩ := hrj.form
 obtain ⟨Am, km, rfl⟩ := hrm.form
 have c0 := AA hh
 have hcl := Vw (cloneX.2.2.1 gl ol B.l.length kl (Az B.l) (Jo B.l) w hrl (by omega))
 have HH := Vw hh
 have HM := Vw hrm
 have HJ := Vw hrj
 have HJJ := Vw hj
 have HOK := Vw hok
 have hl1' : (B.l.length : Int) ≤ 4096 := by omega
 have hjn' : (B.jumps.length : Int) ≤ 4096 := by omega
 clear hh hrl hrm hrj hj hok
 go_enter func63, ntmps63
 go_wp2_with fail
 refine hcl.out.mono ?_
 rintro r w1 ⟨S0, rfl, hr0, ho0, hb1⟩
 obtain ⟨g, off, AV, _, rfl, hg0, hcap, _⟩ := hr0.lies hl0
 have HR0 := Vw hr0
 have HO0 := Vw (ho0 g rfl)
 have HB1 := Vw hb1
 have c1 := AA (AB hb1 HH.out)
 have hcap' : (B.l.length : Int) ≤ (AV : Int) := by omega
 clear hr0 ho0 hb1 c0 hcl hg0
 go_wp2_with fail
 go_loopw [30] (fun i W => ∃ j : Nat, j ≤ B.jumps.length ∧ i = I j ∧ AH W 165 5 (.slice (some ⟨g, off, none⟩) B.l.length AV) B.l.length (Az (EG (B.jumps.take j) B.marks B.l)) ∧ Below w w W) (fun i W => B.jumps.length - (intOf i).toNat)
 case atStart => exact ⟨0, by omega, rfl, HR0.out, HB1.out⟩
 case round =>
  obtain ⟨j, hjj, rfl, hrow, hb⟩ := hrel
  have HR := Vw hrow
  have HB := Vw hb
  clear hrow hb c1
  by_cases hlt : j < B.jumps.length
  · obtain ⟨x, hx⟩ : ∃ x, B.jumps[j]? = some x := ⟨_, List.getElem?_eq_getElem hlt⟩
    obtain ⟨x1, x2, x3⟩ := HJJ.out x (List.mem_of_getElem? hx)
    obtain ⟨g2, o2, k2, hv2, _, e0, e1⟩ := Rg (HJ.out.below HB.out) hx
    cases hv2
    have hmk := Lq (-1) B.marks x.2 x2
    have hj0 : (0 : Int) ≤ (j : Int) := by omega
    have hj1 : (j : Int) < (B.jumps.length : Int) := by omega
    obtain ⟨W2, hE, hb2, hI2⟩ := alloc_new wr (.cells #[I x.1, I x.2] 232)
    have HB2 := Vw (HB.out.trans (hb2.mono HB.out.size))
    have HI2 := Vw hI2
    have c2 := AA hI2
    have ch := AA (AB HB2.out HH.out)
    obtain ⟨g3, o3, k3, hv3, _, e3'⟩ := QJ (HM.out.below HB2.out) hmk
    cases hv3
    have HR2 := Vw (HR.out.below hb2)
    generalize hmv : BO (-1) B.marks x.2 = mv at *
    have hx1 : (x.1 : Int) < (B.l.length : Int) := by omega
    have hx10 : (0 : Int) ≤ (x.1 : Int) := by omega
    have hx2 : (x.2 : Int) < (B.marks.length : Int) := by omega
    have hx20 : (0 : Int) ≤ (x.2 : Int) := by omega
    have HMV := Vw hmv
    have HX := Vw hx
    clear hb2 hI2 hmk hx hmv
    go_wp2_with fail
    go_quiet (fail)
    have HB3 := Vw (show Below w w (W2.drewN nq) from HB2.out.trans ⟨rfl, rfl, rfl, Nat.le_refl _, fun _ _ => rfl⟩)
    have HI3 := Vw (show (W2.drewN nq).heap[wr.heap.size]? = _ from HI2.out)
    have HR3 := Vw (show AH (W2.drewN nq) 165 5 (.slice (some ⟨g, off, none⟩) B.l.length AV) B.l.length (Az (EG (B.jumps.take j) B.marks B.l)) from HR2.out.below ⟨rfl, rfl, rfl, Nat.le_refl _, fun _ _ => rfl⟩)
    have e4 : (W2.drewN nq).cell? ⟨g3, o3 + x.2, none⟩ = I mv := e3'
    generalize W2.drewN nq = W3 at *
    have c3 := AA HI3.out
    have ch3 := AA (AB HB3.out HH.out)
    clear c2 ch e3' e0 e1
    obtain ⟨_, _, _, cs3, hv4, hg4, hc4, hsz4, hx4⟩ := HR3.out.lies hl0
    cases hv4
    have hplen := Cb (B.jumps.take j) B.marks B.l
    have hlen5 := HR3.out.1
    have hk5 : x.1 * 5 + 4 < (Az (EG (B.jumps.take j) B.marks B.l)).length := by rw [hlen5]; omega
    obtain ⟨u5, hu5⟩ : ∃ u, (Az (EG (B.jumps.take j) B.marks B.l))[x.1 * 5 + 4]? = some u := ⟨_, List.getElem?_eq_getElem hk5⟩
    have d5 : W3.cell? ⟨g, off + (x.1 * 5 + 4), none⟩ = some u5 := AD hg4 _ (hx4 _ _ hu5)
    rw [← Nat.add_assoc] at d5
    have f5 := AJ hg4
    have hset := AH.set hlen5 hg4 hc4 hsz4 hx4 (x.1 * 5 + 4) (I mv)
    rw [Jn _ _ _ (by rw [hplen]; exact x1), ← HMV.out, ← Ja, HMV.out] at hset
    have htk : B.jumps.take (j + 1) = B.jumps.take j ++ [x] := by rw [List.take_add_one, HX.out]; rfl
    rw [← htk] at hset
    have HS := Vw (WA hset (HB3.out.setCell (p := ⟨g, off + (x.1 * 5 + 4), none⟩) HO0.out (I mv)))
    clear hset hlen5 hk5 hu5 hg4 hc4 hsz4 hx4 hplen htk
    rw [← Nat.add_assoc] at HS
    go_wp2_with fail
    go_still_tail 13, (by kernel_rfl)
    change wpList _ _ _ _ _ W3.drew
    go_wp2_with fail
    exact ⟨⟨j + 1, by omega, by simp, HS.out.1, HS.out.2.drew⟩, by simp [intOf]; omega⟩
  · obtain rfl : j = B.jumps.length := by omega
    have HRF := Vw (show AH wr 165 5 (.slice (some ⟨g, off, none⟩) B.l.length AV) B.fin.length (Az B.fin) by
     have := HR.out
     rw [List.take_length] at this
     rw [show B.fin.length = B.l.length from Cb _ _ _]
     exact this)
    have HFL := Vw (show B.fin.length = B.l.length from Cb _ _ _)
    rename World => W0
    have HOK2 := Vw HOK.out
    obtain ⟨F, hF⟩ := ex_ B.fin
    rw [hF] at HRF HFL HOK2
    have HFF := Vw hF
    clear hF
    go_wp2_with fail
    go_loopw [7, 59] (fun v i W => ∃ j : Nat, j ≤ B.l.length ∧ i = I j ∧ AH W 27 1 v j (AX ((F.take j).map BG)) ∧ (∀ k, v.ownBlock = some k → w.heap.size ≤ k) ∧ Below w w W ∧ W.heap[g]? = W0.heap[g]? ∧ W0.heap.size ≤ W.heap.size ∧ ∀ k, v.ownBlock = some k → k ≠ g) (fun v i W => B.l.length - (intOf i).toNat)
    case atStart => exact ⟨0, by omega, rfl, by simpa [AX] using AH.nil _ 27 1, by simp [Value.ownBlock], HB.out, rfl, Nat.le_refl _, by simp [Value.ownBlock]⟩
    case round =>
     obtain ⟨q, hq, rfl, hv, ho, hb, hgg, hsz, hvg⟩ := hrel
     obtain ⟨A2, cap2, rfl⟩ := hv.form
     have hgl := HRF.out.lt g rfl
     have HV := Vw hv
     have HO := Vw ho
     have HB5 := Vw hb
     have HGG := Vw (WA hgg (WA hsz hvg))
     by_cases hltq : q < B.l.length
     · obtain ⟨x, hx⟩ : ∃ x, F[q]? = some x := ⟨_, List.getElem?_eq_getElem (by have := HFL.out; omega)⟩
       obtain ⟨g2, o2, k2, hv2, _, hcell⟩ := Ri (HRF.out.kept (w' := wr) fun k hk => by cases hk; exact hgg) hx
       simp only [Value.slice.injEq, Option.some.injEq, Addr.mk.injEq] at hv2
       obtain ⟨⟨rfl, rfl, _⟩, hlq, rfl⟩ := hv2
       clear hlq
       have hq0 : (0 : Int) ≤ (q : Int) := by omega
       have hq1 : (q : Int) < (B.l.length : Int) := by omega
       have e0 : wr.cell? ⟨g, off + q * 5, none⟩ = I x.op := hcell 0 _ rfl
       have e1 : wr.cell? ⟨g, off + q * 5 + 1, none⟩ = I x.a := hcell 1 _ rfl
       have e2 : wr.cell? ⟨g, off + q * 5 + 2, none⟩ = I x.b := hcell 2 _ rfl
       have e3 : wr.cell? ⟨g, off + q * 5 + 3, none⟩ = I x.c := hcell 3 _ rfl
       have e4 : wr.cell? ⟨g, off + q * 5 + 4, none⟩ = I x.imm := hcell 4 _ rfl
       obtain ⟨W2, hE, hb2, hI2⟩ := alloc_new wr (.cells x 165)
       have c2 := AA hI2
       have hen := Vw (Kw x (HOK2.out x (List.mem_of_getElem? hx)) W2)
       have HB2 := Vw hb2
       have HX := Vw hx
       clear hv ho hb hgg hsz hvg hcell hb2 hI2 hx
       go_wp2_with fail
       refine hen.out.mono ?_
       rintro r w5 ⟨rfl, hb5⟩
       have HB6 := Vw (HB2.out.trans (hb5.mono HB2.out.size))
       have HA := Vw (HB6.out.trans ((AC w5 (.cells #[U (BG x)] 27)).mono HB6.out.size))
       clear hb5 c2 e0 e1 e2 e3 e4
       go_wp2_with (at_builtin; refine Ab rfl _ _ _ _ rfl GX _ q _ rfl (HV.out.below HA.out) _ 1 _ rfl (Src.one underlying28 (AE w5 _) rfl (by simp [Value.oneCell'])) (by omega) (by omega) ?_)
       intro A3 cap3 w6 hr6 hg6 hm6
       have HF6 := Vw (WA hr6 (WA hg6 hm6))
       clear hr6 hg6 hm6
       go_wp2_with fail
       have htk : F.take (q + 1) = F.take q ++ [x] := by rw [List.take_add_one, HX.out]; rfl
       refine ⟨⟨q + 1, by omega, by simp, ?_, ?_, ?_, ?_, ?_, ?_⟩, by simp [intOf]; omega⟩
       · rw [htk]
         simpa [AX] using HF6.out.1
       · intro k hk
         rcases HF6.out.2.2 with e | ⟨g6, e, hg'⟩
         · exact HO.out k (e ▸ hk)
         · rw [e] at hk
           cases hk
           exact Vx HB5.out.size (Vx HA.out.size hg')
       · exact (HB5.out.trans (HA.out.mono HB5.out.size)).grown HF6.out.2.1 (Vx HB5.out.size HA.out.size) (fun k hk => HO.out k hk)
       · exact (HF6.out.2.1.block g (by have := HA.out.size; have := HGG.out.2.1; omega) (fun e => HGG.out.2.2 g e.symm rfl)).trans ((HA.out.block g (by have := HGG.out.2.1; omega)).trans HGG.out.1)
       · exact Vx HGG.out.2.1 (Vx HA.out.size HF6.out.2.1.size)
       · intro k hk
         rcases HF6.out.2.2 with e | ⟨g6, e, hg'⟩
         · exact HGG.out.2.2 k (e ▸ hk)
         · rw [e] at hk
           cases hk
           have := HA.out.size
           have := HGG.out.2.1
           omega
     · obtain rfl : q = B.l.length := by omega
       have hfin : (B.l.length : Int) ≤ 4096 := hl1'
       go_wp2_with fail
       go_ret2
       refine ⟨.slice A2 B.l.length cap2, rfl, ?_, HO.out, HB5.out⟩
       have hV := HV.out
       rw [List.take_of_length_le (by have := HFL.out; omega)] at hV
       rw [HFF.out, HFL.out]
       exact hV
def Fa : BS := (DA ((⟨[], [], []⟩ : BS).add [AN 6 64, BF 7 6 0])).add [⟨22, 0, 0, 0, 0⟩]
def Lc : List Ins := Fa.fin
theorem Dk : ∀ {l : List Ins}, Bk l = true → ∀ i ∈ l, CF i = true
 | [], _, i, hi => by simp at hi
 | a :: l, h, i, hi => by
   simp only [Bk, Bool.and_eq_true] at h
   rcases List.mem_cons.1 hi with rfl | hi
   · exact h.1
   · exact Dk h.2 i hi
theorem Pt : Bk Lc = true := by kernel_rfl
def Bm (B : BS) : Bool := B.jumps.all fun j => decide (j.1 < B.l.length) && decide (j.2 < B.marks.length) && decide (0 ≤ BO (-1) B.marks j.2)
theorem Jh {B : BS} (h : Bm B = true) : ∀ j ∈ B.jumps, j.1 < B.l.length ∧ j.2 < B.marks.length ∧ 0 ≤ BO (-1) B.marks j.2 := by
 intro j hj
 have := List.all_eq_true.1 h j hj
 simp only [Bool.and_eq_true, decide_eq_true_eq] at this
 exact ⟨this.1.1, this.1.2, this.2⟩
theorem Pu : Bm Fa = true := by kernel_rfl
theorem Nv : decide (0 < Fa.l.length ∧ Fa.l.length ≤ 4096 ∧ Fa.jumps.length ≤ 4096 ∧ Fa.marks.length ≤ 4096) = true := by kernel_rfl
theorem Ap.new (w : World) : Ap (fun k => k < w.heap.size) (w.alloc (.cells #[.slice none 0 0, .slice none 0 0, .slice none 0 0, false] 159)) w.heap.size ⟨[], [], []⟩ := by
 refine ⟨_, _, _, AE w _, AH.nil _ _ _, AH.nil _ _ _, AH.nil _ _ _, by simp, ?_, ?_, ?_⟩ <;> (intro k hk; simp [Value.ownBlock] at hk)
theorem Kr (w : World) : Y 29 #[Ai] w fun e w' => ∃ S, e = Z (.tuple #[S, I 0]) ∧ AH w' 27 1 S Lc.length (AX (Lc.map BG)) ∧ (∀ k, S.ownBlock = some k → w.heap.size ≤ k) ∧ Below w w w' := by
 have hli := EL
 have hld := JE
 have hgo := CA
 have hco := Fj
 have hba := Ju
 obtain ⟨n1, n2, n3, n4⟩ := of_decide_eq_true Nv
 have hdn := Vw (fun Av bb w h => GL Av bb Fa n1 n2 n3 n4 (Jh Pu) (Dk Pt) w h)
 clear n1 n2 n3 n4
 simp only [Ins.v, Ai] at hli hld hgo hco hba ⊢
 obtain ⟨W1, hE, hb1, hI1⟩ := alloc_new w (.cells KA 25)
 have c1 := AA hI1
 have HB1 := Vw hb1
 have HI1 := Vw hI1
 clear hb1 hI1
 go_enter func29, ntmps29
 go_wp2_with fail
 refine (hgo _).mono ?_
 rintro e w2 ⟨rfl, hb2⟩
 have HB2 := Vw (HB1.out.trans (hb2.mono HB1.out.size))
 have HI2 := Vw (AB hb2 HI1.out)
 clear hb2 c1 hE
 obtain ⟨W3, hE3⟩ := ex_ (w2.alloc (.cells #[.slice none 0 0, .slice none 0 0, .slice none 0 0, false] 159))
 have hs3 : W3.heap.size = w2.heap.size + 1 := by rw [← hE3]; simp
 have HA := Vw (show ∀ k, k < w2.heap.size → k < W3.heap.size from fun k hk => by omega)
 have G := Vw (show At (fun k => k < w2.heap.size) W3 w2.heap.size ⟨[], [], []⟩ W3 from ⟨hE3 ▸ Ap.new w2, Pres.refl _ _⟩)
 have HI3 := Vw (show W3.heap[w.heap.size]? = some (.cells KA 25) from hE3 ▸ AB (AC w2 _) HI2.out)
 have HW3 := Vw (show Below w w W3 from hE3 ▸ HB2.out.trans ((AC w2 _).mono HB2.out.size))
 have c2 := AA HI2.out
 have c3 := AA HI3.out
 have hbx := Vw (AF HI2.out)
 have hsz := Vw HB2.out.size
 generalize hbb : w2.heap.size = bb at *
 go_wp2_with fail
 refine (hco _).mono ?_
 rintro e w1 ⟨rfl, hb1⟩
 replace G := Vw (G.out.below hb1)
 clear hb1 c2 c3
 have c1 := AA (G.out.heap hbx.out HI3.out)
 go_wp2_with fail
 refine (hli _ _ (by omega) (by omega) _).mono ?_
 rintro e w1 ⟨rfl, hb1⟩
 replace G := Vw (G.out.below hb1)
 clear hb1
 replace c1 := AA (G.out.heap hbx.out HI3.out)
 go_wp2_with fail
 refine (hld _ _ _ _).mono ?_
 rintro e w1 ⟨rfl, hb1⟩
 replace G := Vw (G.out.below hb1)
 clear hb1
 replace c1 := AA (G.out.heap hbx.out HI3.out)
 go_wp2_with fail
 refine (Dw _ bb ⟨[], [], []⟩ [AN 6 64, BF 7 6 0] 2 rfl _ G.out.1 (G.out.in HA.out) (by simp)).mono ?_
 rintro e w1 ⟨rfl, g1, g2⟩
 replace G := Vw (G.out.step (B' := (⟨[], [], []⟩ : BS).add [AN 6 64, BF 7 6 0]) g1 g2)
 clear g1 g2
 replace c1 := AA (G.out.heap hbx.out HI3.out)
 go_wp2_with fail
 refine (hba _ bb ((⟨[], [], []⟩ : BS).add [AN 6 64, BF 7 6 0]) _ G.out.1 (G.out.in HA.out) (by decide) (by decide) (by decide)).mono ?_
 rintro e w1 ⟨rfl, g1, g2⟩
 replace G := Vw (G.out.step (B' := DA ((⟨[], [], []⟩ : BS).add [AN 6 64, BF 7 6 0])) g1 g2)
 clear g1 g2
 replace c1 := AA (G.out.heap hbx.out HI3.out)
 go_wp2_with fail
 refine (Dw _ bb (DA ((⟨[], [], []⟩ : BS).add [AN 6 64, BF 7 6 0])) [⟨22, 0, 0, 0, 0⟩] 1 rfl _ G.out.1 (G.out.in HA.out) (by decide)).mono ?_
 rintro e w1 ⟨rfl, g1, g2⟩
 replace G := Vw (G.out.step (B' := Fa) g1 g2)
 clear g1 g2
 replace c1 := AA (G.out.heap hbx.out HI3.out)
 go_wp2_with fail
 refine (hdn.out _ bb _ G.out.1).mono ?_
 rintro e w1 ⟨S, rfl, hr, ho, hb⟩
 have hp := G.out.2
 have hz := hp.size
 have HF := Vw (show AH w1 27 1 S Fa.fin.length (AX (Fa.fin.map BG)) ∧ (∀ k, S.ownBlock = some k → w.heap.size ≤ k) ∧ Below w w w1 from ⟨hr, fun k hk => by have := ho k hk; have := HW3.out.size; omega, ⟨hb.os.trans (hp.os.trans HW3.out.os), hb.tape.trans (hp.tape.trans HW3.out.tape), hb.output.trans (hp.output.trans HW3.out.output), by have := HW3.out.size; have := hb.size; omega, fun k hk => (hb.block k (by have := HW3.out.size; omega)).trans ((hp.block k (by have := HW3.out.size; omega) (by have := hsz.out; omega)).trans (HW3.out.block k hk))⟩⟩)
 clear hr ho hb hp hz
 go_wp2_with fail
 go_ret2
 exact ⟨S, rfl, HF.out⟩
end Go.Proofs.YtkoplblbeapfgaaGreatDoor
