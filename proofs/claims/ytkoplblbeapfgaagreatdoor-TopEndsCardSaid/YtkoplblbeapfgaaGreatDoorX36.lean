/-
Parts of the walk of TopEnds. Conditions stand in each statement.
-/
import Derived.Maps.OwnSet
import Derived.Test.YtkoplblbeapfgaaGreatDoorX26
import Derived.Test.YtkoplblbeapfgaaGreatDoorX28
namespace Go.Proofs.YtkoplblbeapfgaaGreatDoor
open Go.RowKit Go.Maps
open Tryz
set_option linter.all false
set_option maxRecDepth 100000
set_option maxHeartbeats 8000000
theorem Ed : Keyed prog 3 := int_keyed underlying3
theorem TU (w : World) : (zeroValue 27).run prog w = .ok (U 0) w := by kernel_rfl
def CH (w w' : World) : Prop := ∀ (k : Nat) (cs : Array Value) (T : TypeId) (f : Nat × Nat), w.heap[k]? = some (.cells cs T f) → T ≠ 217 → T ≠ 27 → w'.heap[k]? = some (.cells cs T f)
theorem CH.trans {a b c : World} (h : CH a b) (k : CH b c) : CH a c := fun i cs T f hi h1 h2 => k i cs T f (h i cs T f hi h1 h2) h1 h2
theorem CH.of {a b : World} (h : Below a a b) : CH a b := fun i cs T f hi _ _ => AB h hi
theorem DL {w : World} {k : TypeId} {R : Value → Option (DataW Unit × List MemPlace)} {b n : Nat} {D : DataW Unit} (h : w.ownsMap prog k R b n D) {g : Nat} {cs : Array Value} {e : TypeId} {f : Nat × Nat} (hg : w.heap[g]? = some (.cells cs e f)) : b ≠ g := by
 rintro rfl
 obtain ⟨es, ck, hmp, _⟩ := h
 rw [hg] at hmp
 cases hmp
theorem IJ {B : Nat} {w w' : World} (h : Below B w w') {p : Addr} (hp : B ≤ p.block) (u : Value) : Below B w (w'.setCell p u) :=
 ⟨h.os, h.tape, h.output, by simpa [World.setCell] using h.size, fun k hk => (Vz w' p u k (by omega)).trans (h.block k hk)⟩
def Mo (base ob mb : Nat) (M : Value) (notes : Int) (tl : List Int) (n : Nat) (D : DataW Unit) (W : World) : Prop :=
 ∃ T, W.heap[ob]? = some (.cells #[M, I 8, .map (some mb), I notes, T] 217) ∧ AH W 27 1 T tl.length (AX tl) ∧ (∀ k, T.ownBlock = some k → base ≤ k) ∧ W.ownsMap prog 3 (plainElem prog 27) mb n D ∧ base ≤ ob ∧ base ≤ mb
theorem Mo.below {base ob mb : Nat} {M : Value} {notes : Int} {tl : List Int} {n : Nat} {D : DataW Unit} {W W' : World} (h : Mo base ob mb M notes tl n D W) (hb : Below W W W') : Mo base ob mb M notes tl n D W' := by
 obtain ⟨T, h1, h2, h3, h4, h5⟩ := h
 exact ⟨T, AB hb h1, h2.below hb, h3, h4.kept (BR hb) (by simp), h5⟩
theorem FS (base ob mb : Nat) (M : Value) (notes : Int) (tl : List Int) (n : Nat) (D : DataW Unit) (m : List Int) (a : Nat) (x c : Int) (b : Bool) (hx : m[a]? = some x) (hm8 : m.length ≤ 8) (w : World) (h : Mo base ob mb M notes tl n D w) (hm : AH w 27 1 M m.length (AX m)) (hD : Maps.has D (.int .i64 a) = b) (hc : D.atKey (.int .i64 a) (.lit (.int .u64 0)) = .lit (.int .u64 c)) (ha : (a : Int) < 1000) : Y 195 #[ob, I a] w fun e w' => e = Z (U (if b = true then c else x)) ∧ w = w' := by
 obtain ⟨g, off, AV, rfl, hcap, e0⟩ := DK hm hx
 obtain ⟨T, h1, h2, h3, h4, h5⟩ := h
 have hlk : (Instr.lookup 215 (.map (some mb)) (.int .i64 a) true).run prog w = .ok (.tuple #[c, b]) w := by
  have hkw : (Lit.int .i64 (a : Int)).wf = true := WalkArith.wf_i64 (by omega)
  obtain ⟨v, ps, hrun, hv⟩ := h4.look_ok Ed underlying215 (TU w) (plainElem_int underlying27 (by decide)) (keyOf_int_mk underlying3 hkw)
  obtain ⟨c', rfl, hc', _⟩ := plainElem_int_inv underlying27 hv
  have := congrArg Prod.fst hc'
  rw [hc] at this
  simp only [DataW.lit.injEq, Lit.int.injEq, true_and] at this
  subst this
  rw [hrun, hD]
 have c1 := AA h1
 have hal := (List.getElem?_eq_some_iff.1 hx).1
 have ha0 : (0 : Int) ≤ (a : Int) := by omega
 have ha1 : (a : Int) < (m.length : Int) := by omega
 have hcI : (m.length : Int) ≤ (AV : Int) := by omega
 clear h1 h2 h3 h4 h5 hm hc hx
 cases b
 · go_enter func195, ntmps195
   go_wp2_with fail
   go_ret
   exact ⟨rfl, rfl⟩
 · go_enter func195, ntmps195
   go_wp2_with fail
   go_ret
   exact ⟨rfl, rfl⟩
theorem EE (base ob mb : Nat) (M : Value) (notes : Int) (tl : List Int) (n : Nat) (D : DataW Unit) (hl : tl.length < 1000) (x : Int) (w : World) (h : Mo base ob mb M notes tl n D w) (hbw : base ≤ w.heap.size) : Y 94 #[ob, x] w fun e w' => e = Z (.tuple #[]) ∧ Mo base ob mb M notes (tl ++ [x]) n D w' ∧ Below base w w' ∧ CH w w' := by
 obtain ⟨T, h1, h2, h3, h4, h5, h6⟩ := h
 obtain ⟨A, AV, rfl⟩ := h2.form
 have c1 := AA h1
 have f1 := AJ h1
 have H := Vw (WA h1 (WA h2 (WA h3 (WA h4 (WA h5 h6)))))
 have HR := Vw h2
 have HB := Vw hbw
 have hn1 : tl.length + 1 ≤ 1000000 := by omega
 clear h1 h2 h3 h4 h5 h6 hbw
 go_enter func94, ntmps94
 go_wp2_with (at_builtin; refine Ab rfl _ _ _ _ rfl GX _ _ _ rfl (HR.out.below (AC w _)) _ 1 _ rfl (Src.one underlying28 (AE w _) rfl (by simp [Value.oneCell'])) hn1 (by omega) ?_)
 intro A7 cap7 w7 hr7 hg7 hm7
 have hb7 := AW (HR.out.below (AC w _)) hg7 (AB (AC w _) H.out.1) (by decide)
 have c7 := AA hb7
 have f7 := AJ hb7
 have HE := Vw (WA hr7 (WA hg7 (WA hm7 hb7)))
 clear hr7 hg7 hm7 hb7 c1 f1
 go_wp2_with fail
 go_end0
 obtain ⟨hr, hg, hm, hb⟩ := HE.out
 obtain ⟨h1, h2, h3, h4, h5, h6⟩ := H.out
 refine ⟨rfl, ⟨_, AI hb 4 _, ?_, ?_, ?_, h5, h6⟩, ?_, fun k cs T' f hk h1' h2' => (Vz _ _ _ _ (AG hk h1 h1')).trans ((hg.block k (Vy (AF hk) (AC w _).size) (fun e => by
  obtain ⟨cs2, ht⟩ := h2.type _ e.symm
  rw [ht] at hk
  cases hk
  exact h2' rfl)).trans (AB (AC w _) hk))⟩
 · have h := hr.stored hb (by decide) 4 (.slice A7 (tl.length + 1) cap7)
   rw [List.length_append, show AX (tl ++ [x]) = AX tl ++ [U x] by simp [AX]]
   exact h
 · intro k hk
   rcases hm with hm | ⟨g, hm, hle⟩
   · exact h3 k (hm ▸ hk)
   · rw [hm] at hk
     cases hk
     have := HB.out
     simp at hle
     omega
 · refine World.ownsMap.setCell ((h4.alloc _).kept hg (fun e => ?_)) (DL h4 h1) _
   obtain ⟨cs, ht⟩ := h2.type _ e.symm
   obtain ⟨es, ck, hmp, _⟩ := h4
   rw [ht] at hmp
   cases hmp
 · have hb1 : Below base w (w.alloc (.cells #[x] 27)) := (Below.refl _ _).alloc HB.out _
   have hb2 := hb1.grown hg (by have := HB.out; simp; omega) h3
   exact IJ hb2 h5 _
theorem Jc (base ob mb : Nat) (M : Value) (notes : Int) (tl : List Int) (n : Nat) (D : DataW Unit) (a : Nat) (v : Int) (ha : (a : Int) < 1000) (hv : 0 ≤ v ∧ v < 18446744073709551616) (hn : n < 100) (hno : 0 ≤ notes ∧ notes < 8) (w : World) (h : Mo base ob mb M notes tl n D w) : Y 196 #[ob, I a, v] w fun e w' => e = Z (.bool true) ∧ Mo base ob mb M (notes + 1) tl (n + 1) (D.put (.int .i64 a) (.lit (.int .u64 v))) w' ∧ Below base w w' ∧ CH w w' := by
 obtain ⟨T, h1, h2, h3, h4, h5, h6⟩ := h
 have hn0 := hno.1
 have hn8 := hno.2
 have H := Vw (WA h1 (WA h2 (WA h3 (WA h4 (WA h5 h6)))))
 have c1 := AA h1
 have f1 := AJ h1
 have c2 := AA (show w.drew.heap[ob]? = _ from h1)
 have f2 := AJ (show w.drew.heap[ob]? = some (.cells #[M, I 8, .map (some mb), I notes, T] 217) from h1)
 obtain ⟨W5, hE5⟩ := ex_ (w.drew.setCell ⟨ob, 3, none⟩ (I (notes + 1)))
 have h15 : W5.heap[ob]? = some (.cells #[M, I 8, .map (some mb), I (notes + 1), T] 217) := hE5 ▸ AI (show w.drew.heap[ob]? = some (.cells #[M, I 8, .map (some mb), I notes, T] 217) from h1) 3 _
 have h45 : W5.ownsMap prog 3 (plainElem prog 27) mb n D := hE5 ▸ (World.ownsMap.drew h4).setCell (DL h4 h1) _
 have c5 := AA h15
 have H5 := Vw (WA h15 h45)
 have HB5 := Vw (show Below base w W5 from hE5 ▸ IJ ((Below.refl _ _).drew) h5 _)
 have HR5 := Vw (show AH W5 27 1 T tl.length (AX tl) from hE5 ▸ AH.stored (show AH w.drew 27 1 T _ _ from h2) (show w.drew.heap[ob]? = some (.cells #[M, I 8, .map (some mb), I notes, T] 217) from h1) (by decide) 3 _)
 have hkw : (Lit.int .i64 (a : Int)).wf = true := WalkArith.wf_i64 (by omega)
 have hky : keyOf prog 3 (I a) = some (.int .i64 a) := keyOf_int_mk underlying3 hkw
 have hvw := plainElem_int (H := Unit) underlying27 (a := v) (by simp [Lit.wf, IntKind.min, IntKind.max, IntKind.signed, IntKind.bits]; omega)
 have hnm : n < maxLen := by unfold maxLen; omega
 have HE5 := Vw hE5
 clear h1 h2 h3 h4 h5 h6 h15 h45 hkw hno
 go_enter func196, ntmps196
 go_wp2_with fail
 go_region
 all_goals
  go_wp2_with (first
   | (at_mapUpdate; refine wpList_mapUpdate_own _ rfl _ _ _ 215 rfl 3 27 Ed underlying215 _ mb n _ rfl H5.out.2 hnm _ _ _ rfl rfl hky _ [] hvw ?_; intro w6 hown6 hgrow6)
   | go_in)
  have HQ := Vw (WA hown6 hgrow6)
  clear hown6 hgrow6
  go_wp2_with fail
  go_ret
  obtain ⟨h1, h2, h3, h4, h5, h6⟩ := H.out
  have hmb : ob ≠ mb := fun e => DL h4 h1 e.symm
  refine ⟨rfl, ⟨T, (HQ.out.2.block ob (AF H5.out.1) (by simpa using hmb)).trans H5.out.1, HR5.out.kept fun k hk => HQ.out.2.block k (HR5.out.lt k hk) (fun e => ?_), h3, HQ.out.1, h5, h6⟩, HB5.out.grown HQ.out.2 (Vx ?_ HB5.out.size) (fun k hk => by cases hk; exact h6), fun k cs T' f hk h1' _ => (HQ.out.2.block k (Vy (AF hk) (by rw [← HE5.out]; simp [World.setCell])) (fun e => by cases e; exact DL h4 hk rfl)).trans (by rw [← HE5.out]; exact (Vz _ _ _ _ (AG hk h1 h1')).trans hk)⟩
  · cases e
    obtain ⟨cs, ht⟩ := HR5.out.type _ hk
    exact DL H5.out.2 ht rfl
  · exact Nat.le_of_lt (Nat.lt_of_le_of_lt h5 (AF h1))
def Cs (e : Ev) : Bool := e.kind == 4 && e.line == 0 && e.word == 0 && e.val == 0
def JG : Nat → DataW Unit
 | 0 => .map []
 | 1 => .map [(.int .i64 0, .lit (.int .i64 1))]
 | _ => .map [(.int .i64 0, .lit (.int .i64 1)), (.int .i64 1, .lit (.int .i64 1))]
def GW : List Value := [I 0, I 0, I 1, I 0]
theorem Vv : ET prog 62 64 2 16 := ET.of underlying62 (z := .agg #[I 0, I 0]) (by kernel_rfl) rfl
theorem SR (w : World) : (zeroValue 3).run prog w = .ok (I 0) w := by kernel_rfl
theorem OC {r : Nat} {c : Int} (hr : r < 2) (h : (JG r).atKey (.int .i64 (r : Int)) (.lit (.int .i64 0)) = .lit (.int .i64 c)) : c = 0 := by
 have : r = 0 ∨ r = 1 := by omega
 rcases this with rfl | rfl
 · simp [JG, DataW.atKey] at h; omega
 · simp [JG, DataW.atKey, Lit.sameKey] at h; omega
theorem SM {r : Nat} (hr : r < 2) : (JG r).put (.int .i64 (r : Int)) (.lit (.int .i64 1)) = JG (r + 1) := by
 have : r = 0 ∨ r = 1 := by omega
 rcases this with rfl | rfl <;> rfl
theorem PY {r : Nat} (hr : r < 2) : GW.take (2 * r) ++ [I (r : Int), I 0] = GW.take (2 * (r + 1)) := by
 have : r = 0 ∨ r = 1 := by omega
 rcases this with rfl | rfl <;> rfl
theorem SK {l : List Ev} (h : (l.filter Cs).map Ev.core = [0, 1]) {j r : Nat} {e : Ev} (he : l[j]? = some e) (hb : Cs e = true) (hr : ((l.take j).filter Cs).map Ev.core = ([0, 1] : List Int).take r) (hr2 : r ≤ 2) : r < 2 ∧ e.core = (r : Int) := by
 have hj := (List.getElem?_eq_some_iff.1 he).1
 have hsplit : l = l.take j ++ e :: l.drop (j + 1) := by
  conv => lhs; rw [← List.take_append_drop j l]
  rw [List.drop_eq_getElem_cons hj]
  rw [List.getElem?_eq_getElem hj] at he
  rw [Option.some.inj he]
 have h2 := h
 rw [hsplit, List.filter_append, List.map_append, hr, List.filter_cons_of_pos hb, List.map_cons] at h2
 have : r = 0 ∨ r = 1 ∨ r = 2 := by omega
 rcases this with rfl | rfl | rfl
 · simp at h2; exact ⟨by omega, h2.1⟩
 · simp at h2; exact ⟨by omega, h2.1⟩
 · simp at h2
theorem Ic (l : List Ev) (hk : ∀ e ∈ l, e.kind ≠ 11) (hbeg : (l.filter Cs).map Ev.core = [0, 1]) (hlen : l.length < 100000) (S : Value) (w : World) (hr : AH w 92 5 S l.length (AY l)) : Y 20 #[Ai, S] w fun e w' => ∃ O, e = Z O ∧ AH w' 64 2 O 2 GW ∧ (∀ k, O.ownBlock = some k → w.heap.size ≤ k) ∧ Below w w w' := by
 obtain ⟨A, AV, rfl⟩ := hr.form
 obtain ⟨N, hN⟩ := ex_ l.length
 have hgo := CA
 have hmm := @run_makeMap prog
 simp only [Ai] at hgo ⊢
 have H := Vw hr
 have HK := Vw hk
 have HL := Vw hlen
 have HBG := Vw hbeg
 obtain ⟨W1, hE1, hb1, -⟩ := alloc_new w (.cells KA 25)
 have c1 := AA (show W1.heap[w.heap.size]? = some (.cells KA 25) from hE1 ▸ AE w _)
 have HB1 := Vw hb1
 rw [hN]
 have HN := Vw hN
 clear hr hk hlen hbeg hN hb1
 go_enter func20, ntmps20
 go_wp2_with fail
 refine (hgo _).mono ?_
 rintro e w2 ⟨rfl, hb2⟩
 have hb2' := HB1.out.trans (hb2.mono HB1.out.size)
 have hb3 := hb2'.trans ((AC w2 (.map #[] 0)).mono hb2'.size)
 have hcu := JR l HK.out HL.out (.slice A l.length AV) (w2.alloc (.map #[] 0)) (H.out.below hb3)
 rw [HN.out] at hcu
 have HCU := Vw hcu
 have HM3 := Vw (World.ownsMap_made w2 prog 3 (plainElem (H := Unit) prog 3))
 have HB3 := Vw hb3
 have HZ2 := Vw hb2'.size
 clear hb2 hb2' hb3 hcu c1 hE1
 go_wp2_with fail
 refine HCU.out.mono ?_
 rintro e w4 ⟨P, Q, rfl, hP, hQ, hb4⟩
 obtain ⟨pg, po, pc, pcs, rfl, hpg, hpc, _, hpx⟩ := hP.lies (by decide)
 obtain ⟨QA, qc, rfl⟩ := hQ.form
 have p0 : w4.cell? ⟨pg, po, none⟩ = some (.slice QA N qc) := AD hpg _ (hpx 0 _ rfl)
 have HQ := Vw hQ
 have HM4 := Vw (HM3.out.kept (BR hb4) (by simp))
 have HB4 := Vw (HB3.out.trans (hb4.mono HB3.out.size))
 have HZ4 := Vw (show w2.heap.size < w4.heap.size by have := hb4.size; simp at this; omega)
 have hpcI : (1 : Int) ≤ (pc : Int) := by omega
 clear hP hQ hb4 hpg hpc hpx HCU
 go_wp2_with fail
 clear p0
 go_loopw [6, 18] (fun v i W => ∃ j r : Nat, j ≤ N ∧ r ≤ 2 ∧ i = I j ∧ ((l.take j).filter Cs).map Ev.core = ([0, 1] : List Int).take r ∧ AH W 64 2 v r (GW.take (2 * r)) ∧ (∀ k, v.ownBlock = some k → w4.heap.size ≤ k) ∧ W.ownsMap prog 3 (plainElem (H := Unit) prog 3) w2.heap.size r (JG r) ∧ Pres (fun k => k ≠ w2.heap.size) w4 W) (fun v i W => N - (intOf i).toNat)
 case atStart => exact ⟨0, 0, Nat.zero_le _, by decide, rfl, rfl, AH.nil _ _ _, by simp [Value.ownBlock], HM4.out, Pres.refl _ _⟩
 case round =>
  obtain ⟨j, r, hj, hr, rfl, hf, hv, ho, hm, hp⟩ := hrel
  obtain ⟨VA, vc, rfl⟩ := hv.form
  have HV := Vw hv
  have HO := Vw ho
  have HM := Vw hm
  have HP := Vw hp
  have HF := Vw hf
  have HJ := Vw (WA hj hr)
  have HQr := Vw (show AH wr 92 5 (.slice QA N qc) N (AY l) from HQ.out.kept fun k hk => hp.block k (HQ.out.lt k hk) (fun e => by
   obtain ⟨cs, h⟩ := HQ.out.type k hk
   subst e
   exact DL HM4.out h rfl))
  by_cases hlt : j < N
  · obtain ⟨e, he⟩ : ∃ e, l[j]? = some e := ⟨_, List.getElem?_eq_getElem (by rw [HN.out]; exact hlt)⟩
    have hr' := HQr.out
    rw [← HN.out] at hr'
    obtain ⟨g, off, cap', hvv, hcap, hcell⟩ := IQ hr' he
    rw [HN.out] at hvv hcap
    cases hvv
    have e0 : wr.cell? ⟨g, off + j * 5, none⟩ = I e.kind := hcell 0 _ rfl
    have e1' : wr.cell? ⟨g, off + j * 5 + 1, none⟩ = I e.core := hcell 1 _ rfl
    have e2 : wr.cell? ⟨g, off + j * 5 + 2, none⟩ = I e.line := hcell 2 _ rfl
    have e3 : wr.cell? ⟨g, off + j * 5 + 3, none⟩ = I e.word := hcell 3 _ rfl
    have e4 : wr.cell? ⟨g, off + j * 5 + 4, none⟩ = U e.val := hcell 4 _ rfl
    have hj0 : (0 : Int) ≤ (j : Int) := by omega
    have hj1 : (j : Int) < (N : Int) := by omega
    have hNc : (N : Int) ≤ (qc : Int) := by omega
    have hj2 : (j : Int) + 1 ≤ 100000 := by have := HL.out; have := HN.out; omega
    have htk : l.take (j + 1) = l.take j ++ [e] := by rw [List.take_add_one, he]; rfl
    have HT := Vw htk
    have HEE := Vw he
    obtain ⟨W1, hE, hb1, hI1⟩ := alloc_new wr (.cells e 92)
    have c1 := AA hI1
    have hsb := Hc e W1
    have HE := Vw hE
    have HB1' := Vw hb1
    have HI1 := Vw hI1
    clear hE hv ho hm hp hf hj hr hr' hcell htk he hb1 hI1 hlt hcap
    go_wp2_with fail
    rw [HE.out]
    clear HE e0 e1' e2 e3 e4
    go_wp2_with fail
    refine hsb.mono ?_
    rintro e' w6 ⟨rfl, hb6⟩
    have HB6 := Vw (HB1'.out.trans (hb6.mono HB1'.out.size))
    have HI6 := Vw (AB hb6 HI1.out)
    have c6 := AA HI6.out
    clear hb6 c1 hsb HB1' HI1
    rw [show (e.kind == 4 && e.line == 0 && e.word == 0 && e.val == 0) = Cs e from rfl]
    cases hbe : Cs e
    · go_wp2_with fail
      refine ⟨⟨j + 1, r, by omega, HJ.out.2, by simp, ?_, HV.out.below HB6.out, HO.out, HM.out.kept (BR HB6.out) (by simp), HP.out.trans (Pres.of_below HB6.out)⟩, by simp [intOf]; omega⟩
      rw [HT.out, List.filter_append, List.map_append, HF.out]
      simp [hbe]
    · obtain ⟨hr2, hcore⟩ := SK HBG.out HEE.out hbe HF.out HJ.out.2
      have hrI : (r : Int) < 2 := by omega
      have hrI0 : (0 : Int) ≤ (r : Int) := by omega
      have HC := Vw (WA hr2 hbe)
      have hkw : (Lit.int .i64 (r : Int)).wf = true := WalkArith.wf_i64 (by omega)
      have hky : keyOf prog 3 (I (r : Int)) = some (.int .i64 (r : Int)) := keyOf_int_mk underlying3 hkw
      have hm6 := HM.out.kept (BR HB6.out) (by simp)
      have hl6 : (Instr.lookup 131 (.map (some w2.heap.size)) (.int .i64 (r : Int)) false).run prog w6 = .ok (.int .i64 0) w6 := by
       obtain ⟨c, hrun, hat, _⟩ := hm6.lookup_int Ed underlying131 underlying3 (SR w6) hky
       rw [OC hr2 hat] at hrun
       exact hrun
      have HM6 := Vw hm6
      have HV6 := Vw (HV.out.below HB6.out)
      rw [hcore] at c6
      have hn1 : r + 1 ≤ 1000000 := by omega
      have HCR := Vw hcore
      clear hbe hm6 hkw hr2 hcore
      go_wp2_with (at_builtin; refine Ab rfl _ _ _ _ rfl Vv _ _ _ rfl (HV6.out.below (AC w6 _)) _ 1 _ rfl (Src.one underlying62 (AE w6 _) rfl (by simp [Value.oneCell'])) hn1 (by omega) ?_)
      intro A7 cap7 w7 hr7 hg7 hm7
      have hmt : ∀ {W : World} {k : Nat} {cs : Array Value} {T : TypeId}, W.ownsMap prog 3 (plainElem (H := Unit) prog 3) w2.heap.size r (JG r) → W.heap[k]? = some (.cells cs T (0, 0)) → k ≠ w2.heap.size := fun h h' e => DL h h' e.symm
      have hm7' := (HM6.out.alloc (.cells #[I (r : Int), I 0] 64)).kept hg7 (fun e => by
       obtain ⟨cs, h⟩ := (HV6.out.below (AC w6 (.cells #[I (r : Int), I 0] 64))).type _ e.symm
       exact hmt (HM6.out.alloc _) h rfl)
      have c7 := AA (AW (HV6.out.below (AC w6 _)) hg7 (AB (AC w6 _) HI6.out) (by decide))
      rw [HCR.out] at c7
      have hl7 : (Instr.lookup 131 (.map (some w2.heap.size)) (.int .i64 (r : Int)) false).run prog w7 = .ok (.int .i64 0) w7 := by
       obtain ⟨c, hrun, hat, _⟩ := hm7'.lookup_int Ed underlying131 underlying3 (SR w7) hky
       rw [OC HC.out.1 hat] at hrun
       exact hrun
      have hnm : r < maxLen := by have := HC.out.1; unfold maxLen; omega
      have hvw := plainElem_int (H := Unit) underlying3 (a := 1) (WalkArith.wf_i64 (by omega))
      have HM7 := Vw hm7'
      have HF7 := Vw (WA hr7 (WA hg7 hm7))
      clear hmt hm7' hr7 hg7 hm7 c6 hl6
      go_wp2_with (first
       | (at_mapUpdate; refine wpList_mapUpdate_own _ rfl _ _ _ 131 rfl 3 3 Ed underlying131 _ w2.heap.size r _ rfl HM7.out hnm _ _ _ rfl rfl hky _ [] hvw ?_; intro w9 hown9 hgrow9)
       | go_in)
      have HU := Vw (WA hown9 hgrow9)
      clear hown9 hgrow9
      go_wp2_with fail
      obtain ⟨f1, f2, f3⟩ := HF7.out
      obtain ⟨u1, u2⟩ := HU.out
      rw [SM HC.out.1] at u1
      have hba := AC w6 (.cells #[I (r : Int), I 0] 64)
      refine ⟨⟨j + 1, r + 1, by omega, by have := HC.out.1; omega, by simp, ?_, ?_, ?_, u1, ?_⟩, by simp [intOf]; omega⟩
      · rw [HT.out, List.filter_append, List.map_append, HF.out]
        have hr2 := HC.out.1
        have : r = 0 ∨ r = 1 := by omega
        rcases this with rfl | rfl
        · simp [HC.out.2, HCR.out]
        · simp [HC.out.2, HCR.out]
      · have h := f1
        rw [show GW.take (2 * r) ++ (#[I (r : Int), I 0]).toList = GW.take (2 * (r + 1)) from PY HC.out.1] at h
        exact h.kept fun k hk => u2.block k (h.lt k hk) (fun e => by
         cases e
         obtain ⟨cs, ht⟩ := h.type _ hk
         exact DL HM7.out ht rfl)
      · intro k hk
        rcases f3 with hm | ⟨g', hm, hle⟩
        · exact HO.out k (hm ▸ hk)
        · rw [hm] at hk
          cases hk
          have := HP.out.size; have := HB6.out.size
          simp at hle
          omega
      · have hp6 := HP.out.trans (Pres.of_below HB6.out)
        refine ⟨u2.os.trans (f2.os.trans (hba.os.trans hp6.os)), u2.tape.trans (f2.tape.trans (hba.tape.trans hp6.tape)), u2.output.trans (f2.output.trans (hba.output.trans hp6.output)), Vx hp6.size (Vx hba.size (Vx f2.size u2.size)), fun k hk ha => ?_⟩
        have h1 := Vy hk hp6.size
        have h2 := Vy h1 hba.size
        exact (u2.block k (Vy h2 f2.size) (fun e => ha (by cases e; rfl))).trans ((f2.block k h2 (fun e => by have := HO.out k e.symm; omega)).trans ((hba.block k h1).trans (hp6.block k hk ha)))
  · obtain rfl : j = N := by omega
    have hrr : r = 2 := by
     have h := hf
     rw [← HN.out, List.take_length, HBG.out] at h
     have : r = 0 ∨ r = 1 ∨ r = 2 := by omega
     rcases this with rfl | rfl | rfl
     · cases h
     · cases h
     · rfl
    subst hrr
    clear hv ho hm hp hf hj hr
    go_wp2_with fail
    go_ret
    refine ⟨_, rfl, HV.out, fun k hk => by have := HO.out k hk; have := HB4.out.size; omega, ⟨HP.out.os.trans HB4.out.os, HP.out.tape.trans HB4.out.tape, HP.out.output.trans HB4.out.output, Vx HB4.out.size HP.out.size, fun k hk => (HP.out.block k (Vy hk HB4.out.size) (by have := HZ2.out; omega)).trans (HB4.out.block k hk)⟩⟩
end Go.Proofs.YtkoplblbeapfgaaGreatDoor
