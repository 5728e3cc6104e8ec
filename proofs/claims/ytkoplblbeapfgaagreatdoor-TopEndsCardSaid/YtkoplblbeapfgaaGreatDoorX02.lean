/-
Parts of the walk of TopEnds. Conditions stand in each statement.
-/
import Derived.Tactics2
import Derived.Defers
import Derived.Laws.Pointers
import Derived.Laws.LoneSync
import Derived.RegionCalls
import Derived.Test.YtkoplblbeapfgaaGreatDoorX00
namespace Go.Proofs.YtkoplblbeapfgaaGreatDoor
open Go.RowKit
open Tryz
set_option linter.all false
set_option maxRecDepth 100000
set_option maxHeartbeats 8000000
structure Ins where
 op : Int
 a : Int
 b : Int
 c : Int
 imm : Int
def Ins.cells (i : Ins) : List Value := [I i.op, I i.a, I i.b, I i.c, I i.imm]
def Ins.v (i : Ins) : Value := .agg #[I i.op, I i.a, I i.b, I i.c, I i.imm]
def Az (l : List Ins) : List Value := l.flatMap Ins.cells
theorem Kv (l k : List Ins) : Az (l ++ k) = Az l ++ Az k := by simp [Az]
def Es (l : List Int) : List Value := l.map (I ·)
def IB (l : List (Nat × Nat)) : List Value := l.flatMap fun j => [I j.1, I j.2]
theorem Jo (L : List Ins) : ∀ u ∈ Az L, u.oneCell' = true := by
 intro u hu
 simp only [Az, List.mem_flatMap, Ins.cells, List.mem_cons, List.not_mem_nil, or_false] at hu
 obtain ⟨a, _, h⟩ := hu
 rcases h with rfl | rfl | rfl | rfl | rfl <;> rfl
structure BS where
 l : List Ins
 marks : List Int
 jumps : List (Nat × Nat)
def FH (Av : Nat → Prop) (w : World) (bb : Nat) (B : BS) (vl vm vj : Value) : Prop :=
 w.heap[bb]? = some (.cells #[vl, vm, vj, false] 159) ∧ AH w 165 5 vl B.l.length (Az B.l) ∧ AH w 3 1 vm B.marks.length (Es B.marks) ∧ AH w 232 2 vj B.jumps.length (IB B.jumps) ∧
  ¬ Av bb ∧ Qz Av vl ∧ Qz Av vm ∧ Qz Av vj
def Ap (Av : Nat → Prop) (w : World) (bb : Nat) (B : BS) : Prop := ∃ vl vm vj, FH Av w bb B vl vm vj
theorem FH.put0 {Av : Nat → Prop} {w w' : World} {bb : Nat} {B : BS} {vl vm vj v' : Value} {L : List Ins} {n : Nat} (h : FH Av w bb B vl vm vj) (hr : AH w' 165 5 v' n (Az L)) (hn : n = L.length) (hg : w.grownBy w' vl.ownBlock) (ho : Bf w vl v') (hA : ∀ k, Av k → k < w.heap.size) :
 Ap Av (w'.setCell bb v') bb { B with l := L } ∧ Pres Av w (w'.setCell bb v') := by
 subst hn
 obtain ⟨hbb, hl, hm, hj, a1, a2, a3, a4⟩ := h
 have hb' := AW hl hg hbb (by decide)
 exact ⟨⟨v', vm, vj, AI hb' 0 v', hr.stored hb' (by decide) _ _, hm.beside hl (by decide) hg hbb (by decide) _ _, hj.beside hl (by decide) hg hbb (by decide) _ _, a1, Li a2 ho hA, a3, a4⟩, (Pres.of_grown hg a2).setCell a1 _⟩
theorem FH.put1 {Av : Nat → Prop} {w w' : World} {bb : Nat} {B : BS} {vl vm vj v' : Value} {L : List Int} {n : Nat} (h : FH Av w bb B vl vm vj) (hr : AH w' 3 1 v' n (Es L)) (hn : n = L.length) (hg : w.grownBy w' vm.ownBlock) (ho : Bf w vm v') (hA : ∀ k, Av k → k < w.heap.size) :
 Ap Av (w'.setCell ⟨bb, 1, none⟩ v') bb { B with marks := L } ∧ Pres Av w (w'.setCell ⟨bb, 1, none⟩ v') := by
 subst hn
 obtain ⟨hbb, hl, hm, hj, a1, a2, a3, a4⟩ := h
 have hb' := AW hm hg hbb (by decide)
 exact ⟨⟨vl, v', vj, AI hb' 1 v', hl.beside hm (by decide) hg hbb (by decide) _ _, hr.stored hb' (by decide) _ _, hj.beside hm (by decide) hg hbb (by decide) _ _, a1, a2, Li a3 ho hA, a4⟩, (Pres.of_grown hg a3).setCell a1 _⟩
theorem FH.put2 {Av : Nat → Prop} {w w' : World} {bb : Nat} {B : BS} {vl vm vj v' : Value} {L : List (Nat × Nat)} {n : Nat} (h : FH Av w bb B vl vm vj) (hr : AH w' 232 2 v' n (IB L)) (hn : n = L.length) (hg : w.grownBy w' vj.ownBlock) (ho : Bf w vj v') (hA : ∀ k, Av k → k < w.heap.size) :
 Ap Av (w'.setCell ⟨bb, 2, none⟩ v') bb { B with jumps := L } ∧ Pres Av w (w'.setCell ⟨bb, 2, none⟩ v') := by
 subst hn
 obtain ⟨hbb, hl, hm, hj, a1, a2, a3, a4⟩ := h
 have hb' := AW hj hg hbb (by decide)
 exact ⟨⟨vl, vm, v', AI hb' 2 v', hl.beside hj (by decide) hg hbb (by decide) _ _, hm.beside hj (by decide) hg hbb (by decide) _ _, hr.stored hb' (by decide) _ _, a1, a2, a3, Li a4 ho hA⟩, (Pres.of_grown hg a4).setCell a1 _⟩
theorem FH.below {Av : Nat → Prop} {w w' : World} {bb : Nat} {B : BS} {vl vm vj : Value} (h : FH Av w bb B vl vm vj) (hb : Below w w w') : FH Av w' bb B vl vm vj :=
 ⟨AB hb h.1, h.2.1.below hb, h.2.2.1.below hb, h.2.2.2.1.below hb, h.2.2.2.2⟩
theorem UZ : ET prog 155 165 5 40 := ET.of underlying155 (z := .agg #[I 0, I 0, I 0, I 0, I 0]) (by kernel_rfl) rfl
theorem FM (Av : Nat → Prop) (bb : Nat) (B : BS) (L : List Ins) (X : Value) (w : World) (h : Ap Av w bb B) (hX : AH w 165 5 X L.length (Az L)) (hA : ∀ k, Av k → k < w.heap.size) (hn : B.l.length + L.length ≤ 1000000) :
 Y 62 #[bb, X] w fun e w' => e = Z (.tuple #[]) ∧ Ap Av w' bb { B with l := B.l ++ L } ∧ Pres Av w w' := by
 obtain ⟨vl, vm, vj, hat⟩ := h
 have ⟨hbb, hl, _⟩ := hat
 obtain ⟨A, AV, rfl⟩ := hl.form
 obtain ⟨A', cap', rfl⟩ := hX.form
 have c0 : w.cell? bb = some (.slice A B.l.length AV) := AD hbb 0 rfl
 have f0 := Aq hbb 0
 have HL := Vw hl
 have HB := Vw hbb
 have HX := Vw (hX.src (P := prog) underlying155 (Jo L))
 have HA := Vw hat
 clear hl hbb hX hat
 go_enter func62, ntmps62
 go_wp2_with (at_builtin; refine Ab rfl _ _ _ _ rfl UZ _ _ _ rfl HL.out _ _ _ rfl HX.out hn ?c1 ?_)
 case c1 => omega
 intro A2 cap2 w' hr hg ho
 have hb' := AW HL.out hg HB.out (by decide)
 have d0 : w'.cell? bb = some (.slice A B.l.length AV) := AD hb' 0 rfl
 have e0 := Aq hb' 0
 rw [← Kv] at hr
 have hfin := HA.out.put0 hr List.length_append.symm hg ho hA
 have HF := Vw hfin
 clear c0 f0 hb' hr hg ho hfin
 go_wp2_with fail
 go_end0
 exact ⟨rfl, HF.out⟩
theorem Mu : ET prog 156 3 1 8 := ET.of underlying156 (z := I 0) (by kernel_rfl) rfl
theorem Src.one {P : Program} {w : World} {size : Nat} {t e' : TypeId} (hk : P.underlying t = some (.slice e')) {g : Nat} {cs : Array Value} {e : TypeId} {f : Nat × Nat} (h : w.heap[g]? = some (.cells cs e f)) (hs : cs.size = size) (h1 : ∀ u ∈ cs.toList, u.oneCell' = true) : Go.Src P size t (.slice (some g) 1 1) 1 cs.toList w :=
 Go.Src.ofSlice w hk _ 1 1 cs.toList (by simp [hs]) (fun j u hu => by rw [Fp, Nat.zero_add]; exact AD h _ (by simpa using hu)) h1
theorem Jf (Av : Nat → Prop) (bb : Nat) (B : BS) (w : World) (h : Ap Av w bb B) (hA : ∀ k, Av k → k < w.heap.size) (hn : B.marks.length + 1 ≤ 1000000) :
 Y 98 #[bb] w fun e w' => e = Z (I B.marks.length) ∧ Ap Av w' bb { B with marks := B.marks ++ [-1] } ∧ Pres Av w w' := by
 obtain ⟨vl, vm, vj, hat⟩ := h
 have ⟨hbb, hl, hm, _⟩ := hat
 obtain ⟨A, AV, rfl⟩ := hm.form
 have c0 : w.cell? ⟨bb, 1, none⟩ = some (.slice A B.marks.length AV) := AD hbb 1 rfl
 have f0 := Aq hbb 1
 have HL := Vw hm
 have HB := Vw hbb
 have HA := Vw hat
 clear hl hbb hat hm
 go_enter func98, ntmps98
 have hba := AC w (.cells #[I (-1)] 3)
 go_wp2_with (at_builtin; refine Ab rfl _ _ _ _ rfl Mu _ _ _ rfl (HL.out.below hba) _ 1 _ rfl (Src.one underlying156 (AE w _) rfl (by simp [Value.oneCell'])) hn ?c1 ?_)
 case c1 => omega
 intro A2 cap2 w' hr hg ho
 have hb' := AW (HL.out.below hba) hg (AB hba HB.out) (by decide)
 have d0 : w'.cell? ⟨bb, 1, none⟩ = some (.slice A B.marks.length AV) := AD hb' 1 rfl
 have e0 := Aq hb' 1
 have hfin := (HA.out.below hba).put1 (L := B.marks ++ [-1]) (by simpa [Es] using hr) (by simp) hg ho (fun k hk => Vy (hA k hk) hba.size)
 have hp := (Pres.of_below (Av := Av) hba).trans hfin.2
 have hb2 := AI hb' 1 (.slice A2 (B.marks.length + 1) cap2)
 have g0 : (w'.setCell ⟨bb, 1, none⟩ (.slice A2 (B.marks.length + 1) cap2)).cell? ⟨bb, 1, none⟩ = some (.slice A2 (B.marks.length + 1) cap2) := AD hb2 1 rfl
 have HF := Vw (WA hfin.1 hp)
 clear c0 f0 hb' hr hg ho hfin hp hb2 hba
 go_wp2_with fail
 go_ret
 exact ⟨by simp, HF.out⟩
theorem MF (Av : Nat → Prop) (bb : Nat) (B : BS) (m : Nat) (w : World) (h : Ap Av w bb B) (hm : m < B.marks.length) :
 Y 159 #[bb, I m] w fun e w' => e = Z (.bool true) ∧ w = w' := by
 obtain ⟨vl, vm, vj, hbb, hl, hmr, _⟩ := h
 obtain ⟨A, AV, rfl⟩ := hmr.form
 have c0 : w.cell? ⟨bb, 1, none⟩ = some (.slice A B.marks.length AV) := AD hbb 1 rfl
 have h1 : (m : Int) < (B.marks.length : Int) := by omega
 have h0 : (0 : Int) ≤ (m : Int) := by omega
 clear hbb hl hmr
 go_enter func159, ntmps159
 go_wp2_with fail
 go_ret
 exact ⟨by simp [hm], rfl⟩
theorem Jp (Av : Nat → Prop) (bb : Nat) (B : BS) (m : Nat) (w : World) (h : Ap Av w bb B) (hm : m < B.marks.length) (hu : B.marks[m]? = some (-1)) :
 Y 106 #[bb, I m] w fun e w' => e = Z (.tuple #[]) ∧ Ap Av w' bb { B with marks := B.marks.set m B.l.length } ∧ Pres Av w w' := by
 have hi := MF Av bb B m
 obtain ⟨vl, vm, vj, hat⟩ := id h
 have ⟨hbb, hl, hmr, _⟩ := hat
 obtain ⟨g, off, AV, cs, rfl, hg, hc1, hc2, hc3⟩ := hmr.lies (by omega)
 obtain ⟨A2, cap2, rfl⟩ := hl.form
 have c0 : w.cell? ⟨bb, 1, none⟩ = some (.slice (some ⟨g, off, none⟩) B.marks.length AV) := AD hbb 1 rfl
 have c1 : w.cell? bb = some (.slice A2 B.l.length cap2) := AD hbb 0 rfl
 have c2 : w.cell? ⟨g, off + m, none⟩ = I (-1) := AD hg _ (hc3 m _ (by simp [Es, hu]))
 have f2 := Aq hg (off + m)
 have h1 : (m : Int) < (B.marks.length : Int) := by omega
 have h0 : (0 : Int) ≤ (m : Int) := by omega
 have HA := Vw (WA hat (WA hg (WA hc1 (WA hc2 (WA hc3 hmr.1)))))
 clear hbb hl hmr hat hg hc1 hc2 hc3
 go_enter func106, ntmps106
 go_wp2_with fail
 refine (hi w h hm).mono ?_
 rintro e w' ⟨rfl, rfl⟩
 clear hi h
 go_wp2_with fail
 go_region
 all_goals
  go_wp2_with fail
  obtain ⟨⟨hbb, hl, hmr, hj, a1, a2, a3, a4⟩, hg, hc1, hc2, hc3, hln⟩ := HA.out
  have hset := AH.set hln hg hc1 hc2 hc3 m (I B.l.length)
  have hng : ¬ Av g := a3 g rfl
  go_end0
  refine ⟨rfl, ⟨_, _, _, (Vz _ _ _ _ (AG hbb hg (by decide))).trans hbb, hl.stored hg (by decide) _ _, ?_, hj.stored hg (by decide) _ _, a1, a2, a3, a4⟩, ((Pres.refl Av w).setCell hng _).drew⟩
  have : AH (w.setCell ⟨g, off + m, none⟩ (I B.l.length)) 3 1 (.slice (some ⟨g, off, none⟩) B.marks.length AV) (B.marks.set m B.l.length).length (Es (B.marks.set m B.l.length)) := by simpa [Es, List.map_set] using hset
  exact this
theorem Vi : ET prog 157 232 2 16 := ET.of underlying157 (z := .agg #[I 0, I 0]) (by kernel_rfl) rfl
theorem Ji (Av : Nat → Prop) (bb : Nat) (B : BS) (i : Ins) (m : Nat) (w : World) (h : Ap Av w bb B) (hA : ∀ k, Av k → k < w.heap.size) (hm : m < B.marks.length) (ho1 : 17 ≤ i.op) (ho2 : i.op ≤ 20) (hn : B.jumps.length + 1 ≤ 1000000) (hn2 : B.l.length + 1 ≤ 1000000) :
 Y 112 #[bb, i.v, I m] w fun e w' => e = Z (.tuple #[]) ∧ Ap Av w' bb { B with l := B.l ++ [i], jumps := B.jumps ++ [(B.l.length, m)] } ∧ Pres Av w w' := by
 have hi := MF Av bb B m
 have hb0 := AC w (.cells #[I i.op, I i.a, I i.b, I i.c, I i.imm] 165)
 have hi0 := AE w (.cells #[I i.op, I i.a, I i.b, I i.c, I i.imm] 165)
 have h0 : Ap Av (w.alloc (.cells #[I i.op, I i.a, I i.b, I i.c, I i.imm] 165)) bb B := by
  obtain ⟨vl, vm, vj, hat⟩ := h
  exact ⟨vl, vm, vj, hat.below hb0⟩
 unfold Ins.v
 go_enter func112, ntmps112
 go_wp2_with fail
 refine (hi _ h0 hm).mono ?_
 rintro e w' ⟨rfl, rfl⟩
 have hsz := hb0.size
 generalize w.alloc (.cells #[I i.op, I i.a, I i.b, I i.c, I i.imm] 165) = W0 at *
 obtain ⟨vl, vm, vj, hat⟩ := h0
 have ⟨hbb, hl, _, hj, _⟩ := hat
 obtain ⟨A, AV, rfl⟩ := hj.form
 obtain ⟨A2, cap2, rfl⟩ := hl.form
 have c0 : W0.cell? ⟨bb, 2, none⟩ = some (.slice A B.jumps.length AV) := AD hbb 2 rfl
 have c1 : W0.cell? bb = some (.slice A2 B.l.length cap2) := AD hbb 0 rfl
 have f0 := Aq hbb 2
 have i0 : W0.cell? w = I i.op := AD hi0 0 rfl
 have HJ := Vw hj
 have HB := Vw hbb
 have HI := Vw hi0
 have HA := Vw (WA hat hb0)
 clear hi h hbb hl hj hi0 hat hb0
 have hba := AC W0 (.cells #[I B.l.length, I m] 232)
 have c2 : (W0.alloc (.cells #[I B.l.length, I m] 232)).cell? ⟨bb, 2, none⟩ = some (.slice A B.jumps.length AV) := (hba.cell (p := ⟨bb, 2, none⟩) (AF HB.out)).trans c0
 have HC := Vw hba
 clear hba
 go_wp2_with fail
 go_region_law
  (first
   | (refine Bb (by rfl) (.tmp 29) (.tmp 37) 157 157 (by rfl) Vi (.slice A B.jumps.length AV) B.jumps.length (IB B.jumps) (by rfl) (HJ.out.below HC.out.drew) _ 1 _ (by rfl) (Src.one underlying157 (AE W0 _) rfl (by simp [Value.oneCell'])) (by omega) (by omega) ?_; intro A3 cap3 w3 hr3 hg3 hm3; have d0 : w3.cell? ⟨bb, 2, none⟩ = some (.slice A B.jumps.length AV) := AD (AW (HJ.out.below HC.out.drew) hg3 (AB HC.out.drew HB.out) (by decide)) 2 rfl; have e0 := Aq (AW (HJ.out.below HC.out.drew) hg3 (AB HC.out.drew HB.out) (by decide)) 2))
 all_goals
  have hfin := (HA.out.1.below HC.out.drew).put2 (L := B.jumps ++ [(B.l.length, m)]) (by simpa [IB] using hr3) (by simp) hg3 hm3 (fun k hk => Vy (hA k hk) (Vx hsz HC.out.drew.size))
  have hi4 := (Vz w3 ⟨bb, 2, none⟩ (.slice A3 (B.jumps.length + 1) cap3) w.heap.size (AG HI.out HB.out (by decide))).trans (AW (HJ.out.below HC.out.drew) hg3 (AB HC.out.drew HI.out) (by decide))
  have hp := ((Pres.of_below (Av := Av) HA.out.2).trans (Pres.of_below HC.out.drew)).trans hfin.2
  clear hr3 hg3 hm3 d0 e0 c0 c1 c2 f0 i0 HJ HB HI HA HC
  generalize w3.setCell ⟨bb, 2, none⟩ (.slice A3 (B.jumps.length + 1) cap3) = w4 at *
  obtain ⟨⟨vl, vm, vj, hat⟩, _⟩ := hfin
  have k0 : w4.cell? w = I i.op := AD hi4 0 rfl
  have k1 : w4.cell? ⟨w, 1, none⟩ = I i.a := AD hi4 1 rfl
  have k2 : w4.cell? ⟨w, 2, none⟩ = I i.b := AD hi4 2 rfl
  have k3 : w4.cell? ⟨w, 3, none⟩ = I i.c := AD hi4 3 rfl
  have k4 : w4.cell? ⟨w, 4, none⟩ = I i.imm := AD hi4 4 rfl
  have hba := AC w4 (.cells #[I i.op, I i.a, I i.b, I i.c, I i.imm] 165)
  have had := FM Av bb { B with jumps := B.jumps ++ [(B.l.length, m)] } [i] (.slice (some w4) 1 1) _ ⟨vl, vm, vj, hat.below hba⟩ (AH.one (AE w4 _) rfl) (fun k hk => Vy (hA k hk) (Vx hp.size hba.size)) hn2
  clear hat hi4
  go_wp2_with fail
  refine had.mono ?_
  rintro e w5 ⟨rfl, hB5, hP5⟩
  go_wp2_with fail
  go_end0
  exact ⟨rfl, hB5, (hp.trans (Pres.of_below hba)).trans hP5⟩
instance : Coe Ins (Array Value) := ⟨fun x => #[I x.op, I x.a, I x.b, I x.c, I x.imm]⟩
theorem disable (w : World) : (callFunc 282 #[]).run prog w = .ok (.value (.tuple #[])) w := run_call_mark0 func282 (by kernel_rfl) (by kernel_rfl) (by kernel_rfl) .disable (by kernel_rfl) w
theorem enable (w : World) : (callFunc 284 #[]).run prog w = .ok (.value (.tuple #[])) w := run_call_mark0 func284 (by kernel_rfl) (by kernel_rfl) (by kernel_rfl) .enable (by kernel_rfl) w
theorem acquire (a : Addr) (w : World) : (callFunc 285 #[.pointer (some a)]).run prog w = .ok (.value (.tuple #[])) w := run_call_marked func285 (by kernel_rfl) (by kernel_rfl) (by kernel_rfl) .acquire (by kernel_rfl) a w
theorem releaseMerge (a : Addr) (w : World) : (callFunc 287 #[.pointer (some a)]).run prog w = .ok (.value (.tuple #[])) w := run_call_marked func287 (by kernel_rfl) (by kernel_rfl) (by kernel_rfl) .releaseMerge (by kernel_rfl) a w
theorem Ek (a : Addr) (x : Value) (u : FrameMode) (w : World) (hc : w.cell? a = some x) (hz : w.frozen? a = false) :
 CallsD prog 200 #[.pointer (some a), true] u w fun e u' w' => u' = u ∧ (e = Z (.tuple #[]) ∧ w' = w.drew.setCell a (.int .u32 1)) := by
 have hc' : w.drew.cell? a = some x := by go_simp
 have hz' : w.drew.frozen? a = false := by go_simp
 have hst := run_call_store (P := prog) func238 (by kernel_rfl) (by kernel_rfl) (by kernel_rfl) (by kernel_rfl) (k := .u32) (y := 1) hc' hz'
 go_enter_d func200, ntmps200
 go_wp2
 go_region_calls
 all_goals (go_end0; exact ⟨rfl, rfl⟩)
theorem EX (a : Addr) (u : FrameMode) (w : World) (hc : w.cell? a = some (.int .i32 1)) (hz : w.frozen? a = false) :
 CallsD prog 199 #[.pointer (some a)] u w fun e u' w' => u' = u ∧ (e = Z (.tuple #[]) ∧ w' = w.setCell a (.int .i32 0)) := by
 have hd := disable
 have he := enable
 have hr := releaseMerge
 have hadd := run_call_add (P := prog) func288 (by kernel_rfl) (by kernel_rfl) (by kernel_rfl) .i32 (by kernel_rfl) (y := -1) (s := 0) hc hz (by simp [go_sem]; rfl)
 have hcv := run_convert_to_unsafe (P := prog) (src := 383) (dst := 387) underlying383 underlying387 (by kernel_rfl) hc
 go_enter_d func199, ntmps199
 go_wp2
 go_end0
 go_wp2
 go_end0
 exact ⟨rfl, rfl⟩
theorem Hy (a : Addr) (w : World) (hc : w.cell? a = some (.int .i32 0)) (hz : w.frozen? a = false) :
 Y 198 #[.pointer (some a)] w fun e w' => e = Z (.tuple #[]) ∧ w' = w.setCell a (.int .i32 1) := by
 have hd := disable
 have he := enable
 have ha := acquire
 have hcas := run_call_cas_hit (P := prog) func283 (by kernel_rfl) (by kernel_rfl) (by kernel_rfl) .i32 (by kernel_rfl) (y := 1) hc hz
 have hc' : (w.setCell a (.int .i32 1)).cell? a = some (.int .i32 1) := World.cell?_setCell_same w a _ hc
 have hcv := run_convert_to_unsafe (P := prog) (src := 383) (dst := 387) underlying383 underlying387 (by kernel_rfl) hc'
 go_enter func198, ntmps198
 go_wp2
 first | go_end0 | (simp only [Exit.inBlock, Exit.then]; refine bodyPost_ret (results_none rfl _ _ _) rfl ?_) | refine bodyPost_ret (results_none rfl _ _ _) rfl ?_
 go_wp2
 go_end0
 exact ⟨rfl, rfl⟩
theorem Dp (a : Addr) (x : Int) (w : World) (h0 : w.cell? a = some (.int .u32 x)) : Y 150 #[.pointer (some a)] w fun e w' => e = Z (.bool (x != 0)) ∧ w' = w := by
 have hl := run_call_load (P := prog) func197 (by kernel_rfl) (by kernel_rfl) (by kernel_rfl) .u32 (by kernel_rfl) h0
 go_enter func150, ntmps150
 go_wp2
 go_ret
 exact ⟨rfl, rfl⟩
theorem TN (a : Addr) (fv : Value) (w : World) (h0 : w.cell? a = some (.int .u32 1)) :
 Y 95 #[.pointer (some a), fv] w fun e w' => e = Z (.tuple #[]) ∧ w' = w := by
 have hl := run_call_load (P := prog) func197 (by kernel_rfl) (by kernel_rfl) (by kernel_rfl) .u32 (by kernel_rfl) h0
 have hnot : ∀ (x : Bool) (w : World), (Op.unary .not (.bool x)).run prog w = .ok (.bool (!x)) w := fun _ _ => rfl
 go_enter func95, ntmps95
 go_wp2
 go_end0
 exact ⟨rfl, rfl⟩
def Dv : Value := .agg KE
def Ai : Value := .agg KA
theorem LD (n a b : Int) (h1 : a ≤ n) (h2 : n ≤ b) (w : World) : Y 164 #[I n, I a, I b] w fun e w' => e = Z (.bool true) ∧ w = w' := by
 go_enter func164, ntmps164
 go_wp2_with fail
 go_ret
 exact ⟨by simp [h1, h2], rfl⟩
theorem IZ (w : World) : Y 118 #[Dv] w fun e w' => e = Z (.bool true) ∧ Below w w w' := by
 have hb := AC w (.cells KE 23)
 unfold Dv
 go_enter func118, ntmps118
 go_wp2_with (go_at_call 164; refine (LD _ _ _ (by decide) (by decide) _).mono ?_; rintro e w' ⟨rfl, rfl⟩)
 go_ret
 exact ⟨rfl, hb⟩
def Cr (d s q : Value) (g : Bool) (a b c e : Int) : Array Value := #[d, s, q, g, I a, I b, I c, I e]
theorem Lb (b : Nat) (d s q : Value) (w : World) (h : w.heap[b]? = some (.cells (Cr d s q false 0 0 0 0) 150)) :
 Y 97 #[b, Ai] w fun e w' => e = Z (.tuple #[]) ∧ w'.heap[b]? = some (.cells (Cr d s q true 2 4 1 8) 150) ∧ Pres (fun k => k ≠ b) w w' := by
 have hb0 := AC w (.cells KA 25)
 have hi0 := AE w (.cells KA 25)
 have h0 := AB hb0 h
 have hbl := AF h
 clear h
 unfold Ai
 go_enter func97, ntmps97
 go_wp2_with (go_at_call 118; refine (IZ _).mono ?_; rintro e w1 ⟨rfl, hb1⟩; have h1 := AB hb1 h0; have hi1 := AB hb1 hi0; have c1 := AA h1; have f1 := AJ h1; have d1 := AA hi1; unfold Cr at c1; have HH := Vw (WA h1 (WA hb0 hb1)); clear h0 hi0 h1 hi1 hb0 hb1)
 go_region
 all_goals
  go_wp2_with fail
  go_region
  all_goals
   go_wp2_with fail
   go_end0
   have e5 := AI (AI (AI (AI (AI HH.out.1 3 (.bool true)) 4 (I 2)) 5 (I 4)) 6 (I 1)) 7 (I 8)
   have hp := ((((((Pres.of_below (Av := fun k => k ≠ b) HH.out.2.1).trans (Pres.of_below HH.out.2.2)).setCell (p := ⟨b, 3, none⟩) (by simp) (.bool true)).setCell (p := ⟨b, 4, none⟩) (by simp) (I 2)).setCell (p := ⟨b, 5, none⟩) (by simp) (I 4)).setCell (p := ⟨b, 6, none⟩) (by simp) (I 1)).setCell (p := ⟨b, 7, none⟩) (by simp) (I 8)
   exact ⟨rfl, e5, hp.drew.drew⟩
def EB (cs : Array Value) (o : Nat) : List Value → Array Value
 | [] => cs
 | v :: vs => EB (cs.setIfInBounds o v) (o + 1) vs
theorem FD : ∀ (vs : List Value) (cs : Array Value) (o : Nat), (EB cs o vs).size = cs.size
 | [], _, _ => rfl
 | v :: vs, cs, o => by rw [EB, FD vs, Array.size_setIfInBounds]
theorem EZ : ∀ (vs : List Value) (cs : Array Value) (o k : Nat), o + vs.length ≤ cs.size → (EB cs o vs)[k]? = if o ≤ k ∧ k < o + vs.length then vs[k - o]? else cs[k]?
 | [], cs, o, k, h => by
   have : ¬ (o ≤ k ∧ k < o + ([] : List Value).length) := by simp
   rw [if_neg this]; rfl
 | v :: vs, cs, o, k, h => by
   have h' : o + 1 + vs.length ≤ (cs.setIfInBounds o v).size := by simp at h ⊢; omega
   rw [EB, EZ vs _ (o + 1) k h']
   simp only [List.length_cons]
   by_cases h1 : k = o
   · subst h1
     have hk : k < cs.size := by simp at h; omega
     rw [if_neg (by omega), if_pos (by omega), Array.getElem?_setIfInBounds_self_of_lt hk]
     simp
   · by_cases h2 : o + 1 ≤ k ∧ k < o + 1 + vs.length
     · rw [if_pos h2, if_pos (by omega)]
       have : k - o = (k - (o + 1)) + 1 := by omega
       rw [this, List.getElem?_cons_succ]
     · rw [if_neg h2, if_neg (by omega), Array.getElem?_setIfInBounds_ne (by omega)]
theorem AT {g : Nat} {e : TypeId} : ∀ (vs : List Value) {w : World} {cs : Array Value} (h : w.heap[g]? = some (.cells cs e (0, 0))) (o : Nat) (cs' : Array Value), EB cs o vs = cs' → (w.setCells g o vs).heap[g]? = some (.cells cs' e (0, 0))
 | [], w, cs, h, o, cs', hs => by rw [← hs]; exact h
 | v :: vs, w, cs, h, o, cs', hs => AT vs (AI h o v) (o + 1) cs' hs
theorem AR {g k : Nat} (hk : k ≠ g) : ∀ (vs : List Value) (w : World) (o : Nat), (w.setCells g o vs).heap[k]? = w.heap[k]?
 | [], _, _ => rfl
 | v :: vs, w, o => by rw [World.setCells, AR hk vs, Vz _ _ _ _ hk]
theorem Pres.setCells {Av : Nat → Prop} {a : World} {g : Nat} (hg : ¬ Av g) : ∀ (vs : List Value) {b : World} (h : Pres Av a b) (o : Nat), Pres Av a (b.setCells g o vs)
 | [], _, h, _ => h
 | v :: vs, b, h, o => Pres.setCells hg vs (h.setCell (p := ⟨g, o, none⟩) hg v) (o + 1)
theorem Ac {B : Nat} {a : World} {g : Nat} (hg : B ≤ g) : ∀ (vs : List Value) {b : World} (h : Below B a b) (o : Nat), Below B a (b.setCells g o vs)
 | [], _, h, _ => h
 | v :: vs, b, h, o => Ac hg vs (h.setCell (p := ⟨g, o, none⟩) hg v) (o + 1)
theorem AH.put {w : World} {e size n : Nat} {xs : List Value} {g off AV : Nat} (h : AH w e size (.slice (some ⟨g, off, none⟩) n AV) n xs) (vs : List Value) (o : Nat) (xs' : List Value) (hx : xs'.length = xs.length) (ho : o + vs.length ≤ xs.length)
 (h1 : ∀ j, o ≤ j → j < o + vs.length → xs'[j]? = vs[j - o]?) (h2 : ∀ j, ¬ (o ≤ j ∧ j < o + vs.length) → xs'[j]? = xs[j]?) : AH (w.setCells g (off + o) vs) e size (.slice (some ⟨g, off, none⟩) n AV) n xs' := by
 refine ⟨hx.trans h.1, .inr ?_⟩
 rcases h.2 with ⟨hh, _⟩ | ⟨g', off', cap', cs, hv, hg, hn, hc, hl⟩
 · cases hh
 · cases hv
   have hmul : n * size ≤ AV * size := Nat.mul_le_mul_right _ hn
   have hle : off + o + vs.length ≤ cs.size := by have := h.1; omega
   refine ⟨g, off, AV, _, rfl, AT vs hg (off + o) _ rfl, hn, by rw [FD]; exact hc, fun j u hu => ?_⟩
   rw [EZ _ _ _ _ hle]
   by_cases hj : o ≤ j ∧ j < o + vs.length
   · rw [if_pos (by omega), ← hu, h1 j hj.1 hj.2]
     congr 1
     omega
   · rw [if_neg (by omega)]
     exact hl j u (by rw [← h2 j hj]; exact hu)
def CV {α : Type} (p : α → Bool) : List α → Int
 | [] => -1
 | x :: l => if p x = true then 0 else if decide (CV p l < 0) = true then -1 else CV p l + 1
theorem Kb {α : Type} (p : α → Bool) : ∀ (l : List α), (∀ (m : Nat) (x : α), l[m]? = some x → p x = false) → CV p l = -1
 | [], _ => rfl
 | x :: l, h => by
   have h0 := h 0 x rfl
   have ih := Kb p l (fun m y hy => h (m + 1) y (by simpa using hy))
   simp [CV, h0, ih]
theorem Ka {α : Type} (p : α → Bool) : ∀ (l : List α) (j : Nat) (x : α), l[j]? = some x → p x = true → (∀ (m : Nat) (y : α), m < j → l[m]? = some y → p y = false) → CV p l = j
 | [], j, x, h, _, _ => by simp at h
 | y :: l, 0, x, h, hp, _ => by
   simp at h
   subst h
   simp [CV, hp]
 | y :: l, j + 1, x, h, hp, hl => by
   have h0 := hl 0 y (by omega) rfl
   have ih := Ka p l j x (by simpa using h) hp (fun m z hm hz => hl (m + 1) z (by omega) (by simpa using hz))
   have : ¬ ((j : Int) < 0) := by omega
   simp [CV, h0, ih, this]
theorem CR {P : Program} (w : World) (t e ty : TypeId) (z : Value) (vs : List Value) (n : Nat) (ht : P.underlying t = some (.slice e)) (hv : (zeroValue e).run P w = .ok z w) (hz : (Builtin.zeroCells z.cells n).toList = vs) (b o c : Nat) (hn : 0 < n) {cs : Array Value} {f : TypeId}
 (hb : w.heap[b]? = some (.cells cs f (0, 0))) (hl : o + vs.length ≤ cs.size) (h1 : ∀ v ∈ vs, v.oneCell' = true) : (Builtin.clear_ #[t] ty #[.slice (some ⟨b, o, none⟩) n c]).run P w = .ok (.tuple #[]) (w.setCells b o vs) := by
 have hst := run_storeCells_cells (P := P) b o vs 0 w (fun j hj => by
  rw [AA hb]
  rw [Array.getElem?_eq_getElem (by omega)]
  rfl) (fun j _ => AJ hb _) h1
 simp only [Nat.add_zero] at hst
 obtain ⟨m, rfl⟩ : ∃ m, n = m + 1 := ⟨n - 1, by omega⟩
 simp [Builtin.clear_, run_underlying ht, hv, hz, hst]
theorem Eu {α : Type} (f : α → List Value) (size : Nat) (hf : ∀ x, (f x).length = size) : ∀ (l : List α) (j : Nat) (x : α), l[j]? = some x → ∀ i, i < size → (l.flatMap f)[j * size + i]? = (f x)[i]?
 | [], j, x, h, _, _ => by simp at h
 | y :: l, 0, x, h, i, hi => by
   simp at h
   subst h
   rw [List.flatMap_cons, Nat.zero_mul, Nat.zero_add, List.getElem?_append_left (by rw [hf]; exact hi)]
 | y :: l, j + 1, x, h, i, hi => by
   have ih := Eu f size hf l j x (by simpa using h) i hi
   rw [List.flatMap_cons, List.getElem?_append_right (by rw [hf, Nat.add_mul]; omega), hf, ← ih]
   congr 1
   rw [Nat.add_mul]
   omega
theorem AH.elem {α : Type} {f : α → List Value} {size : Nat} (hf : ∀ x, (f x).length = size) {w : World} {e : TypeId} {v : Value} {l : List α} (hr : AH w e size v l.length (l.flatMap f)) {j : Nat} {x : α} (hx : l[j]? = some x) :
 ∃ g off AV, v = .slice (some ⟨g, off, none⟩) l.length AV ∧ l.length ≤ AV ∧ (∃ cs, w.heap[g]? = some (.cells cs e (0, 0))) ∧ ∀ i u, (f x)[i]? = some u → w.cell? ⟨g, off + j * size + i, none⟩ = some u := by
 have hj : j < l.length := (List.getElem?_eq_some_iff.1 hx).1
 obtain ⟨g, off, AV, cs, rfl, hg, h1, h2, h3⟩ := hr.lies (by omega)
 refine ⟨g, off, AV, rfl, h1, ⟨cs, hg⟩, fun i u hu => ?_⟩
 have hi : i < size := by rw [← hf x]; exact (List.getElem?_eq_some_iff.1 hu).1
 have := h3 (j * size + i) u (by rw [Eu f size hf l j x hx i hi]; exact hu)
 rw [← Nat.add_assoc] at this
 exact AD hg _ this
theorem Ir (a : Addr) (x : Int) (w : World) (hc : w.cell? a = I x) : Y 87 #[.pointer (some a)] w fun e w' => e = Z (I x) ∧ w' = w := by
 have hl := run_call_load (P := prog) func145 (by kernel_rfl) (by kernel_rfl) (by kernel_rfl) .i64 (by kernel_rfl) hc
 go_enter func87, ntmps87
 go_wp2
 go_ret
 exact ⟨rfl, rfl⟩
theorem Dh (a : Addr) (x y s : Int) (hs : IntKind.i64.wrap (x + y) = s) (w : World) (hc : w.cell? a = I x) (hz : w.frozen? a = false) : Y 89 #[.pointer (some a), I y] w fun e w' => e = Z (I s) ∧ w' = w.setCell a (I s) := by
 have hadd := run_call_add (P := prog) func147 (by kernel_rfl) (by kernel_rfl) (by kernel_rfl) .i64 (by kernel_rfl) (y := y) (s := s) hc hz (by rw [← hs]; simp [go_sem])
 go_enter func89, ntmps89
 go_wp2
 go_ret
 exact ⟨rfl, rfl⟩
theorem EM {α : Type} (f : α → List Value) (size : Nat) (hf : ∀ x, (f x).length = size) : ∀ l : List α, (l.flatMap f).length = l.length * size
 | [] => by simp
 | x :: l => by rw [List.flatMap_cons, List.length_append, hf, EM f size hf l, List.length_cons, Nat.add_mul]; omega
theorem Gt {α : Type} (f : α → List Value) (size : Nat) (hf : ∀ x, (f x).length = size) : ∀ (l : List α) (j : Nat) (y : α) (k : Nat), ¬ (j * size ≤ k ∧ k < j * size + size) → ((l.set j y).flatMap f)[k]? = (l.flatMap f)[k]?
 | [], j, y, k, _ => by simp
 | x :: l, 0, y, k, h => by
   rw [List.set_cons_zero, List.flatMap_cons, List.flatMap_cons, List.getElem?_append_right (by rw [hf]; omega), List.getElem?_append_right (by rw [hf]; omega), hf, hf]
 | x :: l, j + 1, y, k, h => by
   rw [List.set_cons_succ, List.flatMap_cons, List.flatMap_cons]
   by_cases hk : k < size
   · rw [List.getElem?_append_left (by rw [hf]; exact hk), List.getElem?_append_left (by rw [hf]; exact hk)]
   · rw [List.getElem?_append_right (by rw [hf]; omega), List.getElem?_append_right (by rw [hf]; omega), hf]
     exact Gt f size hf l j y (k - size) (by rw [Nat.add_mul] at h; omega)
theorem AH.put_elem {α : Type} {f : α → List Value} {size : Nat} (hf : ∀ x, (f x).length = size) {w : World} {e : TypeId} {l : List α} {n g off AV : Nat} (h : AH w e size (.slice (some ⟨g, off, none⟩) n AV) n (l.flatMap f)) (hn : n = l.length) (j : Nat) (hj : j < l.length) (y : α) :
 AH (w.setCells g (off + j * size) (f y)) e size (.slice (some ⟨g, off, none⟩) n AV) n ((l.set j y).flatMap f) := by
 subst hn
 have hle : j * size + size ≤ l.length * size := by
  have := Nat.mul_le_mul_right size (show j + 1 ≤ l.length by omega)
  rw [Nat.add_mul] at this
  omega
 refine h.put (f y) (j * size) _ ?_ ?_ ?_ ?_
 · rw [EM f size hf, EM f size hf, List.length_set]
 · rw [hf, EM f size hf]; exact hle
 · intro k h1 h2
   rw [hf] at h2
   have := Eu f size hf (l.set j y) j y (by simp [hj]) (k - j * size) (by omega)
   rwa [show j * size + (k - j * size) = k by omega] at this
 · intro k hk
   rw [hf] at hk
   exact Gt f size hf l j y k hk
theorem AH.cut {w : World} {e size n : Nat} {xs : List Value} {g off AV : Nat} (h : AH w e size (.slice (some ⟨g, off, none⟩) n AV) n xs) (m : Nat) (hm : m ≤ n) (o : Nat) (vs : List Value) (ho : off + m * size ≤ o) (hl : o + vs.length ≤ off + AV * size) :
 AH (w.setCells g o vs) e size (.slice (some ⟨g, off, none⟩) m AV) m (xs.take (m * size)) := by
 have hmn : m * size ≤ n * size := Nat.mul_le_mul_right _ hm
 refine ⟨by rw [List.length_take, h.1]; omega, .inr ?_⟩
 rcases h.2 with ⟨hh, _⟩ | ⟨g', off', cap', cs, hv, hg, hn, hc, hx⟩
 · cases hh
 · cases hv
   refine ⟨g, off, AV, _, rfl, AT vs hg o _ rfl, by omega, by rw [FD]; exact hc, fun j u hu => ?_⟩
   have hj : j < m * size := by have := (List.getElem?_eq_some_iff.1 hu).1; rw [List.length_take] at this; omega
   rw [EZ _ _ _ _ (by omega), if_neg (by omega)]
   rw [List.getElem?_take_of_lt hj] at hu
   exact hx j u hu
theorem AH.at {w : World} {e size n : Nat} {xs : List Value} {g off AV : Nat} (h : AH w e size (.slice (some ⟨g, off, none⟩) n AV) n xs) : n ≤ AV ∧ ∃ cs, w.heap[g]? = some (.cells cs e (0, 0)) ∧ off + AV * size ≤ cs.size ∧ ∀ j u, xs[j]? = some u → cs[off + j]? = some u := by
 rcases h.2 with ⟨hh, _⟩ | ⟨g', off', cap', cs, hv, hg, hn, hc, hx⟩
 · cases hh
 · cases hv
   exact ⟨hn, cs, hg, hc, hx⟩
theorem DC {P : Program} {ops : Array Oper} {w : World} {Q : Act → Prop} {o : Oper} {rest : List Oper} {a : Act} (hg : o.guard = none) (f : FuncId) (args : Array Value) (hrun : (execOp a.eval o).run P w = .ok (.enter f args) w) (v : Value)
 (hc : Calls P f args w fun e w'' => e = Z v ∧ w'' = w) (h : wpStill P ops w Q rest (a.put o.dst v)) : wpStill P ops w Q (o :: rest) a := by
 have hw : Region.wanted o (yielded ops a.tmps) = true := by simp [Region.wanted, hg]
 unfold wpStill
 rw [if_pos hw]
 unfold Oper.still
 rw [hrun]
 exact ⟨rfl, v, hc, h⟩
theorem Jl (o : Int) (h0 : 0 ≤ o) (h1 : o ≤ 22) (w : World) : Y 208 #[I o] w fun e w' => e = Z (.bool true) ∧ w = w' := by
 go_enter func208, ntmps208
 go_wp2_with fail
 go_ret
 exact ⟨by simp [h0, h1], rfl⟩
theorem Ep (n : Int) (b : Bool) (h : n = 0 ∨ b = true ∧ 0 < n ∧ n < 8) (w : World) : Y 209 #[I n, b] w fun e w' => e = Z (.bool true) ∧ w = w' := by
 rcases h with rfl | ⟨rfl, h1, h2⟩
 · go_enter func209, ntmps209
   go_wp2_with fail
   go_ret
   exact ⟨by simp, rfl⟩
 · have h3 : (n == 0) = false := by simp; omega
   go_enter func209, ntmps209
   go_wp2_with fail
   go_ret
   exact ⟨by simp [h1, h2], rfl⟩
theorem wrap_u64 (x : Int) : IntKind.u64.wrap x = x % 18446744073709551616 := rfl
theorem Mm (n a : Int) (hn : n = 5) (h0 : 0 ≤ a) (h1 : a < 320) (h8 : a % 8 = 0) (w : World) : Y 396 #[I n, a] w fun e w' => e = Z (.tuple #[I (a / 64), I (a % 64 / 8), I 0]) ∧ w = w' := by
 subst hn
 go_enter func396, ntmps396
 go_wp2_with fail
 go_ret3
 exact ⟨rfl, rfl⟩
theorem Po (b n : Int) (w : World) : Y 397 #[b, I n] w fun e w' => e = Z (U ((b + n) % 18446744073709551616)) ∧ w = w' := by
 go_enter func397, ntmps397
 go_wp2_with fail
 go_ret
 exact ⟨by simp [wrap_u64], rfl⟩
theorem Ps (l : Int) (h : 0 ≤ l) (w : World) : Y 406 #[I 1, I l] w fun e w' => e = Z (I 0) ∧ w = w' := by
 have h1 : l % 1 = 0 := by omega
 go_enter func406, ntmps406
 go_wp2_with fail
 go_ret
 exact ⟨by simp, rfl⟩
theorem TO (w : World) : Y 325 #[I (-1)] w fun e w' => e = Z (.int .u8 0) ∧ w = w' := by
 go_enter func325, ntmps325
 go_wp2_with fail
 go_ret
 exact ⟨rfl, rfl⟩
theorem Me (n : Int) (v : Int) (h : n = 0 ∧ v = 1 ∨ n = 1 ∧ v = 2 ∨ n = 2 ∧ v = 4 ∨ n = 3 ∧ v = 8 ∨ n = 4 ∧ v = 16 ∨ n = 5 ∧ v = 32 ∨ n = 6 ∧ v = 64 ∨ n = 7 ∧ v = 128) (w : World) : Y 325 #[I n] w fun e w' => e = Z (.int .u8 v) ∧ w = w' := by
 rcases h with ⟨rfl, rfl⟩ | ⟨rfl, rfl⟩ | ⟨rfl, rfl⟩ | ⟨rfl, rfl⟩ | ⟨rfl, rfl⟩ | ⟨rfl, rfl⟩ | ⟨rfl, rfl⟩ | ⟨rfl, rfl⟩
 all_goals
  go_enter func325, ntmps325
  go_wp2_with fail
  go_ret
  exact ⟨rfl, rfl⟩
theorem Ke (m n : Int) (hm : m = 0 ∨ m = 1 ∨ m = 2 ∨ m = 3) (h0 : 0 ≤ n) (h1 : n < 8) (w : World) : Y 324 #[.int .u8 m, I n] w fun e w' => e = Z (.bool (n == 0 && m % 2 == 1 || n == 1 && decide (2 ≤ m))) ∧ w = w' := by
 have hb := Me
 have h : n = 0 ∨ n = 1 ∨ n = 2 ∨ n = 3 ∨ n = 4 ∨ n = 5 ∨ n = 6 ∨ n = 7 := by omega
 rcases h with rfl | rfl | rfl | rfl | rfl | rfl | rfl | rfl <;> rcases hm with rfl | rfl | rfl | rfl
 all_goals
  go_enter func324, ntmps324
  go_wp2_with fail
  first
   | refine (hb _ 1 (by decide) _).mono ?_
   | refine (hb _ 2 (by decide) _).mono ?_
   | refine (hb _ 4 (by decide) _).mono ?_
   | refine (hb _ 8 (by decide) _).mono ?_
   | refine (hb _ 16 (by decide) _).mono ?_
   | refine (hb _ 32 (by decide) _).mono ?_
   | refine (hb _ 64 (by decide) _).mono ?_
   | refine (hb _ 128 (by decide) _).mono ?_
  rintro e w1 ⟨rfl, rfl⟩
  go_wp2_with fail
  go_ret
  exact ⟨rfl, rfl⟩
def CQ (m : Int) (j : Nat) : List Int := (if 1 ≤ j ∧ m % 2 = 1 then [0] else []) ++ (if 2 ≤ j ∧ 2 ≤ m then [1] else [])
theorem Nj (m : Int) (j : Nat) : (CQ m j).length ≤ 2 := by unfold CQ; split <;> split <;> simp
theorem MW (m : Int) (j : Nat) : CQ m (j + 1) = CQ m j ++ (if ((j : Int) == 0 && m % 2 == 1 || (j : Int) == 1 && decide (2 ≤ m)) = true then [(j : Int)] else []) := by
 match j with
 | 0 => unfold CQ; by_cases h : m % 2 = 1 <;> simp [h]
 | 1 => unfold CQ; by_cases h : m % 2 = 1 <;> by_cases h2 : 2 ≤ m <;> simp [h, h2]
 | j + 2 =>
   have e0 : (((j + 2 : Nat) : Int) == 0) = false := by simp; omega
   have e1 : (((j + 2 : Nat) : Int) == 1) = false := by simp; omega
   unfold CQ
   rw [e0, e1]
   simp
theorem Is (m : Int) (hm : m = 0 ∨ m = 1 ∨ m = 2 ∨ m = 3) (w : World) : Y 415 #[.int .u8 m] w fun e w' => ∃ S, e = Z S ∧ AH w' 3 1 S (CQ m 8).length (Es (CQ m 8)) ∧ (∀ k, S.ownBlock = some k → w.heap.size ≤ k) ∧ Below w w w' := by
 have hh := Ke m
 go_enter func415, ntmps415
 go_wp2_with fail
 go_loopw [3, 4, 5] (fun s x i W => ∃ j : Nat, (j : Int) ≤ 8 ∧ i = I j ∧ AH W 3 1 s (CQ m j).length (Es (CQ m j)) ∧ (∀ k, s.ownBlock = some k → w.heap.size ≤ k) ∧ Below w w W) (fun s x i W => 8 - (intOf i).toNat)
 case atStart => exact ⟨0, by omega, rfl, by simpa [CQ, Es] using AH.nil w 3 1, by simp [Value.ownBlock], Below.refl _ _⟩
 case round =>
  obtain ⟨j, hj, rfl, hr, ho, hb⟩ := hrel
  have HR := Vw hr
  have HO := Vw ho
  have HB := Vw hb
  obtain ⟨A, AV, rfl⟩ := hr.form
  clear hr ho hb
  by_cases hlt : (j : Int) < 8
  · have hj0 : (0 : Int) ≤ (j : Int) := by omega
    have HS := Vw (MW m j)
    have hlen := Nj m j
    have HQ := Vw (show ∀ q : Bool, ((j : Int) == 0 && m % 2 == 1 || (j : Int) == 1 && decide (2 ≤ m)) = q → ((j : Int) == 0 && m % 2 == 1 || (j : Int) == 1 && decide (2 ≤ m)) = q from fun _ h => h)
    go_wp2_with fail
    refine (hh _ hm hj0 hlt _).mono ?_
    rintro e w1 ⟨rfl, rfl⟩
    generalize hq : ((j : Int) == 0 && m % 2 == 1 || (j : Int) == 1 && decide (2 ≤ m)) = q at HS ⊢
    clear HQ hq
    cases q
    · go_wp2_with fail
      refine ⟨⟨j + 1, by omega, by simp, ?_, HO.out, HB.out⟩, by simp [intOf]; omega⟩
      have := HS.out
      simp only [Bool.false_eq_true, if_false, List.append_nil] at this
      rw [this]
      exact HR.out
    · have HA := Vw (AC wr (.cells #[I j] 3))
      go_wp2_with (at_builtin; refine Ab rfl _ _ _ _ rfl Mu _ _ _ rfl (HR.out.below HA.out) _ 1 _ rfl (Src.one underlying156 (AE wr _) rfl (by simp [Value.oneCell'])) ?c1 ?c2 ?_)
      case c1 => omega
      case c2 => omega
      intro A2 cap2 w2 hr2 hg2 hm2
      have HF := Vw (WA hr2 (WA hg2 hm2))
      clear hr2 hg2 hm2
      go_wp2_with fail
      have hs := HS.out
      simp only [if_true] at hs
      refine ⟨⟨j + 1, by omega, by simp, ?_, ?_, ?_⟩, by simp [intOf]; omega⟩
      · rw [hs, List.length_append]
        simpa [Es] using HF.out.1
      · intro k hk
        rcases HF.out.2.2 with e | ⟨g, e, hg⟩
        · exact HO.out k (e ▸ hk)
        · rw [e] at hk
          cases hk
          exact Vx HB.out.size (Vx HA.out.size hg)
      · exact (HB.out.trans (HA.out.mono HB.out.size)).grown HF.out.2.1 (Vx HB.out.size HA.out.size) (fun k hk => HO.out k hk)
  · obtain rfl : j = 8 := by omega
    go_wp2_with fail
    go_ret
    exact ⟨_, rfl, HR.out, HO.out, HB.out⟩
end Go.Proofs.YtkoplblbeapfgaaGreatDoor
