/-
  AluDoes: for every operation, any two words and any number alu.Do and alu.Sum answer as the reference does, and the examples of wakes hold; the call returns true and its arguments read as before. No conditions.
-/
import Derived.Test.YtmiimmpiagmmlaaRows
import Derived.Test.YtmiimmpiagmmlaaRef
import Derived.Deep.QuietTactic
import Derived.BigQuiet
import Derived.StillTailTactics
import Derived.WalkKit
import Derived.ProofKit
import Derived.OpenShut
namespace Go.Proofs.Ytmiimmpiagmmlaa.aluDoes
open Go.ChangeShapes Go.WideShapes Go.ChangeAt Go.RowKit
set_option linter.unusedVariables false      -- a walk need not use every 'w<i>' (that an integer argument fits its kind)

theorem list2 {α : Type} (l : List α) (h : l.length = 2) : ∃ a b, l = [a, b] := by
  match l, h with
  | [a, b], _ => exact ⟨a, b, rfl⟩
theorem cells23 : Try.prog.cellsOf 23 = 2 := by kernel_rfl
theorem cells22 : Try.prog.cellsOf 22 = 1 := by kernel_rfl
theorem own : ownKnob Try.prog.godebug = none := by kernel_rfl

/-! ### STEP 1: THE WALK: the Go text returns true. 'Grown w w'': the world has at most new blocks (Derived/RowKit3.lean). Part the cases AHEAD of 'go_enter' where a test parts the walk; take each callee by a contract of your own. -/
theorem region_tail {P : Program} {id : Nat} {Q : Exit → Act → World → Prop} {a : Act} {w : World} {l : List Oper} (n : Nat) (hm : P.follows .mixedOrders = true) (hB : Region.lexTailB .any l.toArray n = true)
    (h : ∀ W : World, W = w.drew → wpStill P l.toArray W (fun a' => wpList P l.toArray Q (l.drop n) a' W) (l.take n) a) : (Code.region id l.toArray true).wp P Q a w :=
  wp_region_still_tail n hm hB (h _ rfl)
set_option maxHeartbeats 400000 in
theorem aluDoes_walk (op a b i : Int) (w : World) (ha : 0 ≤ a ∧ a < 18446744073709551616) (hb : 0 ≤ b ∧ b < 18446744073709551616) : Calls Try.prog 3 #[.int .i64 op, .agg #[.int .u64 a, .int .u64 b], .int .i64 i] w fun e w' => e = .returned (.bool true) ∧ Mk w w' := by
  have hsv := sum_any a i
  have hs : IntKind.u64.wrap (a + IntKind.u64.wrap i) = sumV a i := rfl
  have HS := (show Hid _ from hs); clear hs
  go_enter Try.func3, Try.ntmps3
  go_wp2_with fail
  refine (do_any _ _ _ _ ha hb).mono ?_
  rintro e w1 ⟨rfl, hm1⟩
  have c0 : w1.cell? ⟨w.heap.size, 0, none⟩ = some (.int .u64 a) := by rw [hm1.1.cell (by simp)]; simp
  have c1 : w1.cell? ⟨w.heap.size, 1, none⟩ = some (.int .u64 b) := by rw [hm1.1.cell (by simp)]; simp
  go_wp2_with fail
  refine (refdo_any _ _ _ _ ha hb).mono ?_
  rintro e w2 ⟨rfl, hm2⟩
  have hlt : w.heap.size < w1.heap.size := by have := hm1.1.size; simp at this; omega
  have d0 : w2.cell? ⟨w.heap.size, 0, none⟩ = some (.int .u64 a) := by rw [hm2.1.cell hlt]; exact c0
  have d1 : w2.cell? ⟨w.heap.size, 1, none⟩ = some (.int .u64 b) := by rw [hm2.1.cell hlt]; exact c1
  have hlt2 : w.heap.size < w2.heap.size := Nat.lt_of_lt_of_le hlt hm2.1.size
  clear c0 c1
  go_wp2_with fail
  refine region_tail 23 (by kernel_rfl) (by kernel_rfl) ?_
  intro W hW
  have e0 : W.cell? ⟨w.heap.size, 0, none⟩ = some (.int .u64 a) := by rw [hW, World.cell?_drew, World.cell?_alloc_lt _ _ _ hlt2]; exact d0
  have f0 : W.cell? ⟨w2.heap.size, 0, none⟩ = some (.int .u64 (doV op a b)) := by rw [hW, World.cell?_drew]; simp
  have f1 : W.cell? ⟨w2.heap.size, 1, none⟩ = some (.bool (doOk op)) := by rw [hW, World.cell?_drew]; simp
  have hmW : Mk w W := by rw [hW]; exact (((((Mk.refl w).alloc _ _).trans hm1).trans hm2).alloc _ _).drew
  clear hW d0 d1 hlt hlt2
  simp only [List.take_succ_cons, List.take_zero, List.drop_succ_cons, List.drop_zero]
  repeat still_step
  still_call ((sum_any _ _ _).mono fun _ _ ⟨he, hw⟩ => ⟨he, hw.symm⟩)
  repeat still_step
  refine wpStill_nil ?_
  go_wp2_with fail
  refine (wakes_any _).mono ?_
  rintro e w4 ⟨rfl, hm4⟩
  go_wp2_with fail
  go_ret
  exact ⟨rfl, hmW.trans hm4⟩

/-! ### THE ROW's STEP: WRITTEN OUT: LEAVE IT -/
set_option maxRecDepth 100000 in
theorem lifted (os : Os) (started : os.Started) (H : Type) (enc : TypeId × Value → H) :
    ReturnsInHanded {} Try.checked os 3 .any (Rows.aluDoesSpec.pre6 enc Try.prog Try.f3 Rows.aluDoesRow.domain false) (Rows.aluDoesSpec.post enc Try.prog Try.f3 false true false false) := by
  refine returnsInHanded_of_change (C := Try.checked) own started (by kernel_rfl) Try.func3
    (ChangeSpec.witness6 (enc := enc) (C := Try.checked) false ⟨#[], #[.int .i64 0, .agg #[.int .u64 0, .int .u64 0], .int .i64 0], []⟩ 8 (by kernel_rfl) (by kernel_rfl) (by kernel_rfl) (by kernel_rfl)) ?_
  intro W base args ds gs before hval0 hW hcnd _
  have hval : ∀ (j : Nat) t v, Try.f3.params[j]? = some t → args[j]? = some v → Value.okWide Try.prog W .any base t v := hval0
  have hW' := hW
  obtain ⟨p, q, hA0, hV, rfl, hfz, hnd⟩ := hW
  have hA : DataW.TrodAll enc Try.prog W 0 (fun _ => true) true Try.f3.params.toList args.toList ds p := hA0
  rw [Try.params3] at hA hval
  obtain ⟨v0, vs0, d0, ds0, p0, q0, hargs, rfl, rfl, h0, r0⟩ := trodAll_cons hA
  obtain ⟨v1, vs1, d1, ds1, p1, q1, rfl, rfl, rfl, h1, r1⟩ := trodAll_cons r0
  obtain ⟨v2, vs2, d2, ds2, p2, q2, rfl, rfl, rfl, h2, r2⟩ := trodAll_cons r1
  obtain ⟨rfl, rfl, rfl⟩ := trodAll_nil r2
  obtain rfl : args = #[v0, v1, v2] := by cases args; simp_all
  obtain ⟨rfl, rfl⟩ := trodVars_none hV
  obtain ⟨a0, rfl, rfl, rfl, w0⟩ := open_int Try.underlying3 (hval 0 3 v0 rfl rfl) h0
  obtain ⟨a2, rfl, rfl, rfl, w2⟩ := open_int Try.underlying2 (hval 2 2 v2 rfl rfl) h2
  obtain ⟨cs, rfl, hsz, _⟩ : ∃ cs, v1 = .agg cs ∧ cs.size = Try.prog.cellsOf 23 ∧ Row.okWide Try.prog W .any base 23 cs := by
    have := hval 1 23 v1 rfl rfl
    simpa [Value.okWide, Try.underlying23] using this
  rw [cells23] at hsz
  obtain ⟨l⟩ := cs
  obtain ⟨c0, c1, rfl⟩ := list2 l hsz
  obtain ⟨fuel, hf⟩ := h1
  obtain ⟨xs, m, rfl, hx, _, hlen, hel⟩ := DataW.trod_array Try.underlying23 hf
  rw [cells22] at hel
  obtain ⟨y0, y1, rfl⟩ := list2 xs hlen
  obtain ⟨x0, e0, rfl, k0⟩ := DataW.trod_int Try.underlying22 (hel 0 (by omega))
  obtain ⟨x1, e1, rfl, k1⟩ := DataW.trod_int Try.underlying22 (hel 1 (by omega))
  simp [Value.cells] at e0 e1
  subst e0 e1
  simp only [Prod.mk.injEq] at hx
  obtain ⟨rfl, rfl⟩ := hx
  clear hA0 hval0
  simp only [List.append_nil, List.map_cons, List.map_nil, List.flatMap_cons, List.flatMap_nil] at hW'
  refine (aluDoes_walk a0 x0 x1 a2 W (by have := bounds_u64 k0; omega) (by have := bounds_u64 k1; omega)).mono fun e W' ⟨he, hm⟩ => ?_
  subst he
  have hg := hm.grown
  have rd : ∀ sp : Nat → Bool, DataW.Trod enc Try.prog W' 0 sp true 23 (.agg #[.int .u64 x0, .int .u64 x1]) (DataW.agg [.lit (.int .u64 x0), .lit (.int .u64 x1)]) [] := fun sp =>
    ⟨2, by simp [DataW.trod, Value.cells, Try.underlying23, Try.underlying22, cells23, cells22, k0, k1, List.range_succ]⟩
  exact ⟨_, rfl, post_of_same (pa := []) (pv := []) hW' (fun _ _ _ => (trodAll_cons_mk (shut_bool Try.underlying4 _) trodAll_mk0)) (fun sp _ => (trodAll_cons_mk (shut_int Try.underlying3 w0) (trodAll_cons_mk (rd sp) (trodAll_cons_mk (shut_int Try.underlying2 w2) trodAll_mk0)))) (fun _ _ => rfl) rfl
    (hg.frame _) hg.2.1 (ok_one (by kernel_rfl) rfl (okWide_bool_mk Try.underlying4 _))⟩

theorem over : Rows.aluDoesRow.holds Try.pinned (OpenSpec.ofChange Rows.aluDoesSpec) :=
  OpenClaim.holds_of_wide 3 Try.f3 rfl rfl rfl rfl rfl rfl rfl ⟨rfl, rfl, rfl, rfl, rfl⟩ rfl rfl rfl rfl rfl (by kernel_rfl) Try.func3 (by kernel_rfl)
    (of_decide_eq_true (by kernel_rfl)) (by unfold Func.isWrapper; first | (rw [if_pos (by decide +kernel)]; kernel_rfl) | (rw [if_neg (by decide +kernel)]; exact ⟨rfl, rfl⟩))
    (fun os started H enc _ => lifted os started H enc)

/-- ████ THE STATEMENT ████ -/
theorem proved : Rows.AluDoesSaid :=
  over
#print axioms proved
end Go.Proofs.Ytmiimmpiagmmlaa.aluDoes
