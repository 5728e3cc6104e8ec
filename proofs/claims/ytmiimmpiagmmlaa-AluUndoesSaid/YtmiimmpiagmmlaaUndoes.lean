/-
  AluUndoes: for any two words and any number of bits Sub undoes Add, Xor undoes Xor, a shift to the right and back loses the lowest bits alone, of Beq and Bne one goes, and the examples of wakes hold; the call returns true and its arguments read as before. No conditions.
-/
import Derived.Test.YtmiimmpiagmmlaaRows
import Derived.Test.YtmiimmpiagmmlaaPlain
import Derived.WalkKit
import Derived.ProofKit
import Derived.OpenShut
namespace Go.Proofs.Ytmiimmpiagmmlaa.aluUndoes
open Go.ChangeShapes Go.WideShapes Go.ChangeAt Go.RowKit
set_option linter.unusedVariables false      -- a walk need not use every 'w<i>' (that an integer argument fits its kind)

theorem own : ownKnob Try.prog.godebug = none := by kernel_rfl

/-! ### STEP 1: THE WALK: the Go text returns true. 'Grown w w'': the world has at most new blocks (Derived/RowKit3.lean). Part the cases AHEAD of 'go_enter' where a test parts the walk; take each callee by a contract of your own. -/
set_option maxHeartbeats 1000000 in
set_option maxRecDepth 100000 in
theorem aluUndoes_walk (a b k : Int) (w : World) (ha : 0 ≤ a ∧ a < 18446744073709551616) (hb : 0 ≤ b ∧ b < 18446744073709551616) (hk : 0 ≤ k ∧ k < 256)
    (z1 z2 z3 z4 : Bool) (g1 : goV 18 a b = z1) (g2 : goV 19 a b = z2) (g3 : goV 20 a b = z3) (g4 : goV 20 b a = z4) (hz : (z1 != z2 && (z1 == (!z3 && !z4)) && !(z3 && z4)) = true) :
    Calls Try.prog 5 #[.int .u64 a, .int .u64 b, .int .u8 k] w fun e w' => e = .returned (.bool true) ∧ Mk w w' := by
  have hk' : 0 ≤ k ∧ k < 18446744073709551616 := by omega
  have r2 := doV_range 2 a b ha
  have r5 := doV_range 5 a b ha
  have r7 := doV_range 7 a k ha
  have t1 := beq_iff_eq.2 (add_sub a b ha)
  have t2 := beq_iff_eq.2 (xor_xor a b ha hb)
  have t3 := beq_iff_eq.2 (shr_shl a k)
  have hk0 := hk.1
  have hk1 := hk.2
  go_enter Try.func5, Try.ntmps5
  go_wp2_with fail
  refine (do_any 2 _ _ _ ha hb).mono ?_
  rintro e w1 ⟨rfl, hm1⟩
  go_wp2_with fail
  refine (do_any 3 _ _ _ r2 hb).mono ?_
  rintro e w2 ⟨rfl, hm2⟩
  go_wp2_with fail
  refine (do_any 5 _ _ _ ha hb).mono ?_
  rintro e w3 ⟨rfl, hm3⟩
  go_wp2_with fail
  refine (do_any 5 _ _ _ r5 hb).mono ?_
  rintro e w4 ⟨rfl, hm4⟩
  go_wp2_with fail
  refine (do_any 7 _ _ _ ha hk').mono ?_
  rintro e w5 ⟨rfl, hm5⟩
  go_wp2_with fail
  refine (do_any 6 _ _ _ r7 hk').mono ?_
  rintro e w6 ⟨rfl, hm6⟩
  go_wp2_with fail
  refine (goes_any 18 _ _ _).mono ?_
  rintro e w7 ⟨rfl, rfl⟩
  go_wp2_with fail
  refine (goes_any 19 _ _ _).mono ?_
  rintro e w7 ⟨rfl, rfl⟩
  go_wp2_with fail
  refine (goes_any 20 _ _ _).mono ?_
  rintro e w7 ⟨rfl, rfl⟩
  go_wp2_with fail
  refine (goes_any 20 _ _ _).mono ?_
  rintro e w7 ⟨rfl, rfl⟩
  have hm := ((((hm1.trans hm2).trans hm3).trans hm4).trans hm5).trans hm6
  clear hm1 hm2 hm3 hm4 hm5 r2 r5 r7
  cases z1 <;> cases z2 <;> cases z3 <;> cases z4 <;> (try (exact absurd hz (by decide))) <;> clear hz
  all_goals
    go_wp2_with fail
    refine (wakes_any _).mono ?_
    rintro e w8 ⟨rfl, hm8⟩
    go_wp2_with fail
    go_ret
    exact ⟨rfl, hm.trans hm8⟩
theorem walk (a0 : Int) (a1 : Int) (a2 : Int) (w0 : (Lit.int .u64 a0).wf = true) (w1 : (Lit.int .u64 a1).wf = true) (w2 : (Lit.int .u8 a2).wf = true) (w : World) :
    Calls Try.prog 5 #[.int .u64 a0, .int .u64 a1, .int .u8 a2] w fun e w' => e = .returned (.bool true) ∧ Grown w w' :=
  by
  have h0 := bounds_u64 w0
  have h1 := bounds_u64 w1
  have h2 := bounds_u8 w2
  refine (aluUndoes_walk a0 a1 a2 w (by omega) (by omega) (by omega) _ _ _ _ rfl rfl rfl rfl ?_).mono fun _ _ ⟨he, hm⟩ => ⟨he, hm.grown⟩
  simp only [goV_18, goV_19, goV_20]
  rcases Int.lt_trichotomy a0 a1 with h | h | h
  · have e1 : (a0 == a1) = false := by simpa using (by omega : ¬ a0 = a1)
    have e3 : decide (a0 < a1) = true := by simpa using h
    have e4 : decide (a1 < a0) = false := by simpa using (by omega : a0 ≤ a1)
    simp [bne, e1, e3, e4]
  · subst h
    simp
  · have e1 : (a0 == a1) = false := by simpa using (by omega : ¬ a0 = a1)
    have e3 : decide (a0 < a1) = false := by simpa using (by omega : a1 ≤ a0)
    have e4 : decide (a1 < a0) = true := by simpa using h
    simp [bne, e1, e3, e4]

/-! ### THE ROW's STEP: WRITTEN OUT: LEAVE IT -/
set_option maxRecDepth 100000 in
theorem lifted (os : Os) (started : os.Started) (H : Type) (enc : TypeId × Value → H) :
    ReturnsInHanded {} Try.checked os 5 .any (Rows.aluUndoesSpec.pre6 enc Try.prog Try.f5 Rows.aluUndoesRow.domain false) (Rows.aluUndoesSpec.post enc Try.prog Try.f5 false true false false) := by
  refine returnsInHanded_of_change (C := Try.checked) own started (by kernel_rfl) Try.func5
    (ChangeSpec.witness6 (enc := enc) (C := Try.checked) false ⟨#[], #[.int .u64 0, .int .u64 0, .int .u8 0], []⟩ 8 (by kernel_rfl) (by kernel_rfl) (by kernel_rfl) (by kernel_rfl)) ?_
  intro W base args ds gs before hval0 hW hcnd _
  have hval : ∀ (j : Nat) t v, Try.f5.params[j]? = some t → args[j]? = some v → Value.okWide Try.prog W .any base t v := hval0
  have hW' := hW
  obtain ⟨p, q, hA0, hV, rfl, hfz, hnd⟩ := hW
  have hA : DataW.TrodAll enc Try.prog W 0 (fun _ => true) true Try.f5.params.toList args.toList ds p := hA0
  rw [Try.params5] at hA hval
  obtain ⟨v0, vs0, d0, ds0, p0, q0, hargs, rfl, rfl, h0, r0⟩ := trodAll_cons hA
  obtain ⟨v1, vs1, d1, ds1, p1, q1, rfl, rfl, rfl, h1, r1⟩ := trodAll_cons r0
  obtain ⟨v2, vs2, d2, ds2, p2, q2, rfl, rfl, rfl, h2, r2⟩ := trodAll_cons r1
  obtain ⟨rfl, rfl, rfl⟩ := trodAll_nil r2
  obtain rfl : args = #[v0, v1, v2] := by cases args; simp_all
  obtain ⟨rfl, rfl⟩ := trodVars_none hV
  obtain ⟨a0, rfl, rfl, rfl, w0⟩ := open_int Try.underlying22 (hval 0 22 v0 rfl rfl) h0
  obtain ⟨a1, rfl, rfl, rfl, w1⟩ := open_int Try.underlying22 (hval 1 22 v1 rfl rfl) h1
  obtain ⟨a2, rfl, rfl, rfl, w2⟩ := open_int Try.underlying5 (hval 2 5 v2 rfl rfl) h2
  clear hA0 hval0
  simp only [List.append_nil] at hW'
  refine (walk a0 a1 a2 w0 w1 w2 W).mono fun e W' ⟨he, hg⟩ => ?_
  subst he
  exact ⟨_, rfl, post_of_same (pa := []) (pv := []) hW' (fun _ _ _ => (trodAll_cons_mk (shut_bool Try.underlying4 _) trodAll_mk0)) (fun sp _ => (trodAll_cons_mk (shut_int Try.underlying22 w0) (trodAll_cons_mk (shut_int Try.underlying22 w1) (trodAll_cons_mk (shut_int Try.underlying5 w2) trodAll_mk0)))) (fun _ _ => rfl) rfl
    (hg.frame _) hg.2.1 (ok_one (by kernel_rfl) rfl (okWide_bool_mk Try.underlying4 _))⟩

theorem over : Rows.aluUndoesRow.holds Try.pinned (OpenSpec.ofChange Rows.aluUndoesSpec) :=
  OpenClaim.holds_of_wide 5 Try.f5 rfl rfl rfl rfl rfl rfl rfl ⟨rfl, rfl, rfl, rfl, rfl⟩ rfl rfl rfl rfl rfl (by kernel_rfl) Try.func5 (by kernel_rfl)
    (of_decide_eq_true (by kernel_rfl)) (by unfold Func.isWrapper; first | (rw [if_pos (by decide +kernel)]; kernel_rfl) | (rw [if_neg (by decide +kernel)]; exact ⟨rfl, rfl⟩))
    (fun os started H enc _ => lifted os started H enc)

/-- ████ THE STATEMENT ████ -/
theorem proved : Rows.AluUndoesSaid :=
  over
#print axioms proved
end Go.Proofs.Ytmiimmpiagmmlaa.aluUndoes
