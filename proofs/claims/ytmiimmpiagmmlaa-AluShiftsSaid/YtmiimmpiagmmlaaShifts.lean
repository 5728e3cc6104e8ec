/-
  AluShifts: for any word and any number of bits a shift by so many is that many shifts by one, a shift by 64 is none, And of a word with itself is it and Xor is 0, and the examples of wakes hold; the call returns true and its arguments read as before. No conditions.
-/
import Derived.Test.YtmiimmpiagmmlaaRows
import Derived.Test.YtmiimmpiagmmlaaPlain
import Derived.WalkKit
import Derived.ProofKit
import Derived.OpenShut
namespace Go.Proofs.Ytmiimmpiagmmlaa.aluShifts
open Go.ChangeShapes Go.WideShapes Go.ChangeAt Go.RowKit
set_option linter.unusedVariables false      -- a walk need not use every 'w<i>' (that an integer argument fits its kind)

theorem own : ownKnob Try.prog.godebug = none := by kernel_rfl

/-! ### STEP 1: THE WALK: the Go text returns true. 'Grown w w'': the world has at most new blocks (Derived/RowKit3.lean). Part the cases AHEAD of 'go_enter' where a test parts the walk; take each callee by a contract of your own. -/
set_option maxHeartbeats 1000000 in
set_option maxRecDepth 100000 in
theorem aluShifts_walk (a k : Int) (w : World) (ha : 0 ≤ a ∧ a < 18446744073709551616) (hk : 0 ≤ k ∧ k < 256) :
    Calls Try.prog 6 #[.int .u64 a, .int .u8 k] w fun e w' => e = .returned (.bool true) ∧ Mk w w' := by
  have hk0 := hk.1
  have hk1 := hk.2
  have b1 : (0:Int) ≤ 1 ∧ (1:Int) < 18446744073709551616 := by omega
  have b64 : (0:Int) ≤ 64 ∧ (64:Int) < 18446744073709551616 := by omega
  have hn0 : 0 ≤ k % 64 := by omega
  have hn1 : k % 64 < 64 := by omega
  have hn : 0 ≤ k % 64 ∧ k % 64 < 18446744073709551616 := by omega
  have hn64 : 0 ≤ k % 64 + 64 ∧ k % 64 + 64 < 18446744073709551616 := by omega
  have t1 := beq_iff_eq.2 (shl_all a (k % 64) ha hn0 hn1)
  have t2 := beq_iff_eq.2 (shr_all a (k % 64) ha hn0 hn1)
  have t3 := beq_iff_eq.2 (and_self a ha)
  have t4 := beq_iff_eq.2 (xor_self a ha)
  have t5 := beq_iff_eq.2 (shl_64 a ha)
  go_enter Try.func6, Try.ntmps6
  go_wp2_with fail
  go_loopw [6, 7, 8] (fun l r i W => ∃ j : Nat, (j : Int) ≤ k % 64 ∧ i = .int .u64 j ∧ l = .int .u64 (shls a j) ∧ r = .int .u64 (shrs a j) ∧ Mk w W) (fun _ _ i _ => (k % 64).toNat - (intOf i).toNat)
  case atStart => exact ⟨0, by omega, rfl, rfl, rfl, Mk.refl w⟩
  case round =>
    obtain ⟨j, hj, rfl, rfl, rfl, hmw⟩ := hrel
    by_cases hlt : (j : Int) < k % 64
    · go_wp2_with fail
      refine (do_any 6 _ _ _ (shls_range a ha j) b1).mono ?_
      rintro e w1 ⟨rfl, hm1⟩
      go_wp2_with fail
      refine (do_any 7 _ _ _ (shrs_range a ha j) b1).mono ?_
      rintro e w2 ⟨rfl, hm2⟩
      go_wp2_with fail
      go_roundw
      case rel => exact ⟨j + 1, by omega, by go_num, rfl, rfl, (hmw.trans hm1).trans hm2⟩
      case measure => simp [intOf]; omega
    · obtain rfl : j = (k % 64).toNat := by omega
      clear hj
      go_wp2_with fail
      refine (do_any 6 _ _ _ ha hn).mono ?_
      rintro e w1 ⟨rfl, hm1⟩
      go_wp2_with fail
      refine (do_any 7 _ _ _ ha hn64).mono ?_
      rintro e w2 ⟨rfl, hm2⟩
      go_wp2_with fail
      refine (do_any 4 _ _ _ ha ha).mono ?_
      rintro e w3 ⟨rfl, hm3⟩
      go_wp2_with fail
      refine (do_any 5 _ _ _ ha ha).mono ?_
      rintro e w4 ⟨rfl, hm4⟩
      go_wp2_with fail
      refine (do_any 6 _ _ _ ha b64).mono ?_
      rintro e w5 ⟨rfl, hm5⟩
      go_wp2_with fail
      refine (wakes_any _).mono ?_
      rintro e w6 ⟨rfl, hm6⟩
      go_wp2_with fail
      go_ret
      exact ⟨rfl, (((((hmw.trans hm1).trans hm2).trans hm3).trans hm4).trans hm5).trans hm6⟩
theorem walk (a0 : Int) (a1 : Int) (w0 : (Lit.int .u64 a0).wf = true) (w1 : (Lit.int .u8 a1).wf = true) (w : World) :
    Calls Try.prog 6 #[.int .u64 a0, .int .u8 a1] w fun e w' => e = .returned (.bool true) ∧ Grown w w' :=
  by
  have h0 := bounds_u64 w0
  have h1 := bounds_u8 w1
  exact (aluShifts_walk a0 a1 w (by omega) (by omega)).mono fun _ _ ⟨he, hm⟩ => ⟨he, hm.grown⟩

/-! ### THE ROW's STEP: WRITTEN OUT: LEAVE IT -/
set_option maxRecDepth 100000 in
theorem lifted (os : Os) (started : os.Started) (H : Type) (enc : TypeId × Value → H) :
    ReturnsInHanded {} Try.checked os 6 .any (Rows.aluShiftsSpec.pre6 enc Try.prog Try.f6 Rows.aluShiftsRow.domain false) (Rows.aluShiftsSpec.post enc Try.prog Try.f6 false true false false) := by
  refine returnsInHanded_of_change (C := Try.checked) own started (by kernel_rfl) Try.func6
    (ChangeSpec.witness6 (enc := enc) (C := Try.checked) false ⟨#[], #[.int .u64 0, .int .u8 0], []⟩ 8 (by kernel_rfl) (by kernel_rfl) (by kernel_rfl) (by kernel_rfl)) ?_
  intro W base args ds gs before hval0 hW hcnd _
  have hval : ∀ (j : Nat) t v, Try.f6.params[j]? = some t → args[j]? = some v → Value.okWide Try.prog W .any base t v := hval0
  have hW' := hW
  obtain ⟨p, q, hA0, hV, rfl, hfz, hnd⟩ := hW
  have hA : DataW.TrodAll enc Try.prog W 0 (fun _ => true) true Try.f6.params.toList args.toList ds p := hA0
  rw [Try.params6] at hA hval
  obtain ⟨v0, vs0, d0, ds0, p0, q0, hargs, rfl, rfl, h0, r0⟩ := trodAll_cons hA
  obtain ⟨v1, vs1, d1, ds1, p1, q1, rfl, rfl, rfl, h1, r1⟩ := trodAll_cons r0
  obtain ⟨rfl, rfl, rfl⟩ := trodAll_nil r1
  obtain rfl : args = #[v0, v1] := by cases args; simp_all
  obtain ⟨rfl, rfl⟩ := trodVars_none hV
  obtain ⟨a0, rfl, rfl, rfl, w0⟩ := open_int Try.underlying22 (hval 0 22 v0 rfl rfl) h0
  obtain ⟨a1, rfl, rfl, rfl, w1⟩ := open_int Try.underlying5 (hval 1 5 v1 rfl rfl) h1
  clear hA0 hval0
  simp only [List.append_nil] at hW'
  refine (walk a0 a1 w0 w1 W).mono fun e W' ⟨he, hg⟩ => ?_
  subst he
  exact ⟨_, rfl, post_of_same (pa := []) (pv := []) hW' (fun _ _ _ => (trodAll_cons_mk (shut_bool Try.underlying4 _) trodAll_mk0)) (fun sp _ => (trodAll_cons_mk (shut_int Try.underlying22 w0) (trodAll_cons_mk (shut_int Try.underlying5 w1) trodAll_mk0))) (fun _ _ => rfl) rfl
    (hg.frame _) hg.2.1 (ok_one (by kernel_rfl) rfl (okWide_bool_mk Try.underlying4 _))⟩

theorem over : Rows.aluShiftsRow.holds Try.pinned (OpenSpec.ofChange Rows.aluShiftsSpec) :=
  OpenClaim.holds_of_wide 6 Try.f6 rfl rfl rfl rfl rfl rfl rfl ⟨rfl, rfl, rfl, rfl, rfl⟩ rfl rfl rfl rfl rfl (by kernel_rfl) Try.func6 (by kernel_rfl)
    (of_decide_eq_true (by kernel_rfl)) (by unfold Func.isWrapper; first | (rw [if_pos (by decide +kernel)]; kernel_rfl) | (rw [if_neg (by decide +kernel)]; exact ⟨rfl, rfl⟩))
    (fun os started H enc _ => lifted os started H enc)

/-- ████ THE STATEMENT ████ -/
theorem proved : Rows.AluShiftsSaid :=
  over
#print axioms proved
end Go.Proofs.Ytmiimmpiagmmlaa.aluShifts
