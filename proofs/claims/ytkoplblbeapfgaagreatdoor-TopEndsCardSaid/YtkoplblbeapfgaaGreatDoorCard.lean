/-
TopEnds returns true whatever its three bytes are, its arguments read as before (the tied card). No condition.
-/
import Derived.Test.YtkoplblbeapfgaaGreatDoorX38
import Derived.Test.YtkoplblbeapfgaaGreatDoorX43
import Derived.Test.YtkoplblbeapfgaaGreatDoorX44
namespace Go.Proofs.YtkoplblbeapfgaaGreatDoor
open Go.ChangeShapes Go.WideShapes Go.ChangeAt Go.RowKit
open Go.Proofs.Tryz
set_option linter.all false
set_option maxRecDepth 100000
set_option maxHeartbeats 8000000
section
variable {H : Type} {enc : TypeId × Value → H} {P : Program}
theorem Kh {W W' : World} (hl : laidOutB P = true) (hb : Below W W W') : ∀ {ts : List TypeId} {vs : List Value} {ds : List (DataW H)} {ps : List MemPlace},
 (∀ t ∈ ts, P.readableRec t = true ∧ t < P.types.size) → (∀ x ∈ ps, x.block < W.heap.size) → DataW.TrodAll enc P W 0 (fun _ => true) true ts vs ds ps →
 DataW.TrodAll enc P W' 0 (fun b => decide (b < W.heap.size)) true ts vs ds ps
 | [], [], [], _, _, _, h => h
 | t :: ts, v :: vs, d :: ds, ps, hr, hlt, h => by
   obtain ⟨p, q, h1, h2, rfl⟩ := h
   obtain ⟨hr1, hr2⟩ := hr t (List.mem_cons_self ..)
   exact ⟨p, q, Below.trod hl hr1 hr2 h1 hb (fun x hx => hlt x (List.mem_append.2 (.inl hx))), Kh hl hb (fun t' ht' => hr t' (List.mem_cons_of_mem _ ht')) (fun x hx => hlt x (List.mem_append.2 (.inr hx))) h2, rfl⟩
 | [], [], _ :: _, _, _, _, h => h.elim
 | [], _ :: _, _, _, _, _, h => h.elim
 | _ :: _, [], _, _, _, _, h => h.elim
 | _ :: _, _ :: _, [], _, _, _, h => h.elim
theorem Rb {f : Func} {s : ChangeSpec} {W W' : World} {args : Array Value} {ds : List (DataW H)} {before : List MemPlace} {tb : TypeId}
 (hW : DataW.Whole enc P f.params.toList s.vars false W args.toList ds [] before) (hv : s.vars = [])
 (hl : laidOutB P = true) (hr : ∀ t ∈ f.params.toList, P.readableRec t = true ∧ t < P.types.size)
 (hs1 : (s.fn H (ds ++ [])).results = [.lit (.bool true)]) (hs2 : (s.fn H (ds ++ [])).args = ds) (hs3 : (s.fn H (ds ++ [])).vars = [])
 (hrt : f.resultTypes = #[tb]) (hbool : P.underlying tb = some .bool) (hb : Below W W W') :
 s.post enc P f false true false false W args (.bool true) W' := by
 have hlt := hW.lt
 obtain ⟨p, q, hA, hV, hpq, hfz, hnd⟩ := hW
 rw [hv] at hV
 obtain ⟨_, rfl⟩ := trodVars_none hV
 rw [List.append_nil] at hpq
 subst hpq
 refine ⟨ds, [], before, [], before, [], ⟨before, [], hA, ?_, by simp, hfz, hnd⟩, ?_, ?_, ?_, hb.frame _, fun h => by cases h⟩
 · rw [hv]; rfl
 · rw [hs1, hrt]
   exact trodAll_mk1 (shut_bool hbool true)
 · rw [hs2]
   exact Kh hl hb hr hlt hA
 · rw [hs3, hv]; rfl
end
theorem own : ownKnob prog.godebug = none := by kernel_rfl
theorem Sx : laidOutB prog = true := by kernel_rfl
def Gu : List (String × DataW Unit) := [("math/bits.deBruijn32tab", Rows.laid_math_bits_deBruijn32tab), ("math/bits.deBruijn64tab", Rows.laid_math_bits_deBruijn64tab), ("internal/strconv.uint64pow10", Rows.laid_internal_strconv_uint64pow10), ("strconv.ErrRange", Rows.laid_strconv_ErrRange), ("strconv.ErrSyntax", Rows.laid_strconv_ErrSyntax)]
theorem Ry (os : Os) (args : Array Value) : laidMetH prog Gu ((World.doorLaid prog 400 os).forCall (fun _ _ => 0) ⟨#[], args, []⟩).memory :=
 laidMetH_of_parts3 (fuel := 8) (laidMet_of_run' 8 (by kernel_rfl) (by kernel_rfl)) (by kernel_rfl) (by kernel_rfl)
theorem OJ {a : Int} (h : (Lit.int .u8 a).wf = true) : 0 ≤ a ∧ a < 256 := by
 simp [Lit.wf, IntKind.min, IntKind.max, IntKind.signed, IntKind.bits] at h
 omega
theorem KI (hwk : ∀ w, Y 15 #[] w fun e w' => e = Z (.bool true) ∧ Below w.heap.size w w') (os : Os) (started : os.Started) (H : Type) (enc : TypeId × Value → H) :
 ReturnsInHanded {} Tryz.checked os 3 .any (fun w args => (Rows.topEndsSpec.pre enc prog f3 [] false w args ∧ laidMetH prog Gu w) ∧ sizedMet enc prog f3 (OpenSpec.ofChange Rows.topEndsSpec) false w args)
  (Rows.topEndsSpec.post enc prog f3 false true false false) := by
 refine returnsInHanded_of_change_and (C := Tryz.checked) (X := fun w _ => laidMetH prog Gu w) (fun _ _ _ hh h => h.of_heap hh) own started (by kernel_rfl) func3
  (ChangeSpec.witness_shaped (enc := enc) (C := Tryz.checked) (os := os) (X := fun w _ => laidMetH prog Gu w) false (World.doorLaid prog 400 os) #[.int .u8 0, .int .u8 0, .int .u8 0] 8 rfl (World.shaped_of_RefB (by kernel_rfl) (by kernel_rfl)) (by kernel_rfl) (by kernel_rfl) (by kernel_rfl) (Ry os _)) ?_
 intro W base args ds gs before hval0 hW _ _ hL _
 have hval : ∀ (j : Nat) t v, f3.params[j]? = some t → args[j]? = some v → Value.okWide prog W .any base t v := hval0
 have hW' := hW
 obtain ⟨p, q, hA0, hV, rfl, hfz, hnd⟩ := hW
 have hA : DataW.TrodAll enc prog W 0 (fun _ => true) true f3.params.toList args.toList ds p := hA0
 rw [params3] at hA hval
 obtain ⟨v0, vs0, d0, ds0, p0, q0, hargs, rfl, rfl, h0, r0⟩ := trodAll_cons hA
 obtain ⟨v1, vs1, d1, ds1, p1, q1, rfl, rfl, rfl, h1, r1⟩ := trodAll_cons r0
 obtain ⟨v2, vs2, d2, ds2, p2, q2, rfl, rfl, rfl, h2, r2⟩ := trodAll_cons r1
 obtain ⟨rfl, rfl, rfl⟩ := trodAll_nil r2
 obtain rfl : args = #[v0, v1, v2] := by cases args; simp_all
 obtain ⟨rfl, rfl⟩ := trodVars_none hV
 obtain ⟨a0, rfl, rfl, rfl, w0⟩ := open_int underlying5 (hval 0 5 v0 rfl rfl) h0
 obtain ⟨a1, rfl, rfl, rfl, w1⟩ := open_int underlying5 (hval 1 5 v1 rfl rfl) h1
 obtain ⟨a2, rfl, rfl, rfl, w2⟩ := open_int underlying5 (hval 2 5 v2 rfl rfl) h2
 clear hA0 hval0
 refine (Pm a0 a1 a2 (OJ w0) (OJ w1) (OJ w2) hwk W).mono fun e W' ⟨he, hb⟩ => ?_
 subst he
 exact ⟨_, rfl, Rb hW' rfl Sx (by rw [params3]; intro t ht; simp at ht; subst ht; exact ⟨by kernel_rfl, of_decide_eq_true (by kernel_rfl)⟩) rfl rfl rfl (by kernel_rfl) underlying4 hb⟩
theorem Kk : Rows.TopEndsSaid :=
 OpenClaim.holds_of_wide 3 f3 rfl rfl rfl rfl rfl rfl rfl ⟨rfl, rfl, rfl, rfl, rfl⟩ rfl rfl rfl rfl rfl F_named func3 F_closed F_inst F_wrap
  (fun os started H enc _ => KI Ud os started H enc)
theorem topEnds_card : Rows.TopEndsCardSaid :=
 Claim7.holds_tied_plain_at .later [] [.data, .data, .data, .sentinel, .sentinel] true (true, "51961bff22c1e2dbb286b704246a9a17e9d9ca3f7d0ffe781897d9cf56711d89") true
  Kk (fun _ h => by cases h) F_text (fun _ h => by cases h) topEnds_row_tie rfl ⟨rfl, rfl⟩ F_main rfl
  (fun f fn hf hfn => by
   obtain rfl : f = 3 := Option.some.inj ((show prog.funcNamed "bellows/bellowstop.TopEnds" = some 3 from F_named).symm.trans hf) |>.symm
   obtain rfl : fn = f3 := (Option.some.inj (func3.symm.trans hfn)).symm
   exact ⟨F_looks, fun j t ht => by
    rw [params3] at ht
    have hm : t ∈ [5, 5, 5] := by simpa using Array.mem_of_getElem? ht
    exact (show prog.wantsStandIn t = false by simpa using List.all_eq_true.1 F_stand t hm)⟩)
  F_goes
end Go.Proofs.YtkoplblbeapfgaaGreatDoor
