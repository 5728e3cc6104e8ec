/-
  ScriptRounds: for every configuration script.Round answers as the reference does, and the examples of wakes hold; the call returns true and its argument reads as before. The table has is tied to the program text by the card.
-/
import Derived.Test.YtmiimmpiagmmlabDoorBridge
import Derived.Test.YtmiimmpiagmmlabDoorRoundsW
import Derived.Test.YtmiimmpiagmmlabDoorCards
import Derived.Test.YtmiimmpiagmmlabDoorTie
import Derived.SevenTiedAt
namespace Go.Proofs.YtmiimmpiagmmlabDoor
open Go.ChangeShapes Go.WideShapes Go.ChangeAt Go.RowKit
set_option linter.unusedVariables false
theorem cells36 : Tryd.prog.cellsOf 36 = 7 := by kernel_rfl
theorem cells3 : Tryd.prog.cellsOf 3 = 1 := by kernel_rfl
theorem list7 {α : Type} (l : List α) (h : l.length = 7) : ∃ a b c d e f g, l = [a, b, c, d, e, f, g] := by
  match l, h with
  | [a, b, c, d, e, f, g], _ => exact ⟨a, b, c, d, e, f, g, rfl⟩
theorem cfg_form {H : Type} {enc : TypeId × Value → H} {W : World} {base : Nat} {r : Reach} {b0 : Nat} {sp : Nat → Bool} {hd : Bool} {v : Value} {d : DataW H} {p : List MemPlace} (hv : Value.okWide Tryd.prog W r b0 36 v) (h : DataW.Trod enc Tryd.prog W base sp hd 36 v d p) :
    ∃ n m a b c d f : Int, v = .agg #[.int .i64 n, .int .i64 m, .int .i64 a, .int .i64 b, .int .i64 c, .int .i64 d, .int .i64 f] := by
  obtain ⟨cs, rfl, hsz⟩ := okWide_struct Tryd.underlying36 hv
  rw [cells36] at hsz
  obtain ⟨l⟩ := cs
  obtain ⟨c0, c1, c2, c3, c4, c5, c6, rfl⟩ := list7 l hsz
  obtain ⟨fuel, hf⟩ := h
  obtain ⟨xs, m, rfl, hx, _, hlen, hel⟩ := DataW.trod_struct Tryd.underlying36 hf
  obtain ⟨y0, y1, y2, y3, y4, y5, y6, rfl⟩ := list7 xs hlen
  obtain ⟨k0, e0, _, _⟩ := DataW.trod_int Tryd.underlying3 (hel 0 _ rfl)
  obtain ⟨k1, e1, _, _⟩ := DataW.trod_int Tryd.underlying3 (hel 1 _ rfl)
  obtain ⟨k2, e2, _, _⟩ := DataW.trod_int Tryd.underlying3 (hel 2 _ rfl)
  obtain ⟨k3, e3, _, _⟩ := DataW.trod_int Tryd.underlying3 (hel 3 _ rfl)
  obtain ⟨k4, e4, _, _⟩ := DataW.trod_int Tryd.underlying3 (hel 4 _ rfl)
  obtain ⟨k5, e5, _, _⟩ := DataW.trod_int Tryd.underlying3 (hel 5 _ rfl)
  obtain ⟨k6, e6, _, _⟩ := DataW.trod_int Tryd.underlying3 (hel 6 _ rfl)
  simp [Value.cells, cells3] at e0 e1 e2 e3 e4 e5 e6
  exact ⟨k0, k1, k2, k3, k4, k5, k6, by rw [e0, e1, e2, e3, e4, e5, e6]⟩

set_option maxRecDepth 100000 in
theorem rounds_lifted (os : Os) (started : os.Started) (H : Type) (enc : TypeId × Value → H) :
    ReturnsInHanded {} Tryd.checked os 4 .any (fun w args => (Rows.scriptRoundsSpec.pre enc Tryd.prog Tryd.f4 [] false w args ∧ laidMetH Tryd.prog hasLaid w) ∧ sizedMet enc Tryd.prog Tryd.f4 (OpenSpec.ofChange Rows.scriptRoundsSpec) false w args)
      (Rows.scriptRoundsSpec.post enc Tryd.prog Tryd.f4 false true false false) := by
  refine returnsInHanded_of_change_and (C := Tryd.checked) (X := fun w _ => laidMetH Tryd.prog hasLaid w) (fun _ _ _ hh h => h.of_heap hh) own started (by kernel_rfl) Tryd.func4
    (ChangeSpec.witness_shaped (enc := enc) (C := Tryd.checked) (os := os) (X := fun w _ => laidMetH Tryd.prog hasLaid w) false (World.doorLaid Tryd.prog 400 os) #[.agg #[.int .i64 0, .int .i64 0, .int .i64 0, .int .i64 0, .int .i64 0, .int .i64 0, .int .i64 0]] 8 rfl (World.shaped_of_RefB (by kernel_rfl) (by kernel_rfl)) (by kernel_rfl) (by kernel_rfl) (by kernel_rfl) (door_met os _)) ?_
  intro W base args ds gs before hval0 hW _ _ hL _
  have hval : ∀ (j : Nat) t v, Tryd.f4.params[j]? = some t → args[j]? = some v → Value.okWide Tryd.prog W .any base t v := hval0
  have hW' := hW
  obtain ⟨p, q, hA0, hV, rfl, hfz, hnd⟩ := hW
  have hA : DataW.TrodAll enc Tryd.prog W 0 (fun _ => true) true Tryd.f4.params.toList args.toList ds p := hA0
  rw [Tryd.params4] at hA hval
  obtain ⟨v0, d0, rfl, rfl, h0⟩ := trodAll_one hA
  obtain ⟨rfl, rfl⟩ := trodVars_none hV
  obtain ⟨n, m, a, b, c, d, f, rfl⟩ := cfg_form (hval 0 36 v0 rfl rfl) h0
  have ht := tab_of_laid hL
  clear hA0 hval0
  refine (scriptRounds_walk n m a b c d f W ht).mono fun e W' ⟨he, hb⟩ => ?_
  subst he
  exact ⟨_, rfl, law_post hW' rfl laidOut (by rw [Tryd.params4]; intro t ht; simp at ht; subst ht; exact ⟨by kernel_rfl, of_decide_eq_true (by kernel_rfl)⟩) rfl rfl rfl (by kernel_rfl) Tryd.underlying4 hb⟩

theorem scriptRounds_holds : Rows.ScriptRoundsSaid :=
  OpenClaim.holds_of_wide 4 Tryd.f4 rfl rfl rfl rfl rfl rfl rfl ⟨rfl, rfl, rfl, rfl, rfl⟩ rfl rfl rfl rfl rfl (by kernel_rfl) Tryd.func4 (by kernel_rfl)
    (of_decide_eq_true (by kernel_rfl)) (by unfold Func.isWrapper; first | (rw [if_pos (by decide +kernel)]; kernel_rfl) | (rw [if_neg (by decide +kernel)]; exact ⟨rfl, rfl⟩))
    (fun os started H enc _ => rounds_lifted os started H enc)

/-- THE TIED CARD. -/
theorem scriptRounds_card : Rows.ScriptRoundsCardSaid :=
  Claim7.holds_tied_plain_at .later [] [.data] true (true, "5ac1f33e44d2840b2bbb92172b1f8193f44b6a252bc08d2dfb56ebb80071e9db") false
    scriptRounds_holds (fun _ h => by cases h) (by kernel_rfl) (fun _ h => by cases h) scriptRounds_row_tie rfl ⟨rfl, rfl⟩ (by kernel_rfl) rfl
    (fun f fn hf hfn => by
      obtain rfl : f = 4 := Option.some.inj ((show Tryd.prog.funcNamed "bellows/bellowslaw16.ScriptRounds" = some 4 by kernel_rfl).symm.trans hf) |>.symm
      obtain rfl : fn = Tryd.f4 := (Option.some.inj (Tryd.func4.symm.trans hfn)).symm
      exact ⟨by kernel_rfl, fun j t ht => by
        rw [Tryd.params4] at ht
        have hm : t ∈ [36] := by simpa using Array.mem_of_getElem? ht
        have hall : ([36].all fun u => !Tryd.prog.wantsStandIn u) = true := by kernel_rfl
        exact (show Tryd.prog.wantsStandIn t = false by simpa using List.all_eq_true.1 hall t hm)⟩)
    (by kernel_rfl)
end Go.Proofs.YtmiimmpiagmmlabDoor
