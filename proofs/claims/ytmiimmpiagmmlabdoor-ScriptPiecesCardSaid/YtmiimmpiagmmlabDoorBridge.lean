/-
  Bridges of this seat: the listed table gives its cells; a law that only makes new memory gives its row post. No conditions of its own.
-/
import Derived.Test.YtmiimmpiagmmlabDoorRows
import Derived.Test.YtmiimmpiagmmlabDoorLeaf
import Derived.ProofKit
import Derived.LaidMore
import Derived.OpenShut
import Derived.Stop.Joined
import Derived.Lib.SmallJoins
namespace Go.Proofs.YtmiimmpiagmmlabDoor
open Go.ChangeShapes Go.WideShapes Go.ChangeAt Go.RowKit
set_option linter.unusedVariables false
section
variable {H : Type} {enc : TypeId × Value → H} {P : Program}
/-- Arguments read as they did in a world that is the old one below its size. -/
theorem args_stay {W W' : World} (hl : laidOutB P = true) (hb : Below W.heap.size W W') : ∀ {ts : List TypeId} {vs : List Value} {ds : List (DataW H)} {ps : List MemPlace},
    (∀ t ∈ ts, P.readableRec t = true ∧ t < P.types.size) → (∀ x ∈ ps, x.block < W.heap.size) → DataW.TrodAll enc P W 0 (fun _ => true) true ts vs ds ps →
    DataW.TrodAll enc P W' 0 (fun b => decide (b < W.heap.size)) true ts vs ds ps
  | [], [], [], _, _, _, h => h
  | t :: ts, v :: vs, d :: ds, ps, hr, hlt, h => by
    obtain ⟨p, q, h1, h2, rfl⟩ := h
    obtain ⟨hr1, hr2⟩ := hr t (List.mem_cons_self ..)
    exact ⟨p, q, Below.trod hl hr1 hr2 h1 hb (fun x hx => hlt x (List.mem_append.2 (.inl hx))), args_stay hl hb (fun t' ht' => hr t' (List.mem_cons_of_mem _ ht')) (fun x hx => hlt x (List.mem_append.2 (.inr hx))) h2, rfl⟩
  | [], [], _ :: _, _, _, _, h => h.elim
  | [], _ :: _, _, _, _, _, h => h.elim
  | _ :: _, [], _, _, _, _, h => h.elim
  | _ :: _, _ :: _, [], _, _, _, h => h.elim
/-- The end of a law: it gives true, its arguments read as they did. -/
theorem law_post {f : Func} {s : ChangeSpec} {W W' : World} {args : Array Value} {ds : List (DataW H)} {before : List MemPlace} {tb : TypeId}
    (hW : DataW.Whole enc P f.params.toList s.vars false W args.toList ds [] before) (hv : s.vars = [])
    (hl : laidOutB P = true) (hr : ∀ t ∈ f.params.toList, P.readableRec t = true ∧ t < P.types.size)
    (hs1 : (s.fn H (ds ++ [])).results = [.lit (.bool true)]) (hs2 : (s.fn H (ds ++ [])).args = ds) (hs3 : (s.fn H (ds ++ [])).vars = [])
    (hrt : f.resultTypes = #[tb]) (hbool : P.underlying tb = some .bool) (hb : Below W.heap.size W W') :
    s.post enc P f false true false false W args (.bool true) W' := by
  have hlt := hW.lt
  obtain ⟨p, q, hA, hV, hpq, hfz, hnd⟩ := hW
  rw [hv] at hV
  obtain ⟨_, rfl⟩ := trodVars_none hV
  rw [List.append_nil] at hpq
  subst hpq
  refine ⟨ds, [], before, [], before, [], ⟨before, [], hA, ?_, by simp, hfz, hnd⟩, ?_, ?_, ?_, hb.frame _, fun h => by cases h⟩
  · rw [hv]; rfl
  · rw [hs1, hrt]
    exact trodAll_mk1 (shut_bool hbool true)
  · rw [hs2]
    exact args_stay hl hb hr hlt hA
  · rw [hs3, hv]; rfl
end

theorem own : ownKnob Tryd.prog.godebug = none := by kernel_rfl
theorem laidOut : laidOutB Tryd.prog = true := by kernel_rfl
theorem gHas : Tryd.prog.globalNamed "bellows/script.has" = some 0 := by kernel_rfl
theorem tHas : (Tryd.prog.globals[0]?).map (·.type) = some 41 := by kernel_rfl
def hasLaid : List (String × DataW Unit) := [("bellows/script.has", Rows.laid_bellows_script_has)]
/-- The door's own heap meets the condition. -/
theorem door_met (os : Os) (args : Array Value) : laidMetH Tryd.prog hasLaid ((World.doorLaid Tryd.prog 400 os).forCall (fun _ _ => 0) ⟨#[], args, []⟩).memory :=
  laidMetH_of_parts3 (fuel := 8) (laidMet_of_run' 8 (by kernel_rfl) (by kernel_rfl)) (by kernel_rfl) (by kernel_rfl)
theorem has_lits (H : Type) (i : Nat) (hi : i < 11) : ((match (Rows.laid_bellows_script_has : DataW H) with | .agg l => l | _ => [])[i]?) = some (.lit (.int .u8 (hasL.getD i 0))) := by
  have hi' : i = 0 ∨ i = 1 ∨ i = 2 ∨ i = 3 ∨ i = 4 ∨ i = 5 ∨ i = 6 ∨ i = 7 ∨ i = 8 ∨ i = 9 ∨ i = 10 := by omega
  rcases hi' with rfl | rfl | rfl | rfl | rfl | rfl | rfl | rfl | rfl | rfl | rfl <;> rfl
/-- The listed table, cell by cell. -/
theorem tab_of_laid {W : World} (h : laidMetH Tryd.prog hasLaid W) : Tab W := by
  rw [MakeChecks.laidMetH_plain _ _ _ (by kernel_rfl)] at h
  obtain ⟨ps, ⟨g0, t0, cs0, f0, p0, q0, hg0, ht0, hv0, hd0, _⟩, _, _⟩ := h
  obtain rfl := Option.some.inj (gHas.symm.trans hg0)
  obtain rfl := Option.some.inj (tHas.symm.trans ht0)
  intro i hi
  obtain ⟨xs, m1, rfl, hx1, hlen, hn3, hel⟩ := DataW.trod_array Tryd.underlying41 hd0
  have c5 : Tryd.prog.cellsOf 5 = 1 := by kernel_rfl
  rw [c5] at hel
  have hgi := hel i hi
  obtain ⟨y, hy⟩ : ∃ y, xs[i]? = some y := ⟨_, List.getElem?_eq_getElem (by omega)⟩
  rw [hy] at hgi
  obtain ⟨k, e1, e2, _⟩ := DataW.trod_int Tryd.underlying5 hgi
  have hk : k = hasL.getD i 0 := by
    have hl := has_lits Unit i hi
    simp only [Prod.mk.injEq] at hx1
    rw [hx1.1] at hl
    simp only [List.getElem?_map, hy, Option.map_some, e2] at hl
    simpa using hl
  subst hk
  have hcell := World.var?_cell hg0 hv0 i
  rw [hcell]
  rw [Nat.mul_one] at e1
  have : (cs0.toList.drop i)[0]? = some (.int .u8 (hasL.getD i 0)) := by
    cases hd : cs0.toList.drop i with
    | nil => rw [hd] at e1; simp at e1
    | cons a r => rw [hd] at e1; simp at e1; simp [e1]
  rw [List.getElem?_drop] at this
  simpa using this
end Go.Proofs.YtmiimmpiagmmlabDoor
