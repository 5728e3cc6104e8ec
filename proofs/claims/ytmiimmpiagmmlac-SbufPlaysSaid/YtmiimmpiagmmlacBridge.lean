/-
  Bridges of this seat: a law that only makes new memory gives its row post; an argument that is an entry. No conditions of its own.
-/
import Derived.Test.YtmiimmpiagmmlacRows
import Derived.Test.YtmiimmpiagmmlacBase
import Derived.ProofKit
import Derived.LaidMore
import Derived.OpenShut
import Derived.Stop.Joined
import Derived.Lib.SmallJoins
namespace Go.Proofs.Ytmiimmpiagmmlac
open Go.ChangeShapes Go.WideShapes Go.ChangeAt Go.RowKit
set_option linter.unusedVariables false
set_option linter.unusedSimpArgs false
section
variable {H : Type} {enc : TypeId × Value → H} {P : Program}
/-- Arguments read as they did in a world that is the old one below its size. -/
theorem args_stay {W W' : World} (hl : laidOutB P = true) (hb : Below W.heap.size W W') : ∀ {ts : List TypeId} {vs : List Value} {ds : List (DataW H)} {ps : List MemPlace},
    (∀ t ∈ ts, P.readableRec t = true ∧ t < P.types.size) → (∀ x ∈ ps, x.block < W.heap.size) → DataW.TrodAll enc P W 0 (fun _ => true) true ts vs ds ps →
    DataW.TrodAll enc P W' 0 (fun b => decide (b < W.heap.size)) true ts vs ds ps
  | [], [], [], _, _, _, h => h
  | t :: ts, v :: vs, d :: ds, ps, hr, hlt, h => by
    obtain ⟨p, q, h1, h2, rfl⟩ := h
    obtain ⟨hr1, hr2⟩ := hr t (List.mem_cons_self ..)
    exact ⟨p, q, Below.trod hl hr1 hr2 h1 hb (fun x hx => hlt x (List.mem_append.2 (.inl hx))), args_stay hl hb (fun t' ht' => hr t' (List.mem_cons_of_mem _ ht')) (fun x hx => hlt x (List.mem_append.2 (.inr hx))) h2, rfl⟩
  | [], [], _ :: _, _, _, _, h => h.elim
  | [], _ :: _, _, _, _, _, h => h.elim
  | _ :: _, [], _, _, _, _, h => h.elim
  | _ :: _, _ :: _, [], _, _, _, h => h.elim
/-- The end of a law: it gives true, its arguments read as they did. -/
theorem law_post {f : Func} {s : ChangeSpec} {W W' : World} {args : Array Value} {ds : List (DataW H)} {before : List MemPlace} {tb : TypeId}
    (hW : DataW.Whole enc P f.params.toList s.vars false W args.toList ds [] before) (hv : s.vars = [])
    (hl : laidOutB P = true) (hr : ∀ t ∈ f.params.toList, P.readableRec t = true ∧ t < P.types.size)
    (hs1 : (s.fn H (ds ++ [])).results = [.lit (.bool true)]) (hs2 : (s.fn H (ds ++ [])).args = ds) (hs3 : (s.fn H (ds ++ [])).vars = [])
    (hrt : f.resultTypes = #[tb]) (hbool : P.underlying tb = some .bool) (hb : Below W.heap.size W W') :
    s.post enc P f false true false false W args (.bool true) W' := by
  have hlt := hW.lt
  obtain ⟨p, q, hA, hV, hpq, hfz, hnd⟩ := hW
  rw [hv] at hV
  obtain ⟨_, rfl⟩ := trodVars_none hV
  rw [List.append_nil] at hpq
  subst hpq
  refine ⟨ds, [], before, [], before, [], ⟨before, [], hA, ?_, by simp, hfz, hnd⟩, ?_, ?_, ?_, hb.frame _, fun h => by cases h⟩
  · rw [hv]; rfl
  · rw [hs1, hrt]
    exact trodAll_mk1 (shut_bool hbool true)
  · rw [hs2]
    exact args_stay hl hb hr hlt hA
  · rw [hs3, hv]; rfl
end

theorem own : ownKnob Try.prog.godebug = none := by kernel_rfl
theorem laidOut : laidOutB Try.prog = true := by kernel_rfl
theorem cells31 : Try.prog.cellsOf 31 = 5 := by kernel_rfl
theorem cells3 : Try.prog.cellsOf 3 = 1 := by kernel_rfl
theorem cells4 : Try.prog.cellsOf 4 = 1 := by kernel_rfl
theorem cells29 : Try.prog.cellsOf 29 = 1 := by kernel_rfl
theorem list5 {α : Type} (l : List α) (h : l.length = 5) : ∃ a b c d e, l = [a, b, c, d, e] := by
  match l, h with
  | [a, b, c, d, e], _ => exact ⟨a, b, c, d, e, rfl⟩
/-- An argument that is an entry. -/
theorem entry_form {H : Type} {enc : TypeId × Value → H} {W : World} {base : Nat} {r : Reach} {b0 : Nat} {sp : Nat → Bool} {hd : Bool} {v : Value} {d : DataW H} {p : List MemPlace} (hv : Value.okWide Try.prog W r b0 31 v) (h : DataW.Trod enc Try.prog W base sp hd 31 v d p) :
    ∃ e : Ent, v = e.v := by
  obtain ⟨cs, rfl, hsz⟩ := okWide_struct Try.underlying31 hv
  rw [cells31] at hsz
  obtain ⟨l⟩ := cs
  obtain ⟨c0, c1, c2, c3, c4, rfl⟩ := list5 l hsz
  obtain ⟨fuel, hf⟩ := h
  obtain ⟨xs, m, rfl, hx, _, hlen, hel⟩ := DataW.trod_struct Try.underlying31 hf
  obtain ⟨y0, y1, y2, y3, y4, rfl⟩ := list5 xs hlen
  obtain ⟨k0, e0, _, _⟩ := DataW.trod_int Try.underlying3 (hel 0 _ rfl)
  obtain ⟨k1, e1, _, _⟩ := DataW.trod_int Try.underlying3 (hel 1 _ rfl)
  obtain ⟨k2, e2, _, _⟩ := DataW.trod_int Try.underlying3 (hel 2 _ rfl)
  obtain ⟨k3, e3, _, _⟩ := DataW.trod_int Try.underlying29 (hel 3 _ rfl)
  obtain ⟨k4, e4, _⟩ := DataW.trod_bool Try.underlying4 (hel 4 _ rfl)
  simp [Value.cells, cells3, cells4, cells29] at e0 e1 e2 e3 e4
  exact ⟨⟨k0, k1, k2, k3, k4⟩, by rw [e0, e1, e2, e3, e4]; rfl⟩
end Go.Proofs.Ytmiimmpiagmmlac
