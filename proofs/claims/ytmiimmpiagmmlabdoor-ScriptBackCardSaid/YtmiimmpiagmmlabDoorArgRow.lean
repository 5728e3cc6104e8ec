/-
  An argument that is a slice of acts opened: its value and how it reads. No conditions.
-/
import Derived.Test.YtmiimmpiagmmlabDoorBridge
import Derived.Test.YtmiimmpiagmmlabDoorArg
import Derived.Deep.Slices
namespace Go.Proofs.YtmiimmpiagmmlabDoor
open Go.ChangeShapes Go.WideShapes Go.ChangeAt Go.RowKit
set_option linter.unusedVariables false
theorem cells31 : Tryd.prog.cellsOf 31 = 3 := by kernel_rfl
theorem cells3' : Tryd.prog.cellsOf 3 = 1 := by kernel_rfl
theorem list3 {α : Type} (l : List α) (h : l.length = 3) : ∃ a b c, l = [a, b, c] := by
  match l, h with
  | [a, b, c], _ => exact ⟨a, b, c, rfl⟩
/-- An argument that is a slice of acts: its value, and how it reads. -/
theorem ra_of_trod {H : Type} {enc : TypeId × Value → H} {W : World} {base : Nat} {r : Reach} {b0 : Nat} {hd : Bool} {v : Value} {d : DataW H} {p : List MemPlace} (hv : Value.okWide Tryd.prog W r b0 22 v) (h : DataW.Trod enc Tryd.prog W base (fun _ => true) hd 22 v d p) :
    ∃ A cap l, v = .slice A (l : List A3).length cap ∧ Ra W A cap l := by
  obtain ⟨a0, len, cap, rfl⟩ := okWide_slice Tryd.underlying22 hv
  obtain ⟨fuel, hf⟩ := h
  rcases Go.Deep.open_slice Tryd.underlying22 hf with ⟨hcs, _⟩ | ⟨a, len', cap', m, n, D, Pl, hcs, _, hl, hm, hmm, hx, hel⟩
  · simp [Value.cells] at hcs
    obtain ⟨rfl, rfl, rfl⟩ := hcs
    exact ⟨none, 0, [], rfl, .inl ⟨rfl, rfl, rfl⟩⟩
  · simp [Value.cells] at hcs
    obtain ⟨rfl, rfl, rfl⟩ := hcs
    simp only [if_true] at hmm
    subst hmm
    rw [cells31] at hel
    have key : ∀ i, i < len → ∃ x : A3, W.cell? (a.add (i * 3)) = some (.int .i64 x.k) ∧ W.cell? (a.add (i * 3 + 1)) = some (.int .i64 x.c) ∧ W.cell? (a.add (i * 3 + 2)) = some (.int .i64 x.l) := by
      intro i hi
      obtain ⟨cs', hcs', ht⟩ := hel i (by omega)
      obtain ⟨_, hlen, hcell⟩ := World.cells?_some hcs'
      obtain ⟨c0, c1, c2, rfl⟩ := list3 cs' hlen
      obtain ⟨xs, q, rfl, hx3, _, hlen3, hel3⟩ := DataW.trod_struct Tryd.underlying31 ht
      obtain ⟨y0, y1, y2, rfl⟩ := list3 xs hlen3
      obtain ⟨k0, e0, _, _⟩ := DataW.trod_int Tryd.underlying3 (hel3 0 _ rfl)
      obtain ⟨k1, e1, _, _⟩ := DataW.trod_int Tryd.underlying3 (hel3 1 _ rfl)
      obtain ⟨k2, e2, _, _⟩ := DataW.trod_int Tryd.underlying3 (hel3 2 _ rfl)
      simp [cells3'] at e0 e1 e2
      subst e0 e1 e2
      have h0 := hcell 0 (by omega)
      have h1 := hcell 1 (by omega)
      have h2 := hcell 2 (by omega)
      rw [Go.Deep.add_add] at h0 h1 h2
      exact ⟨⟨k0, k1, k2⟩, by simpa using h0, by simpa using h1, by simpa using h2⟩
    have hall : ∀ n, n ≤ len → ∃ l : List A3, l.length = n ∧ ∀ i x, l[i]? = some x → W.cell? (a.add (i * 3)) = some (.int .i64 x.k) ∧ W.cell? (a.add (i * 3 + 1)) = some (.int .i64 x.c) ∧ W.cell? (a.add (i * 3 + 2)) = some (.int .i64 x.l) := by
      intro n
      induction n with
      | zero => exact fun _ => ⟨[], rfl, fun i x h => by simp at h⟩
      | succ n ih =>
        intro hn
        obtain ⟨l, hl1, hl2⟩ := ih (by omega)
        obtain ⟨x, hx⟩ := key n (by omega)
        refine ⟨l ++ [x], by simp [hl1], fun i y hy => ?_⟩
        rcases Nat.lt_or_ge i n with hi | hi
        · rw [List.getElem?_append_left (by omega)] at hy
          exact hl2 i y hy
        · rw [List.getElem?_append_right (by omega)] at hy
          obtain rfl : i = n := by
            have := (List.getElem?_eq_some_iff.1 hy).1
            simp at this
            omega
          rw [hl1, Nat.sub_self] at hy
          simp at hy
          subst hy
          exact hx
    obtain ⟨l, hl1, hl2⟩ := hall len (Nat.le_refl _)
    exact ⟨some a, m, l, by rw [hl1], .inr ⟨a, rfl, hl2⟩⟩
end Go.Proofs.YtmiimmpiagmmlabDoor
