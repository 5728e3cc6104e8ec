/-
  Arguments opened: a number, a byte, a row of words, a row of steps. No conditions of its own.
-/
import Derived.Test.YtmiimmpiagmmlacBridge
import Derived.Deep.Slices
namespace Go.Proofs.Ytmiimmpiagmmlac
open Go.ChangeShapes Go.WideShapes Go.ChangeAt Go.RowKit
set_option linter.unusedVariables false
set_option linter.unusedSimpArgs false
theorem cells48 : Try.prog.cellsOf 48 = 6 := by kernel_rfl
theorem bounds_u8 {x : Int} (h : (Lit.int .u8 x).wf = true) : 0 ≤ x ∧ x < 256 := by
  simp [Lit.wf] at h
  have h1 : IntKind.u8.min = 0 := by decide
  have h2 : IntKind.u8.max = 255 := by decide
  omega
/-- A cell's address is plain. -/
theorem plain_of_cell {w : World} {b o : Nat} {sp : Option _} {v : Value} (h : w.cell? ⟨b, o, sp⟩ = some v) : sp = none := by
  cases sp with
  | none => rfl
  | some q =>
    exfalso
    unfold World.cell? at h
    split at h <;> simp at h
/-- Out of a proof for each index, a list. -/
theorem list_of {α : Type} {Q : Nat → α → Prop} (len : Nat) (key : ∀ i, i < len → ∃ x, Q i x) : ∃ l : List α, l.length = len ∧ ∀ i x, l[i]? = some x → Q i x := by
  have hall : ∀ n, n ≤ len → ∃ l : List α, l.length = n ∧ ∀ i x, l[i]? = some x → Q i x := by
    intro n
    induction n with
    | zero => exact fun _ => ⟨[], rfl, fun i x h => by simp at h⟩
    | succ n ih =>
      intro hn
      obtain ⟨l, hl1, hl2⟩ := ih (by omega)
      obtain ⟨x, hx⟩ := key n (by omega)
      refine ⟨l ++ [x], by simp [hl1], fun i y hy => ?_⟩
      rcases Nat.lt_or_ge i n with hi | hi
      · rw [List.getElem?_append_left (by omega)] at hy
        exact hl2 i y hy
      · rw [List.getElem?_append_right (by omega)] at hy
        obtain rfl : i = n := by
          have := (List.getElem?_eq_some_iff.1 hy).1
          simp at this
          omega
        rw [hl1, Nat.sub_self] at hy
        simp at hy
        subst hy
        exact hx
  exact hall len (Nat.le_refl _)
theorem int_form {H : Type} {enc : TypeId × Value → H} {W : World} {base : Nat} {r : Reach} {b0 : Nat} {sp : Nat → Bool} {hd : Bool} {v : Value} {d : DataW H} {p : List MemPlace} (hv : Value.okWide Try.prog W r b0 3 v) (h : DataW.Trod enc Try.prog W base sp hd 3 v d p) :
    ∃ k : Int, v = .int .i64 k := by
  obtain ⟨k, rfl, _⟩ := open_int Try.underlying3 hv h
  exact ⟨k, rfl⟩
theorem byte_form {H : Type} {enc : TypeId × Value → H} {W : World} {base : Nat} {r : Reach} {b0 : Nat} {sp : Nat → Bool} {hd : Bool} {v : Value} {d : DataW H} {p : List MemPlace} (hv : Value.okWide Try.prog W r b0 5 v) (h : DataW.Trod enc Try.prog W base sp hd 5 v d p) :
    ∃ k : Int, v = .int .u8 k ∧ 0 ≤ k ∧ k < 256 := by
  obtain ⟨k, rfl, _, _, hk⟩ := open_int Try.underlying5 hv h
  exact ⟨k, rfl, bounds_u8 hk⟩
/-- Words in a row. -/
def Wd (w : World) (b o : Nat) (l : List Int) : Prop := ∀ i x, l[i]? = some x → w.cell? ⟨b, o + i, none⟩ = some (.int .u64 x)
theorem words_of_trod {H : Type} {enc : TypeId × Value → H} {W : World} {base : Nat} {r : Reach} {b0 : Nat} {hd : Bool} {v : Value} {d : DataW H} {p : List MemPlace} (hv : Value.okWide Try.prog W r b0 22 v) (h : DataW.Trod enc Try.prog W base (fun _ => true) hd 22 v d p) :
    ∃ A cap, ∃ l : List Int, v = .slice A l.length cap ∧ (0 < l.length → ∃ b o, A = some ⟨b, o, none⟩ ∧ Wd W b o l) := by
  obtain ⟨a0, len, cap, rfl⟩ := okWide_slice Try.underlying22 hv
  obtain ⟨fuel, hf⟩ := h
  rcases Go.Deep.open_slice Try.underlying22 hf with ⟨hcs, _⟩ | ⟨a, len', cap', m, n, D, Pl, hcs, _, hl, hm, hmm, hx, hel⟩
  · simp [Value.cells] at hcs
    obtain ⟨rfl, rfl, rfl⟩ := hcs
    exact ⟨none, 0, [], rfl, fun h => by simp at h⟩
  · simp [Value.cells] at hcs
    obtain ⟨rfl, rfl, rfl⟩ := hcs
    simp only [if_true] at hmm
    subst hmm
    rw [cells29] at hel
    have key : ∀ i, i < len → ∃ x : Int, W.cell? (a.add i) = some (.int .u64 x) := by
      intro i hi
      obtain ⟨cs', hcs', ht⟩ := hel i (by omega)
      obtain ⟨_, hlen, hcell⟩ := World.cells?_some hcs'
      obtain ⟨c0, rfl⟩ : ∃ c, cs' = [c] := by
        match cs', hlen with
        | [c], _ => exact ⟨c, rfl⟩
      obtain ⟨k0, e0, _, _⟩ := DataW.trod_int Try.underlying29 ht
      simp at e0
      subst e0
      have h0 := hcell 0 (by omega)
      rw [Go.Deep.add_add] at h0
      exact ⟨k0, by simpa using h0⟩
    obtain ⟨l, hl1, hl2⟩ := list_of len key
    refine ⟨some a, m, l, by rw [hl1], fun hpos => ?_⟩
    obtain ⟨b, o, sp⟩ := a
    have h0 := hl2 0 _ (List.getElem?_eq_getElem hpos)
    have hz : (⟨b, o, sp⟩ : Addr).add 0 = ⟨b, o, sp⟩ := by cases sp <;> rfl
    rw [hz] at h0
    obtain rfl := plain_of_cell h0
    exact ⟨b, o, rfl, fun i x hx => by have := hl2 i x hx; rwa [WideShapes.add_plain] at this⟩
/-- A step: its number and its entry. -/
structure Stp where
  kind : Int
  e : Ent
/-- Steps in a row. -/
def Sd (w : World) (b o : Nat) (l : List Stp) : Prop := ∀ i x, l[i]? = some x → w.cell? ⟨b, o + i * 6, none⟩ = some (.int .i64 x.kind) ∧ w.cell? ⟨b, o + i * 6 + 1, none⟩ = some (.int .i64 x.e.kind) ∧ w.cell? ⟨b, o + i * 6 + 2, none⟩ = some (.int .i64 x.e.line) ∧ w.cell? ⟨b, o + i * 6 + 3, none⟩ = some (.int .i64 x.e.word) ∧ w.cell? ⟨b, o + i * 6 + 4, none⟩ = some (.int .u64 x.e.val) ∧ w.cell? ⟨b, o + i * 6 + 5, none⟩ = some (.bool x.e.sent)
theorem steps_of_trod {H : Type} {enc : TypeId × Value → H} {W : World} {base : Nat} {r : Reach} {b0 : Nat} {hd : Bool} {v : Value} {d : DataW H} {p : List MemPlace} (hv : Value.okWide Try.prog W r b0 43 v) (h : DataW.Trod enc Try.prog W base (fun _ => true) hd 43 v d p) :
    ∃ A cap, ∃ l : List Stp, v = .slice A l.length cap ∧ (0 < l.length → ∃ b o, A = some ⟨b, o, none⟩ ∧ Sd W b o l) := by
  obtain ⟨a0, len, cap, rfl⟩ := okWide_slice Try.underlying43 hv
  obtain ⟨fuel, hf⟩ := h
  rcases Go.Deep.open_slice Try.underlying43 hf with ⟨hcs, _⟩ | ⟨a, len', cap', m, n, D, Pl, hcs, _, hl, hm, hmm, hx, hel⟩
  · simp [Value.cells] at hcs
    obtain ⟨rfl, rfl, rfl⟩ := hcs
    exact ⟨none, 0, [], rfl, fun h => by simp at h⟩
  · simp [Value.cells] at hcs
    obtain ⟨rfl, rfl, rfl⟩ := hcs
    simp only [if_true] at hmm
    subst hmm
    rw [cells48] at hel
    have key : ∀ i, i < len → ∃ x : Stp, W.cell? (a.add (i * 6)) = some (.int .i64 x.kind) ∧ W.cell? (a.add (i * 6 + 1)) = some (.int .i64 x.e.kind) ∧ W.cell? (a.add (i * 6 + 2)) = some (.int .i64 x.e.line) ∧ W.cell? (a.add (i * 6 + 3)) = some (.int .i64 x.e.word) ∧ W.cell? (a.add (i * 6 + 4)) = some (.int .u64 x.e.val) ∧ W.cell? (a.add (i * 6 + 5)) = some (.bool x.e.sent) := by
      intro i hi
      obtain ⟨cs', hcs', ht⟩ := hel i (by omega)
      obtain ⟨_, hlen, hcell⟩ := World.cells?_some hcs'
      obtain ⟨c0, c1, c2, c3, c4, c5, rfl⟩ : ∃ c0 c1 c2 c3 c4 c5, cs' = [c0, c1, c2, c3, c4, c5] := by
        match cs', hlen with
        | [c0, c1, c2, c3, c4, c5], _ => exact ⟨c0, c1, c2, c3, c4, c5, rfl⟩
      obtain ⟨xs, q, rfl, hx3, _, hlen3, hel3⟩ := DataW.trod_struct Try.underlying48 ht
      obtain ⟨y0, y1, rfl⟩ : ∃ y0 y1, xs = [y0, y1] := by
        match xs, hlen3 with
        | [y0, y1], _ => exact ⟨y0, y1, rfl⟩
      obtain ⟨k, e0, _, _⟩ := DataW.trod_int Try.underlying3 (hel3 0 _ rfl)
      obtain ⟨ys, q2, rfl, hy3, _, hlen4, hel4⟩ := DataW.trod_struct Try.underlying31 (hel3 1 _ rfl)
      obtain ⟨z0, z1, z2, z3, z4, rfl⟩ := list5 ys hlen4
      obtain ⟨k1, e1, _, _⟩ := DataW.trod_int Try.underlying3 (hel4 0 _ rfl)
      obtain ⟨k2, e2, _, _⟩ := DataW.trod_int Try.underlying3 (hel4 1 _ rfl)
      obtain ⟨k3, e3, _, _⟩ := DataW.trod_int Try.underlying3 (hel4 2 _ rfl)
      obtain ⟨k4, e4, _, _⟩ := DataW.trod_int Try.underlying29 (hel4 3 _ rfl)
      obtain ⟨k5, e5, _⟩ := DataW.trod_bool Try.underlying4 (hel4 4 _ rfl)
      simp [cells3, cells31, cells4, cells29] at e0 e1 e2 e3 e4 e5
      subst e0 e1 e2 e3 e4 e5
      have h0 := hcell 0 (by omega)
      have h1 := hcell 1 (by omega)
      have h2 := hcell 2 (by omega)
      have h3 := hcell 3 (by omega)
      have h4 := hcell 4 (by omega)
      have h5 := hcell 5 (by omega)
      rw [Go.Deep.add_add] at h0 h1 h2 h3 h4 h5
      exact ⟨⟨k, ⟨k1, k2, k3, k4, k5⟩⟩, by simpa using h0, by simpa using h1, by simpa using h2, by simpa using h3, by simpa using h4, by simpa using h5⟩
    obtain ⟨l, hl1, hl2⟩ := list_of len key
    refine ⟨some a, m, l, by rw [hl1], fun hpos => ?_⟩
    obtain ⟨b, o, sp⟩ := a
    have h0 := (hl2 0 _ (List.getElem?_eq_getElem hpos)).1
    have hz : (⟨b, o, sp⟩ : Addr).add (0 * 6) = ⟨b, o, sp⟩ := by cases sp <;> rfl
    rw [hz] at h0
    obtain rfl := plain_of_cell h0
    refine ⟨b, o, rfl, fun i x hx => ?_⟩
    obtain ⟨g0, g1, g2, g3, g4, g5⟩ := hl2 i x hx
    rw [WideShapes.add_plain] at g0 g1 g2 g3 g4 g5
    exact ⟨g0, g1, g2, g3, g4, g5⟩
end Go.Proofs.Ytmiimmpiagmmlac
