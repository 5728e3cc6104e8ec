/-
  How an argument that is a slice of acts reads, and what append makes of it. No conditions of its own.
-/
import Derived.Test.YtmiimmpiagmmlabDoorActs
import Derived.Laws.AppendOwnNone
namespace Go.Proofs.YtmiimmpiagmmlabDoor
open Go.RowKit
set_option linter.unusedVariables false
/-- What is appended: nil, or a row whose cells are known. -/
def Src (w : World) (A : Option Addr) (m c : Nat) (size : Nat) (news : List Value) : Prop :=
  (A = none ∧ m = 0 ∧ c = 0 ∧ news = []) ∨ ∃ ad, A = some ad ∧ news.length = m * size ∧ ∀ j u, news[j]? = some u → w.cell? (ad.add j) = some u
theorem wpList_append_src {P : Program} (w : World) {ops : Array Oper} {rest : List Oper} {o : Oper} {a : Act} {Q : Exit → Act → World → Prop} (hgd : o.guard = none) (s x : Operand) (t : TypeId)
    (ho : o.op = .call { callee := .builtin .append, args := #[s, x], argTypes := #[t, t] })
    (base : Nat) (e : TypeId) (i : TypeInfo) (z : Value) (size bytes : Nat) (ht : P.underlying t = some (.slice e)) (hi : P.info? e = some i) (hz : i.zero = some z)
    (hsize : i.size = size) (hby : i.bytes = bytes) (hzs : z.cells.size = size) (hsz : 0 < size)
    (v : Value) (n : Nat) (xs : List Value) (hs : a.eval s = v) (hown : w.ownsRow base e size v n xs)
    (A : Option Addr) (m c : Nat) (news : List Value) (hx : a.eval x = .slice A m c) (hsrc : Src w A m c size news) (h1 : ∀ u ∈ news, u.oneCell' = true)
    (h63 : n + m ≤ maxLen) (hbytes : (n + m) * bytes ≤ 140737488355328) (hbase : base ≤ w.heap.size)
    (h : ∀ v' w', w'.ownsRow base e size v' (n + m) (xs ++ news) → w.grownBy w' v.ownBlock → wpList P ops Q rest (a.put o.dst v') w') : wpList P ops Q (o :: rest) a w := by
  rcases hsrc with ⟨rfl, rfl, rfl, rfl⟩ | ⟨ad, rfl, hl, hnews⟩
  · refine wpList_append_own_none hgd s x t ho base e i size ht hi v n xs hs hown hx ?_
    exact h v w (by simpa using hown) ⟨rfl, rfl, rfl, Nat.le_refl _, fun _ _ _ => rfl⟩
  · exact wpList_append_own w hgd s x t ho base e i z size bytes ht hi hz hsize hby hzs hsz v n xs hs hown ad m c news hx hl hnews h1 h63 hbytes hbase fun v' w' h2 h3 _ => h v' w' h2 h3
theorem rowOf_length (l : List A3) : (rowOf l).length = l.length * 3 := by
  induction l with
  | nil => rfl
  | cons a l ih => simp only [rowOf, List.flatMap_cons, List.length_append, A3.cells, List.length_cons, List.length_nil] at *; omega
theorem rowOf_one_cell (l : List A3) : ∀ u ∈ rowOf l, u.oneCell' = true := by
  intro u hu
  simp only [rowOf, List.mem_flatMap, A3.cells, List.mem_cons, List.not_mem_nil, or_false] at hu
  obtain ⟨a, _, h⟩ := hu
  rcases h with rfl | rfl | rfl <;> rfl
/-- The reading of an argument: nil, or a row of three cells an act. -/
def Ra (w : World) (A : Option Addr) (cap : Nat) (l : List A3) : Prop :=
  (A = none ∧ cap = 0 ∧ l = []) ∨ ∃ ad, A = some ad ∧ ∀ (i : Nat) (a : A3), l[i]? = some a →
    w.cell? (ad.add (i * 3)) = some (.int .i64 a.k) ∧ w.cell? (ad.add (i * 3 + 1)) = some (.int .i64 a.c) ∧ w.cell? (ad.add (i * 3 + 2)) = some (.int .i64 a.l)
theorem rowOf_at : ∀ (l : List A3) (j : Nat) (u : Value), (rowOf l)[j]? = some u → ∃ a, l[j / 3]? = some a ∧ ((j % 3 = 0 ∧ u = .int .i64 a.k) ∨ (j % 3 = 1 ∧ u = .int .i64 a.c) ∨ (j % 3 = 2 ∧ u = .int .i64 a.l))
  | [], j, u, h => by simp [rowOf] at h
  | b :: l, j, u, h => by
    have e : rowOf (b :: l) = .int .i64 b.k :: .int .i64 b.c :: .int .i64 b.l :: rowOf l := rfl
    rw [e] at h
    match j, h with
    | 0, h => simp at h; exact ⟨b, by simp, .inl ⟨by omega, h.symm⟩⟩
    | 1, h => simp at h; exact ⟨b, by simp, .inr (.inl ⟨by omega, h.symm⟩)⟩
    | 2, h => simp at h; exact ⟨b, by simp, .inr (.inr ⟨by omega, h.symm⟩)⟩
    | j + 3, h =>
      obtain ⟨a, h1, h2⟩ := rowOf_at l j u (by simpa using h)
      refine ⟨a, ?_, ?_⟩
      · rw [show (j + 3) / 3 = j / 3 + 1 by omega]; simpa using h1
      · rw [show (j + 3) % 3 = j % 3 by omega]; exact h2
theorem Ra.src {w : World} {A : Option Addr} {cap : Nat} {l : List A3} (h : Ra w A cap l) : Src w A l.length cap 3 (rowOf l) := by
  rcases h with ⟨rfl, rfl, rfl⟩ | ⟨ad, rfl, h⟩
  · exact .inl ⟨rfl, rfl, rfl, rfl⟩
  · refine .inr ⟨ad, rfl, rowOf_length l, fun j u hu => ?_⟩
    obtain ⟨a, h1, h2⟩ := rowOf_at l j u hu
    obtain ⟨c1, c2, c3⟩ := h _ a h1
    rcases h2 with ⟨hj, rfl⟩ | ⟨hj, rfl⟩ | ⟨hj, rfl⟩
    · rw [show j = j / 3 * 3 by omega]; exact c1
    · rw [show j = j / 3 * 3 + 1 by omega]; exact c2
    · rw [show j = j / 3 * 3 + 2 by omega]; exact c3
theorem Ra.pos {w : World} {A : Option Addr} {cap : Nat} {l : List A3} (h : Ra w A cap l) (hl : 0 < l.length) : ∃ b o, A = some ⟨b, o, none⟩ := by
  rcases h with ⟨_, _, rfl⟩ | ⟨⟨b, o, sp⟩, rfl, h⟩
  · simp at hl
  · have hg : l[0]? = some l[0] := List.getElem?_eq_getElem hl
    have h1 := (h 0 _ hg).1
    cases sp with
    | none => exact ⟨b, o, rfl⟩
    | some q =>
      exfalso
      simp only [Nat.zero_mul] at h1
      rw [show (⟨b, o, some q⟩ : Addr).add 0 = ⟨b, o, some q⟩ from rfl] at h1
      unfold World.cell? at h1
      split at h1 <;> simp at h1
theorem Ra.rd {w : World} {A : Option Addr} {cap : Nat} {l : List A3} (h : Ra w A cap l) : Rd w (.slice A l.length cap) l := by
  rcases Nat.eq_zero_or_pos l.length with h0 | h0
  · exact .inl ⟨List.eq_nil_of_length_eq_zero h0, A, cap, by rw [h0]⟩
  · obtain ⟨b, o, rfl⟩ := h.pos h0
    rcases h with ⟨h, _⟩ | ⟨ad, h, hc⟩
    · cases h
    · injection h with h
      subst h
      exact .inr ⟨b, o, cap, rfl, fun i a ha => by
        obtain ⟨c1, c2, c3⟩ := hc i a ha
        rw [add_plain] at c1 c2 c3
        exact ⟨c1, c2, c3⟩⟩
end Go.Proofs.YtmiimmpiagmmlabDoor
