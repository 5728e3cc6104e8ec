/-
  The reference buffer: what it holds, New, and append from nil or a row. Conditions stand in each statement.
-/
import Derived.Test.YtmiimmpiagmmlacSame
namespace Go.Proofs.Ytmiimmpiagmmlac
open Go.RowKit
set_option linter.unusedVariables false
set_option linter.unusedSimpArgs false
def Src (w : World) (A : Option Addr) (m c : Nat) (size : Nat) (news : List Value) : Prop :=
  (A = none ∧ m = 0 ∧ c = 0 ∧ news = []) ∨ ∃ ad, A = some ad ∧ news.length = m * size ∧ ∀ j u, news[j]? = some u → w.cell? (ad.add j) = some u
theorem wp_append_src {P : Program} {w : World} {o : Oper} {a : Act} {K : Act → World → Prop} {Q : Exit → Act → World → Prop} (s x : Operand) (t : TypeId)
    (ho : o.op = .call { callee := .builtin .append, args := #[s, x], argTypes := #[t, t] })
    (base : Nat) (e : TypeId) (i : TypeInfo) (z : Value) (size bytes : Nat) (ht : P.underlying t = some (.slice e)) (hi : P.info? e = some i) (hz : i.zero = some z)
    (hsize : i.size = size) (hby : i.bytes = bytes) (hzs : z.cells.size = size) (hsz : 0 < size)
    (v : Value) (n : Nat) (xs : List Value) (hs : a.eval s = v) (hown : w.ownsRow base e size v n xs)
    (A : Option Addr) (m c : Nat) (news : List Value) (hx : a.eval x = .slice A m c) (hsrc : Src w A m c size news) (h1 : ∀ u ∈ news, u.oneCell' = true)
    (h63 : n + m ≤ maxLen) (hbytes : (n + m) * bytes ≤ 140737488355328) (hbase : base ≤ w.heap.size)
    (h : ∀ v' w', w'.ownsRow base e size v' (n + m) (xs ++ news) → w.grownBy w' v.ownBlock → K (a.put o.dst v') w') : o.wp P a w K Q := by
  rcases hsrc with ⟨rfl, rfl, rfl, rfl⟩ | ⟨ad, rfl, hl, hnews⟩
  · have hrun := run_append_owned_none (P := P) (w := w) base t o.type e i size ht hi v n xs hown
    unfold Oper.wp
    simp only [execOp, ho, resolve, invoke, builtin, Sem.run_bind, Sem.run_pure, Result.andThen_ok, List.map_toArray, List.map_cons, List.map_nil, hs, hx, hrun]
    exact h v w (by simpa using hown) ⟨rfl, rfl, rfl, Nat.le_refl _, fun _ _ _ => rfl⟩
  · obtain ⟨v', w', hr, h2, h3, _⟩ := run_append_own_at (P := P) w base t o.type e i z size bytes ht hi hz hsize hby hzs hsz v n xs hown ad m c news hl hnews h1 h63 hbytes hbase
    unfold Oper.wp
    simp only [execOp, ho, resolve, invoke, builtin, Sem.run_bind, Sem.run_pure, Result.andThen_ok, List.map_toArray, List.map_cons, List.map_nil, hs, hx, hr]
    exact h v' w' h2 h3
theorem step_append_src {P : Program} {w : World} {ops : Array Oper} {o : Oper} {a : Act} {K : Act → World → Prop} {Q : Exit → Act → World → Prop} {E : Prop} (hgd : o.guard = none) (s x : Operand) (t : TypeId)
    (ho : o.op = .call { callee := .builtin .append, args := #[s, x], argTypes := #[t, t] })
    (base : Nat) (e : TypeId) (i : TypeInfo) (z : Value) (size bytes : Nat) (ht : P.underlying t = some (.slice e)) (hi : P.info? e = some i) (hz : i.zero = some z)
    (hsize : i.size = size) (hby : i.bytes = bytes) (hzs : z.cells.size = size) (hsz : 0 < size)
    (v : Value) (n : Nat) (xs : List Value) (hs : a.eval s = v) (hown : w.ownsRow base e size v n xs)
    (A : Option Addr) (m c : Nat) (news : List Value) (hx : a.eval x = .slice A m c) (hsrc : Src w A m c size news) (h1 : ∀ u ∈ news, u.oneCell' = true)
    (h63 : n + m ≤ maxLen) (hbytes : (n + m) * bytes ≤ 140737488355328) (hbase : base ≤ w.heap.size)
    (h : ∀ v' w', w'.ownsRow base e size v' (n + m) (xs ++ news) → w.grownBy w' v.ownBlock → K (a.put o.dst v') w') :
    if Region.wanted o (yielded ops a.tmps) = true then Oper.wp P o a w K Q else E := by
  have hw : Region.wanted o (yielded ops a.tmps) = true := by simp [Region.wanted, hgd]
  rw [if_pos hw]
  exact wp_append_src s x t ho base e i z size bytes ht hi hz hsize hby hzs hsz v n xs hs hown A m c news hx hsrc h1 h63 hbytes hbase h
theorem Src.below {w w' : World} {A : Option Addr} {m c size : Nat} {news : List Value} (h : Src w A m c size news) (hb : Below w.heap.size w w') : Src w' A m c size news := by
  rcases h with h | ⟨ad, rfl, hl, hc⟩
  · exact .inl h
  · exact .inr ⟨ad, rfl, hl, fun j u hu => (hb.cell (World.block_lt_of_cell? (w := w) (a := ad.add j) (hc j u hu))).trans (hc j u hu)⟩
theorem rowE_length (L : List Ent) : (rowE L).length = L.length * 5 := by
  induction L with
  | nil => rfl
  | cons a L ih => simp only [rowE, List.flatMap_cons, List.length_append, Ent.cells, List.length_cons, List.length_nil] at *; omega
theorem rowE_one_cell (L : List Ent) : ∀ u ∈ rowE L, u.oneCell' = true := by
  intro u hu
  simp only [rowE, List.mem_flatMap, Ent.cells, List.mem_cons, List.not_mem_nil, or_false] at hu
  obtain ⟨a, _, h⟩ := hu
  rcases h with rfl | rfl | rfl | rfl | rfl <;> rfl
theorem src_of_own {w : World} {base : Nat} {t : TypeId} {v : Value} {n : Nat} {xs : List Value} (h : w.ownsRow base t 5 v n xs) : ∃ A cap, v = .slice A n cap ∧ Src w A n cap 5 xs := by
  have hl := h.1
  rcases h.2 with ⟨rfl, rfl⟩ | ⟨g, cap, cur, rfl, hb, _⟩
  · refine ⟨none, 0, rfl, .inl ⟨rfl, rfl, rfl, ?_⟩⟩
    rw [Nat.zero_mul] at hl
    exact List.eq_nil_of_length_eq_zero hl
  · refine ⟨some ⟨g, 0, none⟩, cap, rfl, .inr ⟨_, rfl, hl, fun j u hu => ?_⟩⟩
    have hj : j < n * 5 := by rw [← hl]; exact (List.getElem?_eq_some_iff.1 hu).1
    rw [WideShapes.add_plain, Nat.zero_add]
    exact (h.cellAt j hj).trans hu
/-- A slice of no entries that was just made. -/
theorem own_fresh {w : World} {base k : Nat} {t : TypeId} (h : w.heap[k]? = some (.cells #[] t)) (hb : base ≤ k) : w.ownsRow base t 5 (.slice (some ⟨k, 0, none⟩) 0 0) 0 [] :=
  ⟨by simp, .inr ⟨k, 0, #[], rfl, hb, h, Nat.le_refl _, by unfold maxLen; omega, by simp, by simp⟩⟩
theorem info50 : (Try.prog.info? 50).map (fun i => (i.zero, i.size, i.bytes)) = some (some (.agg #[.int .i64 0, .int .i64 0, .int .i64 0, .int .u64 0, .bool false]), 5, 40) := by kernel_rfl
/-- The reference's buffer: its room, and its entries in a row of its own behind it. -/
def RQ (w : World) (r room : Nat) (L : List Ent) : Prop :=
  ∃ v, w.cell? ⟨r, 0, none⟩ = some (.int .i64 room) ∧ w.cell? ⟨r, 1, none⟩ = some v ∧ (∀ o, w.frozen? ⟨r, o, none⟩ = false) ∧ w.ownsRow (r + 1) 50 5 v L.length (rowE L)
theorem RQ.lt {w : World} {r room : Nat} {L : List Ent} (h : RQ w r room L) : r < w.heap.size := by
  obtain ⟨v, h0, _⟩ := h
  exact World.block_lt_of_cell? (w := w) (a := ⟨r, 0, none⟩) h0
theorem RQ.below {w w' : World} {r room : Nat} {L : List Ent} (h : RQ w r room L) (hb : Below w.heap.size w w') : RQ w' r room L := by
  have hr := h.lt
  obtain ⟨v, h0, h1, h2, h3⟩ := h
  exact ⟨v, (hb.cell (p := ⟨r, _, none⟩) hr).trans h0, (hb.cell (p := ⟨r, _, none⟩) hr).trans h1, fun o => (hb.frozen (p := ⟨r, _, none⟩) hr).trans (h2 o), own_keep h3 hb⟩
set_option maxHeartbeats 1000000 in
theorem refnew_in (room : Nat) (h1 : 1 ≤ room) (h2 : room ≤ 16) (w : World) : Calls Try.prog 16 #[.int .i64 room] w fun e w' => e = .returned (.tuple #[.pointer (some ⟨w.heap.size, 0, none⟩), .int .i64 0]) ∧ RQ w' w.heap.size room [] ∧ Below w.heap.size w w' := by
  have h1' : (1 : Int) ≤ (room : Int) := by omega
  have h2' : (room : Int) ≤ 16 := by omega
  have fin : ∀ t, RQ (w.alloc (.cells #[.int .i64 room, .slice none 0 0] t)) w.heap.size room [] := fun t =>
    ⟨.slice none 0 0, World.cell?_alloc_new w _ _ 0, World.cell?_alloc_new w _ _ 1, fun o => World.frozen?_alloc_new w _ _ o, own_nil _ _ _ _⟩
  go_enter Try.func16, Try.ntmps16
  go_wp2_with fail
  go_ret2
  exact ⟨rfl, fin _, (Below.refl _ _).alloc (Nat.le_refl _) _⟩
set_option maxHeartbeats 1000000 in
theorem refnew_out (room : Int) (h : room < 1 ∨ 16 < room) (w : World) : Calls Try.prog 16 #[.int .i64 room] w fun e w' => e = .returned (.tuple #[.pointer none, .int .i64 1]) ∧ w = w' := by
  by_cases h1 : room < 1
  · clear h
    go_enter Try.func16, Try.ntmps16
    go_wp2_with fail
    go_ret2
    exact ⟨rfl, rfl⟩
  · have h2 : 16 < room := by omega
    clear h
    go_enter Try.func16, Try.ntmps16
    go_wp2_with fail
    go_ret2
    exact ⟨rfl, rfl⟩
end Go.Proofs.Ytmiimmpiagmmlac
