/-
  The reference Pop and Send: what the buffer holds then. Conditions stand in each statement.
-/
import Derived.Test.YtmiimmpiagmmlacRef
namespace Go.Proofs.Ytmiimmpiagmmlac
open Go.RowKit
set_option linter.unusedVariables false
set_option linter.unusedSimpArgs false
theorem wpList_append_src {P : Program} {w : World} {ops : Array Oper} {rest : List Oper} {o : Oper} {a : Act} {Q : Exit → Act → World → Prop} (hgd : o.guard = none) (s x : Operand) (t : TypeId)
    (ho : o.op = .call { callee := .builtin .append, args := #[s, x], argTypes := #[t, t] })
    (base : Nat) (e : TypeId) (i : TypeInfo) (z : Value) (size bytes : Nat) (ht : P.underlying t = some (.slice e)) (hi : P.info? e = some i) (hz : i.zero = some z)
    (hsize : i.size = size) (hby : i.bytes = bytes) (hzs : z.cells.size = size) (hsz : 0 < size)
    (v : Value) (n : Nat) (xs : List Value) (hs : a.eval s = v) (hown : w.ownsRow base e size v n xs)
    (A : Option Addr) (m c : Nat) (news : List Value) (hx : a.eval x = .slice A m c) (hsrc : Src w A m c size news) (h1 : ∀ u ∈ news, u.oneCell' = true)
    (h63 : n + m ≤ maxLen) (hbytes : (n + m) * bytes ≤ 140737488355328) (hbase : base ≤ w.heap.size)
    (h : ∀ v' w', w'.ownsRow base e size v' (n + m) (xs ++ news) → w.grownBy w' v.ownBlock → wpList P ops Q rest (a.put o.dst v') w') : wpList P ops Q (o :: rest) a w :=
  wpList_plain hgd fun K hK => wp_append_src s x t ho base e i z size bytes ht hi hz hsize hby hzs hsz v n xs hs hown A m c news hx hsrc h1 h63 hbytes hbase fun v' w' h2 h3 => hK _ _ (h v' w' h2 h3)
theorem own_read_at {w : World} {base : Nat} {t : TypeId} {v : Value} {L : List Ent} (h : w.ownsRow base t 5 v L.length (rowE L)) (hn : 0 < L.length) :
    ∃ g cap, v = .slice (some ⟨g, 0, none⟩) L.length cap ∧ base ≤ g ∧ g < w.heap.size ∧ ∀ i e, L[i]? = some e → w.cell? ⟨g, i * 5, none⟩ = some (.int .i64 e.kind) ∧ w.cell? ⟨g, i * 5 + 1, none⟩ = some (.int .i64 e.line) ∧ w.cell? ⟨g, i * 5 + 2, none⟩ = some (.int .i64 e.word) ∧ w.cell? ⟨g, i * 5 + 3, none⟩ = some (.int .u64 e.val) ∧ w.cell? ⟨g, i * 5 + 4, none⟩ = some (.bool e.sent) := by
  obtain ⟨g, cap, rfl, hb, hg⟩ := h.form hn
  refine ⟨g, cap, rfl, hb, hg, fun i e he => ?_⟩
  have hi : i < L.length := (List.getElem?_eq_some_iff.1 he).1
  obtain ⟨r0, r1, r2, r3, r4⟩ := rowE_get L i e he
  exact ⟨(h.cellAt _ (by omega)).trans r0, (h.cellAt _ (by omega)).trans r1, (h.cellAt _ (by omega)).trans r2, (h.cellAt _ (by omega)).trans r3, (h.cellAt _ (by omega)).trans r4⟩
theorem below_alloc' {w : World} (o : Obj) : Below w.heap.size w (w.alloc o) := (Below.refl _ _).alloc (Nat.le_refl _) o
set_option maxHeartbeats 1000000 in
theorem refpop_nil (r room : Nat) (w : World) (hs : RQ w r room []) : Calls Try.prog 20 #[.pointer (some ⟨r, 0, none⟩)] w fun x w' => x = .returned (.tuple #[]) ∧ w = w' := by
  obtain ⟨v, c0, c1, hz, hown⟩ := hs
  obtain ⟨A, cap, rfl, _⟩ := src_of_own hown
  clear hown
  go_enter Try.func20, Try.ntmps20
  go_wp2_with fail
  go_end0
  exact ⟨rfl, rfl⟩
set_option maxHeartbeats 2000000 in
theorem refpop_cons (r room : Nat) (e : Ent) (L : List Ent) (hl16 : L.length ≤ 16) (w : World) (hs : RQ w r room (e :: L)) : Calls Try.prog 20 #[.pointer (some ⟨r, 0, none⟩)] w fun x w' => x = .returned (.tuple #[]) ∧ RQ w' r room L ∧ w.grownBy w' (some r) := by
  have hr := hs.lt
  obtain ⟨v, c0, c1, hz, hown⟩ := hs
  obtain ⟨g, cap, rfl, hg1, hg2⟩ := hown.form (by simp)
  have hcap : L.length + 1 ≤ cap := by
    rcases hown.2 with ⟨h, _⟩ | ⟨g', cap', cur, h, _, _, h2, _⟩
    · cases h
    · injection h with _ _ h3; subst h3; exact h2
  obtain ⟨i0, hi0, hz0, hz1, hz2⟩ := info_parts info50
  have h1 := rowE_one_cell L
  have H1 := Lib.hid h1
  have hlen : (e :: L).length = L.length + 1 := rfl
  rw [hlen] at c1
  have hL1 : (0 : Int) ≤ (L.length : Int) := by omega
  have hRQ : ∀ v w4, w4.ownsRow w.heap.size 50 5 v L.length (rowE L) → Below w.heap.size w w4 → RQ (w4.setCell ⟨r, 1, none⟩ v) r room L ∧ w.grownBy (w4.setCell ⟨r, 1, none⟩ v) (some r) := fun v w4 hown4 hb4 => by
    refine ⟨⟨v, ?_, World.cell?_setCell_same w4 _ _ ((hb4.cell (p := ⟨r, 1, none⟩) hr).trans c1), fun o => ?_, ?_⟩, only_setCell (only_of_below hb4 _) rfl _⟩
    · rw [World.cell?_setCell_other _ _ _ _ (by simp)]; exact (hb4.cell (p := ⟨r, 0, none⟩) hr).trans c0
    · rw [World.frozen?_setCell]; exact (hb4.frozen (p := ⟨r, o, none⟩) hr).trans (hz o)
    · exact ownsRow_setCell_below (World.ownsRow.mono (base' := r + 1) hown4 (by omega)) (a := ⟨r, 1, none⟩) (by simp) v
  have HRQ := Lib.hid hRQ
  have hsrc : ∃ A c, (A = some ⟨g, 0, none⟩ ∧ c = 0 ∧ cap = 1 ∨ A = some ⟨g, 5, none⟩ ∧ c = cap - 1 ∧ 2 ≤ cap) ∧ Src w A L.length c 5 (rowE L) := by
    by_cases hc1 : cap = 1
    · have hl0 : L = [] := List.eq_nil_of_length_eq_zero (by omega)
      subst hl0
      exact ⟨_, _, .inl ⟨rfl, rfl, hc1⟩, .inr ⟨_, rfl, rfl, fun j u hu => by simp [rowE] at hu⟩⟩
    · refine ⟨_, _, .inr ⟨rfl, rfl, by omega⟩, .inr ⟨_, rfl, rowE_length L, fun j u hu => ?_⟩⟩
      have hj : j < L.length * 5 := by rw [← rowE_length]; exact (List.getElem?_eq_some_iff.1 hu).1
      rw [WideShapes.add_plain, hown.cellAt (5 + j) (by simp; omega)]
      have hc : rowE (e :: L) = e.cells ++ rowE L := by simp [rowE]
      rw [hc, List.getElem?_append_right (by simp [Ent.cells])]
      simpa [Ent.cells] using hu
  obtain ⟨A, c, hA, hsrc⟩ := hsrc
  have HS := Lib.hid hsrc
  have hz1' := hz 1
  clear hown hsrc h1 hlen hRQ hz c0
  rcases hA with ⟨rfl, rfl, rfl⟩ | ⟨rfl, rfl, hc2⟩
  · obtain rfl : L = [] := List.eq_nil_of_length_eq_zero (by omega)
    go_enter Try.func20, Try.ntmps20
    go_wp2_with (at_builtin; refine wpList_append_src rfl (.tmp 9) (.tmp 14) 52 rfl w.heap.size 50 i0 (.agg #[.int .i64 0, .int .i64 0, .int .i64 0, .int .u64 0, .bool false]) 5 40 Try.underlying52 hi0 hz0 hz1 hz2 rfl (by decide) (.slice (some ⟨w.heap.size, 0, none⟩) 0 0) 0 [] rfl ?c1 (some ⟨g, 0, none⟩) 0 0 [] rfl ?c2 ?c3 ?c4 ?c5 ?c6 ?_)
    case c1 => exact own_fresh (heap_alloc_new w _) (Nat.le_refl _)
    case c2 => exact HS.out.below (below_alloc' _)
    case c3 => exact H1.out
    case c4 => unfold maxLen; omega
    case c5 => omega
    case c6 => simp
    intro v3 w3 hown3 hgr3
    have hb3 : Below w.heap.size w w3 := (below_alloc' (w := w) (.cells #[] 50)).grown hgr3 (by simp) (fun k hk => by simp [Value.ownBlock] at hk; omega)
    have hfin := HRQ.out v3 w3 hown3 hb3
    have hc5 := (hb3.cell (p := ⟨r, 1, none⟩) hr).trans c1
    have hz5 := (hb3.frozen (p := ⟨r, 1, none⟩) hr).trans hz1'
    obtain ⟨A3, cap3, rfl, _⟩ := src_of_own hown3
    clear hown3 hgr3 hb3
    go_wp2_with fail
    go_end0
    exact ⟨rfl, hfin⟩
  · have hc3 : (cap == 1) = false := by simpa using (by omega : ¬ cap = 1)
    have hc4 : (2 : Int) ≤ (cap : Int) := by omega
    go_enter Try.func20, Try.ntmps20
    go_wp2_with (at_builtin; refine wpList_append_src rfl (.tmp 9) (.tmp 14) 52 rfl w.heap.size 50 i0 (.agg #[.int .i64 0, .int .i64 0, .int .i64 0, .int .u64 0, .bool false]) 5 40 Try.underlying52 hi0 hz0 hz1 hz2 rfl (by decide) (.slice (some ⟨w.heap.size, 0, none⟩) 0 0) 0 [] rfl ?c1 (some ⟨g, 5, none⟩) L.length (cap - 1) (rowE L) rfl ?c2 ?c3 ?c4 ?c5 ?c6 ?_)
    case c1 => exact own_fresh (heap_alloc_new w _) (Nat.le_refl _)
    case c2 => exact HS.out.below (below_alloc' _)
    case c3 => exact H1.out
    case c4 => unfold maxLen; omega
    case c5 => omega
    case c6 => simp
    intro v3 w3 hown3 hgr3
    have hb3 : Below w.heap.size w w3 := (below_alloc' (w := w) (.cells #[] 50)).grown hgr3 (by simp) (fun k hk => by simp [Value.ownBlock] at hk; omega)
    have hfin := HRQ.out v3 w3 (by simpa using hown3) hb3
    have hc5 := (hb3.cell (p := ⟨r, 1, none⟩) hr).trans c1
    have hz5 := (hb3.frozen (p := ⟨r, 1, none⟩) hr).trans hz1'
    obtain ⟨A3, cap3, rfl, _⟩ := src_of_own hown3
    clear hown3 hgr3 hb3
    go_wp2_with fail
    go_end0
    exact ⟨rfl, hfin⟩
theorem refpop_any (r room : Nat) (L : List Ent) (hl16 : L.length ≤ 16) (w : World) (hs : RQ w r room L) : Calls Try.prog 20 #[.pointer (some ⟨r, 0, none⟩)] w fun x w' => x = .returned (.tuple #[]) ∧ RQ w' r room L.tail ∧ w.grownBy w' (some r) := by
  cases L with
  | nil => exact (refpop_nil r room w hs).mono fun x w' ⟨h1, h2⟩ => ⟨h1, h2 ▸ hs, h2 ▸ only_refl w _⟩
  | cons e L => exact refpop_cons r room e L (by simp at hl16; omega) w hs
set_option maxHeartbeats 1000000 in
theorem refsend_nil (r room : Nat) (w : World) (hs : RQ w r room []) : Calls Try.prog 22 #[.pointer (some ⟨r, 0, none⟩)] w fun x w' => x = .returned (.tuple #[]) ∧ w = w' := by
  obtain ⟨v, c0, c1, hz, hown⟩ := hs
  obtain ⟨A, cap, rfl, _⟩ := src_of_own hown
  clear hown
  go_enter Try.func22, Try.ntmps22
  go_wp2_with fail
  go_end0
  exact ⟨rfl, rfl⟩
set_option maxHeartbeats 1000000 in
theorem refsend_other (r room : Nat) (e : Ent) (L : List Ent) (hk : (e.kind == 14) = false) (w : World) (hs : RQ w r room (e :: L)) : Calls Try.prog 22 #[.pointer (some ⟨r, 0, none⟩)] w fun x w' => x = .returned (.tuple #[]) ∧ w = w' := by
  obtain ⟨v, c0, c1, hz, hown⟩ := hs
  obtain ⟨g, cap, rfl, hg1, hg2, hrd⟩ := own_read_at hown (by simp)
  obtain ⟨k0, _⟩ := hrd 0 e rfl
  rw [Nat.zero_mul] at k0
  have hlen : (e :: L).length = L.length + 1 := rfl
  rw [hlen] at c1
  have hL1 : (0 : Int) ≤ (L.length : Int) := by omega
  clear hown hrd hlen
  go_enter Try.func22, Try.ntmps22
  go_wp2_with fail
  go_end0
  exact ⟨rfl, rfl⟩
set_option maxHeartbeats 2000000 in
theorem refsend_flush (r room : Nat) (e : Ent) (L : List Ent) (hk : e.kind = 14) (hl16 : L.length ≤ 16) (w : World) (hs : RQ w r room (e :: L)) : Calls Try.prog 22 #[.pointer (some ⟨r, 0, none⟩)] w fun x w' => x = .returned (.tuple #[]) ∧ RQ w' r room ({ e with sent := true } :: L) ∧ w.grownBy w' (some r) := by
  have hr := hs.lt
  obtain ⟨v, c0, c1, hz, hown⟩ := hs
  obtain ⟨g, cap, rfl, hg1, hg2, hrd⟩ := own_read_at hown (by simp)
  obtain ⟨k0, _⟩ := hrd 0 e rfl
  rw [Nat.zero_mul, hk] at k0
  obtain ⟨A, cap', hv, hsrc⟩ := src_of_own hown
  injection hv with h1 h2 h3
  subst h1 h3
  have hlen : (e :: L).length = L.length + 1 := rfl
  rw [hlen] at c1 hsrc
  have hL1 : (0 : Int) ≤ (L.length : Int) := by omega
  obtain ⟨i0, hi0, hz0, hz1, hz2⟩ := info_parts info50
  have h1 := rowE_one_cell (e :: L)
  have H1 := Lib.hid h1
  have HS := Lib.hid hsrc
  have hz1' := hz 1
  have hRQ : ∀ g4 cap4 w4, w4.ownsRow w.heap.size 50 5 (.slice (some ⟨g4, 0, none⟩) (L.length + 1) cap4) (L.length + 1) (rowE (e :: L)) → Below w.heap.size w w4 → w.heap.size ≤ g4 →
      RQ ((w4.setCell ⟨r, 1, none⟩ (.slice (some ⟨g4, 0, none⟩) (L.length + 1) cap4)).setCell ⟨g4, 4, none⟩ (.bool true)) r room ({ e with sent := true } :: L) ∧ w.grownBy ((w4.setCell ⟨r, 1, none⟩ (.slice (some ⟨g4, 0, none⟩) (L.length + 1) cap4)).setCell ⟨g4, 4, none⟩ (.bool true)) (some r) := fun g4 cap4 w4 hown4 hb4 hg4 => by
    refine ⟨⟨.slice (some ⟨g4, 0, none⟩) (L.length + 1) cap4, ?_, ?_, fun o => ?_, ?_⟩, only_new (only_setCell (only_of_below hb4 _) rfl _) hg4 _⟩
    · rw [World.cell?_setCell_other _ _ _ _ (by simp), World.cell?_setCell_other _ _ _ _ (by simp)]; exact (hb4.cell (p := ⟨r, 0, none⟩) hr).trans c0
    · rw [World.cell?_setCell_other _ _ _ _ (by simp)]; exact World.cell?_setCell_same w4 _ _ ((hb4.cell (p := ⟨r, 1, none⟩) hr).trans c1)
    · rw [World.frozen?_setCell, World.frozen?_setCell]; exact (hb4.frozen (p := ⟨r, o, none⟩) hr).trans (hz o)
    · have hx := ownsRow_setCell_below (World.ownsRow.mono (base' := r + 1) hown4 (by omega)) (a := ⟨r, 1, none⟩) (by simp) (.slice (some ⟨g4, 0, none⟩) (L.length + 1) cap4)
      have hy := hx.stored 4 (.bool true)
      have he : (rowE (e :: L)).set 4 (.bool true) = rowE ({ e with sent := true } :: L) := by simp [rowE, Ent.cells]
      rw [he] at hy
      exact hy.1
  have HRQ := Lib.hid hRQ
  clear hown hrd hlen hsrc h1 hRQ hz c0
  go_enter Try.func22, Try.ntmps22
  go_wp2_with (at_builtin; refine wpList_append_src rfl (.tmp 19) (.tmp 23) 52 rfl w.heap.size 50 i0 (.agg #[.int .i64 0, .int .i64 0, .int .i64 0, .int .u64 0, .bool false]) 5 40 Try.underlying52 hi0 hz0 hz1 hz2 rfl (by decide) (.slice (some ⟨w.heap.size, 0, none⟩) 0 0) 0 [] rfl ?c1 (some ⟨g, 0, none⟩) (L.length + 1) cap (rowE (e :: L)) rfl ?c2 ?c3 ?c4 ?c5 ?c6 ?_)
  case c1 => exact own_fresh (heap_alloc_new w _) (Nat.le_refl _)
  case c2 => exact HS.out.below (below_alloc' _)
  case c3 => exact H1.out
  case c4 => unfold maxLen; omega
  case c5 => omega
  intro v3 w3 hown3 hgr3
  have hb3 : Below w.heap.size w w3 := (below_alloc' (w := w) (.cells #[] 50)).grown hgr3 (by simp) (fun k hk => by simp [Value.ownBlock] at hk; omega)
  obtain ⟨g4, cap4, rfl, hg4, hg4'⟩ := hown3.form (by omega)
  have hfin := HRQ.out g4 cap4 w3 hown3 hb3 hg4
  have hc5 := (hb3.cell (p := ⟨r, 1, none⟩) hr).trans c1
  have hz5 := (hb3.frozen (p := ⟨r, 1, none⟩) hr).trans hz1'
  have hne1 : r ≠ g4 := by omega
  have hne2 : g4 ≠ r := by omega
  have hs4 : w3.cell? ⟨g4, 4, none⟩ = some (.bool e.sent) := (hown3.cellAt 4 (by omega)).trans rfl
  have hf4 := hown3.frozenAt 4
  clear hown3 hgr3 hb3
  go_wp2_with fail
  go_end0
  exact ⟨rfl, hfin⟩
theorem refsend_any (r room : Nat) (L : List Ent) (hl16 : L.length ≤ 16) (w : World) (hs : RQ w r room L) : Calls Try.prog 22 #[.pointer (some ⟨r, 0, none⟩)] w fun x w' => x = .returned (.tuple #[]) ∧ RQ w' r room (sendL L) ∧ w.grownBy w' (some r) := by
  cases L with
  | nil => exact (refsend_nil r room w hs).mono fun x w' ⟨h1, h2⟩ => ⟨h1, h2 ▸ hs, h2 ▸ only_refl w _⟩
  | cons e L =>
    by_cases hk : e.kind = 14
    · rw [sendL_cons, if_pos (by simpa using hk)]
      exact refsend_flush r room e L hk (by simp at hl16; omega) w hs
    · have hk' : (e.kind == 14) = false := by simpa using hk
      rw [sendL_cons, if_neg (by simp [hk'])]
      exact (refsend_other r room e L hk' w hs).mono fun x w' ⟨h1, h2⟩ => ⟨h1, h2 ▸ hs, h2 ▸ only_refl w _⟩
end Go.Proofs.Ytmiimmpiagmmlac
