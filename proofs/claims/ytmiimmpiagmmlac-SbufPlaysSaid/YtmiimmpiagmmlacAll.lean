/-
  All: what it returns, in new memory. Conditions stand in each statement.
-/
import Derived.Test.YtmiimmpiagmmlacSend
import Derived.Deep.RegionHeld3
import Derived.Deep.RegionWith
import Derived.Deep.AppendLies
namespace Go.Proofs.Ytmiimmpiagmmlac
open Go.RowKit
set_option linter.unusedVariables false
set_option linter.unusedSimpArgs false
def Ent.cells (e : Ent) : List Value := [.int .i64 e.kind, .int .i64 e.line, .int .i64 e.word, .int .u64 e.val, .bool e.sent]
def rowE (L : List Ent) : List Value := L.flatMap Ent.cells
theorem rowE_append (l m : List Ent) : rowE (l ++ m) = rowE l ++ rowE m := by simp [rowE]
theorem rowE_one (e : Ent) : rowE [e] = [.int .i64 e.kind, .int .i64 e.line, .int .i64 e.word, .int .u64 e.val, .bool e.sent] := rfl
theorem own_keep {w w' : World} {base : Nat} {e : TypeId} {size : Nat} {v : Value} {n : Nat} {xs : List Value} (h : w.ownsRow base e size v n xs) (hb : Below w.heap.size w w') : w'.ownsRow base e size v n xs := by
  refine ⟨h.1, ?_⟩
  rcases h.2 with h2 | ⟨g, cap, cur, hv, hg, hh, r⟩
  · exact .inl h2
  · refine .inr ⟨g, cap, cur, hv, hg, ?_, r⟩
    have hlt : g < w.heap.size := by
      rcases Nat.lt_or_ge g w.heap.size with h' | h'
      · exact h'
      · rw [Array.getElem?_eq_none h'] at hh; cases hh
    rw [hb.block g hlt]; exact hh
theorem own_ge {w : World} {base : Nat} {e : TypeId} {size : Nat} {v : Value} {n : Nat} {xs : List Value} (h : w.ownsRow base e size v n xs) : ∀ k, v.ownBlock = some k → base ≤ k := by
  intro k hk
  rcases h.2 with ⟨rfl, _⟩ | ⟨g, cap, cur, rfl, hg, _⟩
  · simp [Value.ownBlock] at hk
  · simp [Value.ownBlock] at hk; omega
theorem own_nil (w : World) (base : Nat) (e : TypeId) (size : Nat) : w.ownsRow base e size (.slice none 0 0) 0 [] := ⟨by simp, .inl ⟨rfl, rfl⟩⟩
theorem info31 : (Try.prog.info? 31).map (fun i => (i.zero, i.size, i.bytes)) = some (some (.agg #[.int .i64 0, .int .i64 0, .int .i64 0, .int .u64 0, .bool false]), 5, 40) := by kernel_rfl
set_option maxHeartbeats 1000000 in
theorem all_none (w : World) : Calls Try.prog 15 #[.pointer none] w fun r w' => r = .returned (.slice none 0 0) ∧ w = w' := by
  go_enter Try.func15, Try.ntmps15
  go_wp2_with fail
  refine (len_nil _).mono ?_
  rintro r w1 ⟨rfl, rfl⟩
  go_wp2_with fail
  go_loopw [3, 7] (fun v i W => v = .slice none 0 0 ∧ i = .int .i64 0 ∧ w = W) (fun _ i W => 0)
  case atStart => exact ⟨rfl, rfl, rfl⟩
  case round =>
    obtain ⟨rfl, rfl, rfl⟩ := hrel
    go_wp2_with fail
    go_ret
    exact ⟨rfl, rfl⟩
set_option maxHeartbeats 2000000 in
theorem all_some (g room : Nat) (L : List Ent) (w : World) (hs : SQ w g room L) : Calls Try.prog 15 #[.pointer (some ⟨g, 0, none⟩)] w fun r w' =>
    ∃ v, r = .returned v ∧ w'.ownsRow w.heap.size 31 5 v L.length (rowE L) ∧ Below w.heap.size w w' := by
  obtain ⟨i0, hi0, hz0, hz1, hz2⟩ := info_parts info31
  obtain ⟨es, first, hB, hf, hr, hl, hel⟩ := hs
  have hgl := hB.lt
  go_enter Try.func15, Try.ntmps15
  go_wp2_with fail
  refine (len_some g es room first _ _ hB).mono ?_
  rintro r w1 ⟨rfl, rfl⟩
  have HL := Lib.hid hl
  have HE := Lib.hid hel
  generalize hN : L.length = n at *
  have HN := Lib.hid hN
  have hn' : (n : Int) ≤ 16 := by omega
  clear hel hl hN
  go_wp2_with fail
  go_loopw [3, 7] (fun v i W => ∃ j : Nat, (j : Int) ≤ n ∧ i = .int .i64 j ∧ W.ownsRow w.heap.size 31 5 v j (rowE (L.take j)) ∧ Below w.heap.size w W) (fun _ i _ => n - (intOf i).toNat)
  case atStart => exact ⟨0, by omega, rfl, own_nil _ _ _ _, Below.refl _ _⟩
  case round =>
    obtain ⟨j, hj, rfl, hown, hbel⟩ := hrel
    by_cases hlt : (j : Int) < n
    · have hj0 : (0:Int) ≤ (j:Int) := by omega
      have hj16 : (j : Int) < 16 := by omega
      obtain ⟨e, hget⟩ : ∃ e, L[j]? = some e := ⟨L[j]'(by rw [HN.out]; omega), List.getElem?_eq_getElem (by rw [HN.out]; omega)⟩
      have htake : L.take (j + 1) = L.take j ++ [e] := by rw [List.take_add_one, hget]; rfl
      have hee := HE.out j e hget
      have HK := Lib.hid htake
      have hBr := hB.block (hbel.block g hgl)
      have hglr : g < wr.heap.size := hBr.lt
      have hBa : ∀ o, Buf (wr.alloc o) g es room first n := fun o => hBr.block (Below.heap_alloc wr o g hglr)
      have hA : ∀ w', Buf w' g es room first n → Calls Try.prog 26 #[.pointer (some ⟨g, 0, none⟩), .int .i64 j] w' fun e w'' => e = .returned (.int .i64 (((first + j) % 16 : Nat) : Int)) ∧ w' = w'' := fun w' h => at_some g _ room first n j hf (by omega) w' h
      have hk : (first + j) % 16 < 16 := Nat.mod_lt _ (by omega)
      generalize (first + j) % 16 = k at *
      have k0 := hBr.kind k hk
      have k1 := hBr.line k hk
      have k2 := hBr.word k hk
      have k3 := hBr.val k hk
      have k4 := hBr.sent k hk
      rw [hee] at k0 k1 k2 k3 k4
      have hi00 : (0 : Int) ≤ (k : Int) := by omega
      have hi1 : (k : Int) < 16 := by omega
      clear hget htake hee
      have hc2 : ∀ u ∈ [Value.int .i64 e.kind, .int .i64 e.line, .int .i64 e.word, .int .u64 e.val, .bool e.sent], u.oneCell' = true := by simp [Value.oneCell']
      have hc3 : j + 1 ≤ maxLen := by unfold maxLen; omega
      have hc4 : (j + 1) * 40 ≤ 140737488355328 := by omega
      have hc5 : ∀ o : Obj, w.heap.size ≤ (wr.alloc o).drew.heap.size := fun o => Nat.le_trans hbel.size (by simp)
      have HC2 := Lib.hid hc2
      have HC5 := Lib.hid hc5
      clear hc2 hc5
      go_wp2_with fail
      have hf : ∀ (X : Obj) (w2 : World), (wr.alloc X).drew.grownBy w2 u3.ownBlock → w2.cell? ⟨g, k * 5, none⟩ = some (.int .i64 e.kind) ∧ w2.cell? ⟨g, k * 5 + 1, none⟩ = some (.int .i64 e.line) ∧ w2.cell? ⟨g, k * 5 + 2, none⟩ = some (.int .i64 e.word) ∧ w2.cell? ⟨g, k * 5 + 3, none⟩ = some (.int .u64 e.val) ∧ w2.cell? ⟨g, k * 5 + 4, none⟩ = some (.bool e.sent) := by
        intro X w2 hgr
        have hne : some g ≠ u3.ownBlock := fun e => by have := own_ge hown g e.symm; omega
        have hb2 : g < (wr.alloc X).drew.heap.size := by simp; omega
        refine ⟨?_, ?_, ?_, ?_, ?_⟩
        · rw [hgr.cell_far ⟨g, _, none⟩ hb2 hne, World.cell?_drew, World.cell?_alloc_lt wr X ⟨g, _, none⟩ hglr]; exact k0
        · rw [hgr.cell_far ⟨g, _, none⟩ hb2 hne, World.cell?_drew, World.cell?_alloc_lt wr X ⟨g, _, none⟩ hglr]; exact k1
        · rw [hgr.cell_far ⟨g, _, none⟩ hb2 hne, World.cell?_drew, World.cell?_alloc_lt wr X ⟨g, _, none⟩ hglr]; exact k2
        · rw [hgr.cell_far ⟨g, _, none⟩ hb2 hne, World.cell?_drew, World.cell?_alloc_lt wr X ⟨g, _, none⟩ hglr]; exact k3
        · rw [hgr.cell_far ⟨g, _, none⟩ hb2 hne, World.cell?_drew, World.cell?_alloc_lt wr X ⟨g, _, none⟩ hglr]; exact k4
      have HF := Lib.hid hf; clear hf
      have HO := Lib.hid hown; clear hown
      go_region_held3 (fun w' => w'.cell? ⟨g, k * 5, none⟩ = some (.int .i64 e.kind) ∧ w'.cell? ⟨g, k * 5 + 1, none⟩ = some (.int .i64 e.line) ∧ w'.cell? ⟨g, k * 5 + 2, none⟩ = some (.int .i64 e.word) ∧ w'.cell? ⟨g, k * 5 + 3, none⟩ = some (.int .u64 e.val) ∧ w'.cell? ⟨g, k * 5 + 4, none⟩ = some (.bool e.sent)) (first | go_keep | exact HF.out _ _ hgrow)
        (first
          | (go_at_call 26; refine (hA _ hBr.drew).mono ?_; rintro r w4 ⟨rfl, rfl⟩)
          | (refine step_append_lies _ (by rfl) (.tmp 10) (.tmp 19) 40 (by rfl) w.heap.size 31 i0 _ 5 40 Try.underlying40 hi0 hz0 hz1 hz2 (by rfl) (by decide) u3 j (rowE (L.take j)) (by rfl) ((own_keep HO.out ((Below.refl _ _).alloc (Nat.le_refl _) _)).drew) ⟨wr.heap.size, 0, none⟩ 1 1 [.int .i64 e.kind, .int .i64 e.line, .int .i64 e.word, .int .u64 e.val, .bool e.sent] (by rfl) (by rfl) (World.news_of_block (heap_alloc_new wr _)) HC2.out (by omega) hc3 hc4 (HC5.out _) _ rfl ?_; intro g2 cap2 w2 hown2 hgrow hat hlt2))
      all_goals
        have hb3 : Below w.heap.size w w2 := ((hbel.alloc hbel.size _).drew).grown hgrow (Nat.le_trans hbel.size (by simp)) (own_ge HO.out)
        have hx : w2.ownsRow w.heap.size 31 5 (.slice (some ⟨g2, 0, none⟩) (j + 1) cap2) (j + 1) (rowE (L.take (j + 1))) := by
          rw [HK.out, rowE_append]
          exact hown2
        clear hgrow hat hlt2 hbel k0 k1 k2 k3 k4 hown2
        go_wp2_with fail
        go_roundw
        case rel => exact ⟨j + 1, by omega, by go_num, hx, hb3⟩
        case measure => simp [intOf]; omega
    · have hjn : j = n := by omega
      have hall : L.take j = L := by rw [hjn, ← HN.out]; exact List.take_length
      rw [hall] at hown
      subst hjn
      go_wp2_with fail
      go_ret
      exact ⟨u3, rfl, by rw [HN.out]; exact hown, hbel⟩
end Go.Proofs.Ytmiimmpiagmmlac
