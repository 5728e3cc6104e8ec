/-
  Find: what it returns. Conditions stand in each statement.
-/
import Derived.Test.YtmiimmpiagmmlacPush
import Derived.Deep.RegionHeld3
import Derived.Deep.RegionWith
namespace Go.Proofs.Ytmiimmpiagmmlac
open Go.RowKit
set_option linter.unusedVariables false
set_option linter.unusedSimpArgs false
def hit (line word : Int) (e : Ent) : Bool := e.kind == 9 && e.line == line && e.word == word
/-- The last store of a place. -/
def found (L : List Ent) (line word : Int) : Option Int := (L.reverse.find? (hit line word)).map (·.val)
theorem found_drop (L : List Ent) (line word : Int) (j : Nat) (h : found (L.drop (j + 1)) line word = none) (e : Ent) (he : L[j]? = some e) :
    found (L.drop j) line word = if hit line word e then some e.val else none := by
  have hd : L.drop j = e :: L.drop (j + 1) := by
    obtain ⟨hj, rfl⟩ := List.getElem?_eq_some_iff.1 he
    exact List.drop_eq_getElem_cons hj
  rw [hd]
  unfold found at h ⊢
  rw [List.reverse_cons, List.find?_append]
  rw [Option.map_eq_none_iff] at h
  rw [h, Option.none_or]
  by_cases hh : hit line word e = true
  · rw [if_pos hh, List.find?_singleton, if_pos hh]; rfl
  · rw [if_neg hh, List.find?_singleton, if_neg hh]; rfl
theorem found_last (L : List Ent) (line word : Int) (j : Nat) (h : found (L.drop j) line word ≠ none) : found L line word = found (L.drop j) line word := by
  have hd : L = L.take j ++ L.drop j := (List.take_append_drop j L).symm
  have hr : L.reverse = (L.drop j).reverse ++ (L.take j).reverse := by rw [← List.reverse_append, ← hd]
  unfold found at h ⊢
  rw [hr, List.find?_append]
  cases hf : (L.drop j).reverse.find? (hit line word) with
  | none => rw [hf] at h; exact absurd rfl h
  | some e => rfl
set_option maxHeartbeats 1000000 in
theorem find_none (line word : Int) (w : World) : Calls Try.prog 12 #[.pointer none, .int .i64 line, .int .i64 word] w fun r w' => r = .returned (.tuple #[.int .u64 0, .bool false]) ∧ w = w' := by
  go_enter Try.func12, Try.ntmps12
  go_wp2_with fail
  refine (len_nil _).mono ?_
  rintro r w1 ⟨rfl, rfl⟩
  go_wp2_with fail
  go_loopw [8] (fun i W => i = .int .i64 (-1) ∧ w = W) (fun i W => 0)
  case atStart => exact ⟨by go_num, rfl⟩
  case round =>
    obtain ⟨rfl, rfl⟩ := hrel
    go_wp2_with fail
    go_ret2
    exact ⟨rfl, rfl⟩
set_option maxHeartbeats 1000000 in
theorem find_some (g room : Nat) (L : List Ent) (line word : Int) (w : World) (hs : SQ w g room L) : Calls Try.prog 12 #[.pointer (some ⟨g, 0, none⟩), .int .i64 line, .int .i64 word] w fun r w' =>
    r = .returned (.tuple #[.int .u64 ((found L line word).getD 0), .bool (found L line word).isSome]) ∧ Below w.heap.size w w' := by
  obtain ⟨es, first, hB, hf, hr, hl, hel⟩ := hs
  go_enter Try.func12, Try.ntmps12
  go_wp2_with fail
  refine (len_some g es room first _ _ hB).mono ?_
  rintro r w1 ⟨rfl, rfl⟩
  have hl1 : (L.length : Int) ≤ 16 := by omega
  go_wp2_with fail
  go_loopw [8] (fun i W => ∃ (j : Nat) (q : Int), j ≤ L.length ∧ i = .int .i64 q ∧ q = (j : Int) - 1 ∧ found (L.drop j) line word = none ∧ Below w.heap.size w W) (fun i W => (intOf i + 1).toNat)
  case atStart => exact ⟨L.length, (L.length : Int) - 1, Nat.le_refl _, by go_num, rfl, by simp [found], Below.refl _ _⟩
  case round =>
    obtain ⟨j, q, hj, rfl, hq, hno, hb⟩ := hrel
    by_cases hlt : 0 < j
    · obtain ⟨m, rfl⟩ : ∃ m, j = m + 1 := ⟨j - 1, by omega⟩
      obtain rfl : q = (m : Int) := by omega
      obtain ⟨e, he⟩ : ∃ e, L[m]? = some e := ⟨_, List.getElem?_eq_getElem (by omega)⟩
      have hfd := Lib.hid (found_drop L line word m hno e he)
      have hfl := Lib.hid (found_last L line word m)
      have hBr := hB.block (hb.block g hB.lt)
      have hglr : g < wr.heap.size := hBr.lt
      have hBa : ∀ o, Buf (wr.alloc o) g es room first L.length := fun o => hBr.block (Below.heap_alloc wr o g hglr)
      have hee := hel m e he
      have hm0 : (0 : Int) ≤ (m : Int) := by omega
      have hm1 : (m : Int) < 16 := by omega
      have hm2 : m < 16 := by omega
      have hA : ∀ w', Buf w' g es room first L.length → Calls Try.prog 26 #[.pointer (some ⟨g, 0, none⟩), .int .i64 m] w' fun e w'' => e = .returned (.int .i64 (((first + m) % 16 : Nat) : Int)) ∧ w' = w'' := fun w' h => at_some g _ room first L.length m hf (by omega) w' h
      have hk : (first + m) % 16 < 16 := Nat.mod_lt _ (by omega)
      generalize (first + m) % 16 = k at *
      have k0 := hBr.kind k hk
      have k1 := hBr.line k hk
      have k2 := hBr.word k hk
      have k3 := hBr.val k hk
      have k4 := hBr.sent k hk
      rw [hee] at k0 k1 k2 k3 k4
      have hi0 : (0 : Int) ≤ (k : Int) := by omega
      have hi1 : (k : Int) < 16 := by omega
      have HL := Lib.hid hl1
      have HJ := Lib.hid hj
      have hb2 : ∀ o, Below w.heap.size w (wr.drew.alloc o) := fun o => hb.drew.alloc hb.size o
      clear hno hq hlt hj he hee hl1 hm2
      obtain ⟨ek, el, ew, ev, esn⟩ := e
      simp only at k0 k1 k2 k3 k4
      by_cases h9 : ek = 9
      · by_cases h10 : el = line
        · by_cases h11 : ew = word
          · subst h9 h10 h11
            go_wp2_with fail
            go_region_with (go_at_call 26; refine (hA _ ?_).mono ?_; (first | exact hBr.drew | exact (hBa _).drew); rintro r w4 ⟨rfl, rfl⟩)
            all_goals go_wp2_with fail
            all_goals
              have hq : found L el ew = some ev := by
                have h1 := hfd.out
                rw [if_pos (by simp [hit])] at h1
                rw [hfl.out (by rw [h1]; simp), h1]
              exact bodyPost_ret (v := .tuple #[.int .u64 ev, .bool true]) (by simp [results, Try.results12, go_sem]) rfl ⟨by rw [hq]; rfl, hb2 _⟩
          · have h11' : (ew == word) = false := by simpa using h11
            have hq : Hid (found (L.drop m) line word = none) := by
              have h1 := hfd.out
              rw [if_neg (by simp [hit, h11])] at h1
              exact h1
            subst h9 h10
            clear h11
            go_wp2_with fail
            go_region_with (go_at_call 26; refine (hA _ ?_).mono ?_; (first | exact hBr.drew | exact (hBa _).drew); rintro r w4 ⟨rfl, rfl⟩)
            all_goals go_wp2_with fail
            all_goals exact ⟨⟨m, (m : Int) - 1, by have := HJ.out; omega, rfl, rfl, hq.out, hb2 _⟩, by simp [intOf]⟩
        · have h10' : (el == line) = false := by simpa using h10
          have hq : Hid (found (L.drop m) line word = none) := by
            have h1 := hfd.out
            rw [if_neg (by simp [hit, h10])] at h1
            exact h1
          subst h9
          clear h10
          go_wp2_with fail
          go_region_with (go_at_call 26; refine (hA _ ?_).mono ?_; (first | exact hBr.drew | exact (hBa _).drew); rintro r w4 ⟨rfl, rfl⟩)
          all_goals go_wp2_with fail
          all_goals exact ⟨⟨m, (m : Int) - 1, by have := HJ.out; omega, rfl, rfl, hq.out, hb2 _⟩, by simp [intOf]⟩
      · have h9' : (ek == 9) = false := by simpa using h9
        have hq : Hid (found (L.drop m) line word = none) := by
          have h1 := hfd.out
          rw [if_neg (by simp [hit, h9])] at h1
          exact h1
        clear h9
        go_wp2_with fail
        go_region_with (go_at_call 26; refine (hA _ ?_).mono ?_; (first | exact hBr.drew | exact (hBa _).drew); rintro r w4 ⟨rfl, rfl⟩)
        all_goals go_wp2_with fail
        all_goals exact ⟨⟨m, (m : Int) - 1, by have := HJ.out; omega, rfl, rfl, hq.out, hb2 _⟩, by simp [intOf]⟩
    · obtain rfl : j = 0 := by omega
      obtain rfl : q = -1 := by omega
      clear hlt
      rw [List.drop_zero] at hno
      have HN := Lib.hid hno
      clear hno hel hB hq
      go_wp2_with fail
      exact bodyPost_ret (v := .tuple #[.int .u64 0, .bool false]) (by simp [results, Try.results12, go_sem]) rfl ⟨by rw [HN.out]; rfl, hb⟩
end Go.Proofs.Ytmiimmpiagmmlac
