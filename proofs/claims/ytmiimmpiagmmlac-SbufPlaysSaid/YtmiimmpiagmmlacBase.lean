/-
  The block of a store buffer, New, Len, at, good and the reference Good: what they return, what they make. Conditions stand in each statement.
-/
import Derived.Test.YtmiimmpiagmmlacChecked
import Derived.WalkKit
import Derived.WalkLawsBesides
import Derived.Lib.Hide
import Derived.StillTailTactics
import Derived.Deep.QuietTactic
import Derived.BigQuiet
import Derived.RegionTactic
import Derived.BigRegion
namespace Go.Proofs.Ytmiimmpiagmmlac
open Go.RowKit
set_option linter.unusedVariables false
/-- An entry. -/
structure Ent where
  kind : Int
  line : Int
  word : Int
  val : Int
  sent : Bool
def Ent.zero : Ent := ⟨0, 0, 0, 0, false⟩
def Ent.v (e : Ent) : Value := .agg #[.int .i64 e.kind, .int .i64 e.line, .int .i64 e.word, .int .u64 e.val, .bool e.sent]
/-- What lies in the block of a buffer: sixteen places, the room, the first one's place, how many. -/
structure Buf (w : World) (g : Nat) (es : Nat → Ent) (room first n : Nat) : Prop where
  kind : ∀ i, i < 16 → w.cell? ⟨g, i * 5, none⟩ = some (.int .i64 (es i).kind)
  line : ∀ i, i < 16 → w.cell? ⟨g, i * 5 + 1, none⟩ = some (.int .i64 (es i).line)
  word : ∀ i, i < 16 → w.cell? ⟨g, i * 5 + 2, none⟩ = some (.int .i64 (es i).word)
  val : ∀ i, i < 16 → w.cell? ⟨g, i * 5 + 3, none⟩ = some (.int .u64 (es i).val)
  sent : ∀ i, i < 16 → w.cell? ⟨g, i * 5 + 4, none⟩ = some (.bool (es i).sent)
  room : w.cell? ⟨g, 80, none⟩ = some (.int .i64 room)
  first : w.cell? ⟨g, 81, none⟩ = some (.int .i64 first)
  n : w.cell? ⟨g, 82, none⟩ = some (.int .i64 n)
  free : ∀ o, w.frozen? ⟨g, o, none⟩ = false
theorem Buf.lt {w : World} {g : Nat} {es : Nat → Ent} {room first n : Nat} (h : Buf w g es room first n) : g < w.heap.size := World.block_lt_of_cell? (w := w) (a := ⟨g, 80, none⟩) h.room
set_option maxHeartbeats 1000000 in
theorem len_some (g : Nat) (es : Nat → Ent) (room first n : Nat) (w : World) (h : Buf w g es room first n) :
    Calls Try.prog 13 #[.pointer (some ⟨g, 0, none⟩)] w fun e w' => e = .returned (.int .i64 n) ∧ w = w' := by
  have hn := h.n
  clear h
  go_enter Try.func13, Try.ntmps13
  go_wp2_with fail
  go_ret
  exact ⟨rfl, rfl⟩
set_option maxHeartbeats 1000000 in
theorem len_nil (w : World) : Calls Try.prog 13 #[.pointer none] w fun e w' => e = .returned (.int .i64 0) ∧ w = w' := by
  go_enter Try.func13, Try.ntmps13
  go_wp2_with fail
  go_ret
  exact ⟨rfl, rfl⟩
set_option maxHeartbeats 1000000 in
theorem at_some (g : Nat) (es : Nat → Ent) (room first n : Nat) (i : Nat) (hf : first < 16) (hi : i ≤ 16) (w : World) (h : Buf w g es room first n) :
    Calls Try.prog 26 #[.pointer (some ⟨g, 0, none⟩), .int .i64 i] w fun e w' => e = .returned (.int .i64 (((first + i) % 16 : Nat) : Int)) ∧ w = w' := by
  have hn := h.first
  have hf' : (first : Int) < 16 := by omega
  have hi' : (i : Int) ≤ 16 := by omega
  clear h
  go_enter Try.func26, Try.ntmps26
  go_wp2_with fail
  go_ret
  exact ⟨by simp, rfl⟩
/-- The cells of a buffer that is zero. -/
def zEnt : List Value := [.int .i64 0, .int .i64 0, .int .i64 0, .int .u64 0, .bool false]
def zb : Array Value := ((List.replicate 16 zEnt).flatten ++ [Value.int .i64 0, Value.int .i64 0, Value.int .i64 0]).toArray
theorem zb_size : zb.size = 83 := by rfl
theorem zero63 (w : World) : (zeroValue 63).run Try.prog w = .ok (.agg zb) w := by kernel_rfl
theorem zb_at (i : Nat) (hi : i < 16) : zb[i * 5]? = some (.int .i64 0) ∧ zb[i * 5 + 1]? = some (.int .i64 0) ∧ zb[i * 5 + 2]? = some (.int .i64 0) ∧ zb[i * 5 + 3]? = some (.int .u64 0) ∧ zb[i * 5 + 4]? = some (.bool false) := by
  match i, hi with
  | 0, _ => exact ⟨rfl, rfl, rfl, rfl, rfl⟩
  | 1, _ => exact ⟨rfl, rfl, rfl, rfl, rfl⟩
  | 2, _ => exact ⟨rfl, rfl, rfl, rfl, rfl⟩
  | 3, _ => exact ⟨rfl, rfl, rfl, rfl, rfl⟩
  | 4, _ => exact ⟨rfl, rfl, rfl, rfl, rfl⟩
  | 5, _ => exact ⟨rfl, rfl, rfl, rfl, rfl⟩
  | 6, _ => exact ⟨rfl, rfl, rfl, rfl, rfl⟩
  | 7, _ => exact ⟨rfl, rfl, rfl, rfl, rfl⟩
  | 8, _ => exact ⟨rfl, rfl, rfl, rfl, rfl⟩
  | 9, _ => exact ⟨rfl, rfl, rfl, rfl, rfl⟩
  | 10, _ => exact ⟨rfl, rfl, rfl, rfl, rfl⟩
  | 11, _ => exact ⟨rfl, rfl, rfl, rfl, rfl⟩
  | 12, _ => exact ⟨rfl, rfl, rfl, rfl, rfl⟩
  | 13, _ => exact ⟨rfl, rfl, rfl, rfl, rfl⟩
  | 14, _ => exact ⟨rfl, rfl, rfl, rfl, rfl⟩
  | 15, _ => exact ⟨rfl, rfl, rfl, rfl, rfl⟩
  | n + 16, h => exact absurd h (by omega)
theorem new_buf (w : World) (room : Nat) : Buf (w.alloc (.cells (zb.setIfInBounds 80 (.int .i64 room)) 63)) w.heap.size (fun _ => Ent.zero) room 0 0 := by
  have hc : ∀ k, (w.alloc (.cells (zb.setIfInBounds 80 (.int .i64 room)) 63)).cell? ⟨w.heap.size, k, none⟩ = (zb.setIfInBounds 80 (.int .i64 room))[k]? := fun k => World.cell?_alloc_new w _ _ k
  have hs : ∀ k, k ≠ 80 → (zb.setIfInBounds 80 (.int .i64 room))[k]? = zb[k]? := fun k hk => by rw [Array.getElem?_setIfInBounds_ne (by omega)]
  refine ⟨fun i hi => ?_, fun i hi => ?_, fun i hi => ?_, fun i hi => ?_, fun i hi => ?_, ?_, ?_, ?_, fun o => ?_⟩
  · rw [hc, hs _ (by omega)]; exact (zb_at i hi).1
  · rw [hc, hs _ (by omega)]; exact (zb_at i hi).2.1
  · rw [hc, hs _ (by omega)]; exact (zb_at i hi).2.2.1
  · rw [hc, hs _ (by omega)]; exact (zb_at i hi).2.2.2.1
  · rw [hc, hs _ (by omega)]; exact (zb_at i hi).2.2.2.2
  · rw [hc, Array.getElem?_setIfInBounds_self_of_lt (by rw [zb_size]; omega)]
  · rw [hc, hs _ (by omega)]; rfl
  · rw [hc, hs _ (by omega)]; rfl
  · exact World.frozen?_alloc_new w _ _ o
set_option maxRecDepth 100000 in
set_option maxHeartbeats 1000000 in
theorem new_in (room : Nat) (h1 : 1 ≤ (room : Int)) (h2 : (room : Int) ≤ 16) (w : World) :
    Calls Try.prog 7 #[.int .i64 room] w fun e w' => e = .returned (.tuple #[.pointer (some ⟨w.heap.size, 0, none⟩), .int .i64 0]) ∧ w.alloc (.cells (zb.setIfInBounds 80 (.int .i64 room)) 63) = w' := by
  have hz := zero63
  have hs := zb_size
  go_enter Try.func7, Try.ntmps7
  go_wp2_with fail
  go_ret2
  exact ⟨rfl, rfl⟩
set_option maxHeartbeats 1000000 in
theorem new_out (room : Int) (h : room < 1 ∨ 16 < room) (w : World) :
    Calls Try.prog 7 #[.int .i64 room] w fun e w' => e = .returned (.tuple #[.pointer none, .int .i64 1]) ∧ w = w' := by
  by_cases h1 : room < 1
  · clear h
    go_enter Try.func7, Try.ntmps7
    go_wp2_with fail
    go_ret2
    exact ⟨rfl, rfl⟩
  · have h2 : 16 < room := by omega
    clear h
    go_enter Try.func7, Try.ntmps7
    go_wp2_with fail
    go_ret2
    exact ⟨rfl, rfl⟩
def goodE (e : Ent) : Bool := decide (0 ≤ e.line ∧ e.line < 64) && decide (0 ≤ e.word ∧ e.word < 8) && !e.sent && (e.kind == 9 || (e.kind == 12 || e.kind == 13 || e.kind == 14) && (e.word == 0 && e.val == 0))
set_option maxHeartbeats 1000000 in
theorem good_bad1 (kind line word val : Int) (s : Bool) (h1 : line < 0) (w : World) :
    Calls Try.prog 25 #[.agg #[.int .i64 kind, .int .i64 line, .int .i64 word, .int .u64 val, .bool s]] w fun e w' => e = .returned (.bool false) ∧ Below w.heap.size w w' := by
  have fin : ∀ o : Obj, Below w.heap.size w (w.alloc o) := fun o => (Below.refl _ _).alloc (Nat.le_refl _) _
  go_enter Try.func25, Try.ntmps25
  go_wp2_with fail
  go_ret
  first | exact ⟨rfl, fin _⟩ | exact ⟨by simp; omega, fin _⟩
set_option maxHeartbeats 1000000 in
theorem good_bad2 (kind line word val : Int) (s : Bool) (h1 : 0 ≤ line) (h1' : 64 ≤ line) (w : World) :
    Calls Try.prog 25 #[.agg #[.int .i64 kind, .int .i64 line, .int .i64 word, .int .u64 val, .bool s]] w fun e w' => e = .returned (.bool false) ∧ Below w.heap.size w w' := by
  have fin : ∀ o : Obj, Below w.heap.size w (w.alloc o) := fun o => (Below.refl _ _).alloc (Nat.le_refl _) _
  go_enter Try.func25, Try.ntmps25
  go_wp2_with fail
  go_ret
  first | exact ⟨rfl, fin _⟩ | exact ⟨by simp; omega, fin _⟩
set_option maxHeartbeats 1000000 in
theorem good_bad3 (kind line word val : Int) (s : Bool) (h1 : 0 ≤ line) (h2 : line < 64) (h3 : word < 0) (w : World) :
    Calls Try.prog 25 #[.agg #[.int .i64 kind, .int .i64 line, .int .i64 word, .int .u64 val, .bool s]] w fun e w' => e = .returned (.bool false) ∧ Below w.heap.size w w' := by
  have fin : ∀ o : Obj, Below w.heap.size w (w.alloc o) := fun o => (Below.refl _ _).alloc (Nat.le_refl _) _
  go_enter Try.func25, Try.ntmps25
  go_wp2_with fail
  go_ret
  first | exact ⟨rfl, fin _⟩ | exact ⟨by simp; omega, fin _⟩
set_option maxHeartbeats 1000000 in
theorem good_bad4 (kind line word val : Int) (s : Bool) (h1 : 0 ≤ line) (h2 : line < 64) (h3 : 0 ≤ word) (h3' : 8 ≤ word) (w : World) :
    Calls Try.prog 25 #[.agg #[.int .i64 kind, .int .i64 line, .int .i64 word, .int .u64 val, .bool s]] w fun e w' => e = .returned (.bool false) ∧ Below w.heap.size w w' := by
  have fin : ∀ o : Obj, Below w.heap.size w (w.alloc o) := fun o => (Below.refl _ _).alloc (Nat.le_refl _) _
  go_enter Try.func25, Try.ntmps25
  go_wp2_with fail
  go_ret
  first | exact ⟨rfl, fin _⟩ | exact ⟨by simp; omega, fin _⟩
set_option maxHeartbeats 1000000 in
theorem good_bad5 (kind line word val : Int) (h1 : 0 ≤ line) (h2 : line < 64) (h3 : 0 ≤ word) (h4 : word < 8) (w : World) :
    Calls Try.prog 25 #[.agg #[.int .i64 kind, .int .i64 line, .int .i64 word, .int .u64 val, .bool true]] w fun e w' => e = .returned (.bool false) ∧ Below w.heap.size w w' := by
  have fin : ∀ o : Obj, Below w.heap.size w (w.alloc o) := fun o => (Below.refl _ _).alloc (Nat.le_refl _) _
  go_enter Try.func25, Try.ntmps25
  go_wp2_with fail
  go_ret
  first | exact ⟨rfl, fin _⟩ | exact ⟨by simp; omega, fin _⟩
set_option maxHeartbeats 1000000 in
theorem good_st (kind line word val : Int) (h1 : 0 ≤ line) (h2 : line < 64) (h3 : 0 ≤ word) (h4 : word < 8) (hk : kind = 9) (w : World) :
    Calls Try.prog 25 #[.agg #[.int .i64 kind, .int .i64 line, .int .i64 word, .int .u64 val, .bool false]] w fun e w' => e = .returned (.bool true) ∧ Below w.heap.size w w' := by
  have fin : ∀ o : Obj, Below w.heap.size w (w.alloc o) := fun o => (Below.refl _ _).alloc (Nat.le_refl _) _
  subst hk
  go_enter Try.func25, Try.ntmps25
  go_wp2_with fail
  go_ret
  first | exact ⟨rfl, fin _⟩ | exact ⟨by simp; omega, fin _⟩
set_option maxHeartbeats 1000000 in
theorem good_f1 (kind line word val : Int) (h1 : 0 ≤ line) (h2 : line < 64) (h3 : 0 ≤ word) (h4 : word < 8) (hk : kind = 12 ∨ kind = 13 ∨ kind = 14) (hw : word = 0) (hv : val = 0) (w : World) :
    Calls Try.prog 25 #[.agg #[.int .i64 kind, .int .i64 line, .int .i64 word, .int .u64 val, .bool false]] w fun e w' => e = .returned (.bool true) ∧ Below w.heap.size w w' := by
  have fin : ∀ o : Obj, Below w.heap.size w (w.alloc o) := fun o => (Below.refl _ _).alloc (Nat.le_refl _) _
  subst hw
  subst hv
  rcases hk with rfl | rfl | rfl
  all_goals
    go_enter Try.func25, Try.ntmps25
    go_wp2_with fail
    go_ret
    first | exact ⟨rfl, fin _⟩ | exact ⟨by simp; omega, fin _⟩
set_option maxHeartbeats 1000000 in
theorem good_f2 (kind line word val : Int) (h1 : 0 ≤ line) (h2 : line < 64) (h3 : 0 ≤ word) (h4 : word < 8) (hk : kind = 12 ∨ kind = 13 ∨ kind = 14) (hw : (word == 0) = false) (w : World) :
    Calls Try.prog 25 #[.agg #[.int .i64 kind, .int .i64 line, .int .i64 word, .int .u64 val, .bool false]] w fun e w' => e = .returned (.bool false) ∧ Below w.heap.size w w' := by
  have fin : ∀ o : Obj, Below w.heap.size w (w.alloc o) := fun o => (Below.refl _ _).alloc (Nat.le_refl _) _
  rcases hk with rfl | rfl | rfl
  all_goals
    go_enter Try.func25, Try.ntmps25
    go_wp2_with fail
    go_ret
    first | exact ⟨rfl, fin _⟩ | exact ⟨by simp; omega, fin _⟩
set_option maxHeartbeats 1000000 in
theorem good_f3 (kind line word val : Int) (h1 : 0 ≤ line) (h2 : line < 64) (h3 : 0 ≤ word) (h4 : word < 8) (hk : kind = 12 ∨ kind = 13 ∨ kind = 14) (hw : word = 0) (hv : (val == 0) = false) (w : World) :
    Calls Try.prog 25 #[.agg #[.int .i64 kind, .int .i64 line, .int .i64 word, .int .u64 val, .bool false]] w fun e w' => e = .returned (.bool false) ∧ Below w.heap.size w w' := by
  have fin : ∀ o : Obj, Below w.heap.size w (w.alloc o) := fun o => (Below.refl _ _).alloc (Nat.le_refl _) _
  subst hw
  rcases hk with rfl | rfl | rfl
  all_goals
    go_enter Try.func25, Try.ntmps25
    go_wp2_with fail
    go_ret
    first | exact ⟨rfl, fin _⟩ | exact ⟨by simp; omega, fin _⟩
set_option maxHeartbeats 1000000 in
theorem good_no (kind line word val : Int) (h1 : 0 ≤ line) (h2 : line < 64) (h3 : 0 ≤ word) (h4 : word < 8) (k1 : (kind == 9) = false) (k2 : (kind == 12) = false) (k3 : (kind == 13) = false) (k4 : (kind == 14) = false) (w : World) :
    Calls Try.prog 25 #[.agg #[.int .i64 kind, .int .i64 line, .int .i64 word, .int .u64 val, .bool false]] w fun e w' => e = .returned (.bool false) ∧ Below w.heap.size w w' := by
  have fin : ∀ o : Obj, Below w.heap.size w (w.alloc o) := fun o => (Below.refl _ _).alloc (Nat.le_refl _) _
  go_enter Try.func25, Try.ntmps25
  go_wp2_with fail
  go_ret
  first | exact ⟨rfl, fin _⟩ | exact ⟨by simp; omega, fin _⟩
theorem good_any (e : Ent) (w : World) : Calls Try.prog 25 #[e.v] w fun r w' => r = .returned (.bool (goodE e)) ∧ Below w.heap.size w w' := by
  obtain ⟨kind, line, word, val, sent⟩ := e
  show Calls Try.prog 25 #[.agg #[.int .i64 kind, .int .i64 line, .int .i64 word, .int .u64 val, .bool sent]] w _
  by_cases l1 : line < 0
  · have e1 : goodE ⟨kind, line, word, val, sent⟩ = false := by simp only [goodE]; rw [decide_eq_false (by omega)]; simp
    rw [e1]; exact good_bad1 kind line word val sent l1 w
  · by_cases l2 : 64 ≤ line
    · have e1 : goodE ⟨kind, line, word, val, sent⟩ = false := by simp only [goodE]; rw [decide_eq_false (by omega)]; simp
      rw [e1]; exact good_bad2 kind line word val sent (by omega) l2 w
    · have eL : decide (0 ≤ line ∧ line < 64) = true := decide_eq_true (by omega)
      by_cases w1 : word < 0
      · have e1 : goodE ⟨kind, line, word, val, sent⟩ = false := by simp only [goodE]; rw [decide_eq_false (p := 0 ≤ word ∧ word < 8) (by omega)]; simp
        rw [e1]; exact good_bad3 kind line word val sent (by omega) (by omega) w1 w
      · by_cases w2 : 8 ≤ word
        · have e1 : goodE ⟨kind, line, word, val, sent⟩ = false := by simp only [goodE]; rw [decide_eq_false (p := 0 ≤ word ∧ word < 8) (by omega)]; simp
          rw [e1]; exact good_bad4 kind line word val sent (by omega) (by omega) (by omega) w2 w
        · have eW : decide (0 ≤ word ∧ word < 8) = true := decide_eq_true (by omega)
          cases sent
          · have e0 : goodE ⟨kind, line, word, val, false⟩ = (kind == 9 || (kind == 12 || kind == 13 || kind == 14) && (word == 0 && val == 0)) := by simp only [goodE]; rw [eL, eW]; simp
            rw [e0]
            by_cases k1 : kind = 9
            · subst k1
              exact good_st 9 line word val (by omega) (by omega) (by omega) (by omega) rfl w
            · have k1' : (kind == 9) = false := by simpa using k1
              by_cases k2 : kind = 12 ∨ kind = 13 ∨ kind = 14
              · have k2' : (kind == 12 || kind == 13 || kind == 14) = true := by rcases k2 with rfl | rfl | rfl <;> rfl
                rw [k1', k2', Bool.false_or, Bool.true_and]
                by_cases hw : word = 0
                · by_cases hv : val = 0
                  · have er : (word == 0 && val == 0) = true := by subst hw hv; rfl
                    rw [er]; exact good_f1 kind line word val (by omega) (by omega) (by omega) (by omega) k2 hw hv w
                  · have er : (word == 0 && val == 0) = false := by have : (val == 0) = false := by simpa using hv
                                                                    rw [this, Bool.and_false]
                    rw [er]; exact good_f3 kind line word val (by omega) (by omega) (by omega) (by omega) k2 hw (by simpa using hv) w
                · have er : (word == 0 && val == 0) = false := by have : (word == 0) = false := by simpa using hw
                                                                  rw [this, Bool.false_and]
                  rw [er]; exact good_f2 kind line word val (by omega) (by omega) (by omega) (by omega) k2 (by simpa using hw) w
              · have k2' : (kind == 12) = false := by simpa using (by omega : ¬ kind = 12)
                have k3' : (kind == 13) = false := by simpa using (by omega : ¬ kind = 13)
                have k4' : (kind == 14) = false := by simpa using (by omega : ¬ kind = 14)
                rw [k1', k2', k3', k4']
                exact good_no kind line word val (by omega) (by omega) (by omega) (by omega) k1' k2' k3' k4' w
          · have e1 : goodE ⟨kind, line, word, val, true⟩ = false := by simp [goodE]
            rw [e1]; exact good_bad5 kind line word val (by omega) (by omega) (by omega) (by omega) w
set_option maxHeartbeats 1000000 in
theorem refgood_bad1 (kind line word val : Int) (s : Bool) (h1 : line < 0) (w : World) :
    Calls Try.prog 27 #[.agg #[.int .i64 kind, .int .i64 line, .int .i64 word, .int .u64 val, .bool s]] w fun e w' => e = .returned (.bool false) ∧ Below w.heap.size w w' := by
  have fin : ∀ o : Obj, Below w.heap.size w (w.alloc o) := fun o => (Below.refl _ _).alloc (Nat.le_refl _) _
  go_enter Try.func27, Try.ntmps27
  go_wp2_with fail
  go_ret
  first | exact ⟨rfl, fin _⟩ | exact ⟨by simp; omega, fin _⟩
set_option maxHeartbeats 1000000 in
theorem refgood_bad2 (kind line word val : Int) (s : Bool) (h1 : 0 ≤ line) (h1' : 64 ≤ line) (w : World) :
    Calls Try.prog 27 #[.agg #[.int .i64 kind, .int .i64 line, .int .i64 word, .int .u64 val, .bool s]] w fun e w' => e = .returned (.bool false) ∧ Below w.heap.size w w' := by
  have fin : ∀ o : Obj, Below w.heap.size w (w.alloc o) := fun o => (Below.refl _ _).alloc (Nat.le_refl _) _
  go_enter Try.func27, Try.ntmps27
  go_wp2_with fail
  go_ret
  first | exact ⟨rfl, fin _⟩ | exact ⟨by simp; omega, fin _⟩
set_option maxHeartbeats 1000000 in
theorem refgood_bad3 (kind line word val : Int) (s : Bool) (h1 : 0 ≤ line) (h2 : line < 64) (h3 : word < 0) (w : World) :
    Calls Try.prog 27 #[.agg #[.int .i64 kind, .int .i64 line, .int .i64 word, .int .u64 val, .bool s]] w fun e w' => e = .returned (.bool false) ∧ Below w.heap.size w w' := by
  have fin : ∀ o : Obj, Below w.heap.size w (w.alloc o) := fun o => (Below.refl _ _).alloc (Nat.le_refl _) _
  go_enter Try.func27, Try.ntmps27
  go_wp2_with fail
  go_ret
  first | exact ⟨rfl, fin _⟩ | exact ⟨by simp; omega, fin _⟩
set_option maxHeartbeats 1000000 in
theorem refgood_bad4 (kind line word val : Int) (s : Bool) (h1 : 0 ≤ line) (h2 : line < 64) (h3 : 0 ≤ word) (h3' : 8 ≤ word) (w : World) :
    Calls Try.prog 27 #[.agg #[.int .i64 kind, .int .i64 line, .int .i64 word, .int .u64 val, .bool s]] w fun e w' => e = .returned (.bool false) ∧ Below w.heap.size w w' := by
  have fin : ∀ o : Obj, Below w.heap.size w (w.alloc o) := fun o => (Below.refl _ _).alloc (Nat.le_refl _) _
  go_enter Try.func27, Try.ntmps27
  go_wp2_with fail
  go_ret
  first | exact ⟨rfl, fin _⟩ | exact ⟨by simp; omega, fin _⟩
set_option maxHeartbeats 1000000 in
theorem refgood_bad5 (kind line word val : Int) (h1 : 0 ≤ line) (h2 : line < 64) (h3 : 0 ≤ word) (h4 : word < 8) (w : World) :
    Calls Try.prog 27 #[.agg #[.int .i64 kind, .int .i64 line, .int .i64 word, .int .u64 val, .bool true]] w fun e w' => e = .returned (.bool false) ∧ Below w.heap.size w w' := by
  have fin : ∀ o : Obj, Below w.heap.size w (w.alloc o) := fun o => (Below.refl _ _).alloc (Nat.le_refl _) _
  go_enter Try.func27, Try.ntmps27
  go_wp2_with fail
  go_ret
  first | exact ⟨rfl, fin _⟩ | exact ⟨by simp; omega, fin _⟩
set_option maxHeartbeats 1000000 in
theorem refgood_st (kind line word val : Int) (h1 : 0 ≤ line) (h2 : line < 64) (h3 : 0 ≤ word) (h4 : word < 8) (hk : kind = 9) (w : World) :
    Calls Try.prog 27 #[.agg #[.int .i64 kind, .int .i64 line, .int .i64 word, .int .u64 val, .bool false]] w fun e w' => e = .returned (.bool true) ∧ Below w.heap.size w w' := by
  have fin : ∀ o : Obj, Below w.heap.size w (w.alloc o) := fun o => (Below.refl _ _).alloc (Nat.le_refl _) _
  subst hk
  go_enter Try.func27, Try.ntmps27
  go_wp2_with fail
  go_ret
  first | exact ⟨rfl, fin _⟩ | exact ⟨by simp; omega, fin _⟩
set_option maxHeartbeats 1000000 in
theorem refgood_f1 (kind line word val : Int) (h1 : 0 ≤ line) (h2 : line < 64) (h3 : 0 ≤ word) (h4 : word < 8) (hk : kind = 12 ∨ kind = 13 ∨ kind = 14) (hw : word = 0) (hv : val = 0) (w : World) :
    Calls Try.prog 27 #[.agg #[.int .i64 kind, .int .i64 line, .int .i64 word, .int .u64 val, .bool false]] w fun e w' => e = .returned (.bool true) ∧ Below w.heap.size w w' := by
  have fin : ∀ o : Obj, Below w.heap.size w (w.alloc o) := fun o => (Below.refl _ _).alloc (Nat.le_refl _) _
  subst hw
  subst hv
  rcases hk with rfl | rfl | rfl
  all_goals
    go_enter Try.func27, Try.ntmps27
    go_wp2_with fail
    go_ret
    first | exact ⟨rfl, fin _⟩ | exact ⟨by simp; omega, fin _⟩
set_option maxHeartbeats 1000000 in
theorem refgood_f2 (kind line word val : Int) (h1 : 0 ≤ line) (h2 : line < 64) (h3 : 0 ≤ word) (h4 : word < 8) (hk : kind = 12 ∨ kind = 13 ∨ kind = 14) (hw : (word == 0) = false) (w : World) :
    Calls Try.prog 27 #[.agg #[.int .i64 kind, .int .i64 line, .int .i64 word, .int .u64 val, .bool false]] w fun e w' => e = .returned (.bool false) ∧ Below w.heap.size w w' := by
  have fin : ∀ o : Obj, Below w.heap.size w (w.alloc o) := fun o => (Below.refl _ _).alloc (Nat.le_refl _) _
  rcases hk with rfl | rfl | rfl
  all_goals
    go_enter Try.func27, Try.ntmps27
    go_wp2_with fail
    go_ret
    first | exact ⟨rfl, fin _⟩ | exact ⟨by simp; omega, fin _⟩
set_option maxHeartbeats 1000000 in
theorem refgood_f3 (kind line word val : Int) (h1 : 0 ≤ line) (h2 : line < 64) (h3 : 0 ≤ word) (h4 : word < 8) (hk : kind = 12 ∨ kind = 13 ∨ kind = 14) (hw : word = 0) (hv : (val == 0) = false) (w : World) :
    Calls Try.prog 27 #[.agg #[.int .i64 kind, .int .i64 line, .int .i64 word, .int .u64 val, .bool false]] w fun e w' => e = .returned (.bool false) ∧ Below w.heap.size w w' := by
  have fin : ∀ o : Obj, Below w.heap.size w (w.alloc o) := fun o => (Below.refl _ _).alloc (Nat.le_refl _) _
  subst hw
  rcases hk with rfl | rfl | rfl
  all_goals
    go_enter Try.func27, Try.ntmps27
    go_wp2_with fail
    go_ret
    first | exact ⟨rfl, fin _⟩ | exact ⟨by simp; omega, fin _⟩
set_option maxHeartbeats 1000000 in
theorem refgood_no (kind line word val : Int) (h1 : 0 ≤ line) (h2 : line < 64) (h3 : 0 ≤ word) (h4 : word < 8) (k1 : (kind == 9) = false) (k2 : (kind == 12) = false) (k3 : (kind == 13) = false) (k4 : (kind == 14) = false) (w : World) :
    Calls Try.prog 27 #[.agg #[.int .i64 kind, .int .i64 line, .int .i64 word, .int .u64 val, .bool false]] w fun e w' => e = .returned (.bool false) ∧ Below w.heap.size w w' := by
  have fin : ∀ o : Obj, Below w.heap.size w (w.alloc o) := fun o => (Below.refl _ _).alloc (Nat.le_refl _) _
  go_enter Try.func27, Try.ntmps27
  go_wp2_with fail
  go_ret
  first | exact ⟨rfl, fin _⟩ | exact ⟨by simp; omega, fin _⟩
theorem refgood_any (e : Ent) (w : World) : Calls Try.prog 27 #[e.v] w fun r w' => r = .returned (.bool (goodE e)) ∧ Below w.heap.size w w' := by
  obtain ⟨kind, line, word, val, sent⟩ := e
  show Calls Try.prog 27 #[.agg #[.int .i64 kind, .int .i64 line, .int .i64 word, .int .u64 val, .bool sent]] w _
  by_cases l1 : line < 0
  · have e1 : goodE ⟨kind, line, word, val, sent⟩ = false := by simp only [goodE]; rw [decide_eq_false (by omega)]; simp
    rw [e1]; exact refgood_bad1 kind line word val sent l1 w
  · by_cases l2 : 64 ≤ line
    · have e1 : goodE ⟨kind, line, word, val, sent⟩ = false := by simp only [goodE]; rw [decide_eq_false (by omega)]; simp
      rw [e1]; exact refgood_bad2 kind line word val sent (by omega) l2 w
    · have eL : decide (0 ≤ line ∧ line < 64) = true := decide_eq_true (by omega)
      by_cases w1 : word < 0
      · have e1 : goodE ⟨kind, line, word, val, sent⟩ = false := by simp only [goodE]; rw [decide_eq_false (p := 0 ≤ word ∧ word < 8) (by omega)]; simp
        rw [e1]; exact refgood_bad3 kind line word val sent (by omega) (by omega) w1 w
      · by_cases w2 : 8 ≤ word
        · have e1 : goodE ⟨kind, line, word, val, sent⟩ = false := by simp only [goodE]; rw [decide_eq_false (p := 0 ≤ word ∧ word < 8) (by omega)]; simp
          rw [e1]; exact refgood_bad4 kind line word val sent (by omega) (by omega) (by omega) w2 w
        · have eW : decide (0 ≤ word ∧ word < 8) = true := decide_eq_true (by omega)
          cases sent
          · have e0 : goodE ⟨kind, line, word, val, false⟩ = (kind == 9 || (kind == 12 || kind == 13 || kind == 14) && (word == 0 && val == 0)) := by simp only [goodE]; rw [eL, eW]; simp
            rw [e0]
            by_cases k1 : kind = 9
            · subst k1
              exact refgood_st 9 line word val (by omega) (by omega) (by omega) (by omega) rfl w
            · have k1' : (kind == 9) = false := by simpa using k1
              by_cases k2 : kind = 12 ∨ kind = 13 ∨ kind = 14
              · have k2' : (kind == 12 || kind == 13 || kind == 14) = true := by rcases k2 with rfl | rfl | rfl <;> rfl
                rw [k1', k2', Bool.false_or, Bool.true_and]
                by_cases hw : word = 0
                · by_cases hv : val = 0
                  · have er : (word == 0 && val == 0) = true := by subst hw hv; rfl
                    rw [er]; exact refgood_f1 kind line word val (by omega) (by omega) (by omega) (by omega) k2 hw hv w
                  · have er : (word == 0 && val == 0) = false := by have : (val == 0) = false := by simpa using hv
                                                                    rw [this, Bool.and_false]
                    rw [er]; exact refgood_f3 kind line word val (by omega) (by omega) (by omega) (by omega) k2 hw (by simpa using hv) w
                · have er : (word == 0 && val == 0) = false := by have : (word == 0) = false := by simpa using hw
                                                                  rw [this, Bool.false_and]
                  rw [er]; exact refgood_f2 kind line word val (by omega) (by omega) (by omega) (by omega) k2 (by simpa using hw) w
              · have k2' : (kind == 12) = false := by simpa using (by omega : ¬ kind = 12)
                have k3' : (kind == 13) = false := by simpa using (by omega : ¬ kind = 13)
                have k4' : (kind == 14) = false := by simpa using (by omega : ¬ kind = 14)
                rw [k1', k2', k3', k4']
                exact refgood_no kind line word val (by omega) (by omega) (by omega) (by omega) k1' k2' k3' k4' w
          · have e1 : goodE ⟨kind, line, word, val, true⟩ = false := by simp [goodE]
            rw [e1]; exact refgood_bad5 kind line word val (by omega) (by omega) (by omega) (by omega) w
end Go.Proofs.Ytmiimmpiagmmlac
