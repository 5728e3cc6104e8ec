/-
Parts of the walk of TopEnds. Conditions stand in each statement.
-/
import Derived.Deep.AppendLies
import Derived.MapKept
import Derived.Laws.EntriesVeiled
import Derived.Maps.RangeRun
import Derived.Laws.IdiomRangeMap
import Derived.Lib.Strings
import Derived.Lib.Slices
import Derived.Lib.Walk
import Derived.Lib.Bytealg
import Derived.Lib.ConvBytes
import Derived.Lib.OthersKept
import Derived.Laws.RangeAny
import Derived.Test.YtkoplblbeapfgaaGreatDoorX02
namespace Go.Proofs.YtkoplblbeapfgaaGreatDoor
open Go.RowKit
open Tryz
set_option linter.all false
set_option maxRecDepth 100000
set_option maxHeartbeats 8000000
namespace Sb
structure Ent where
 kind : Int
 line : Int
 word : Int
 val : Int
 sent : Bool
def Ent.zero : Ent := ⟨0, 0, 0, 0, false⟩
def Ent.v (e : Ent) : Value := .agg #[I e.kind, I e.line, I e.word, e.val, e.sent]
structure Buf (w : World) (g : Nat) (es : Nat → Ent) (room first n : Nat) : Prop where
 kind : ∀ i, i < 16 → w.cell? ⟨g, i * 5, none⟩ = some (I (es i).kind)
 line : ∀ i, i < 16 → w.cell? ⟨g, i * 5 + 1, none⟩ = some (I (es i).line)
 word : ∀ i, i < 16 → w.cell? ⟨g, i * 5 + 2, none⟩ = some (I (es i).word)
 val : ∀ i, i < 16 → w.cell? ⟨g, i * 5 + 3, none⟩ = some (U (es i).val)
 sent : ∀ i, i < 16 → w.cell? ⟨g, i * 5 + 4, none⟩ = some (.bool (es i).sent)
 room : w.cell? ⟨g, 80, none⟩ = I room
 first : w.cell? ⟨g, 81, none⟩ = I first
 n : w.cell? ⟨g, 82, none⟩ = I n
 free : ∀ o, w.frozen? ⟨g, o, none⟩ = false
theorem Buf.lt {w : World} {g : Nat} {es : Nat → Ent} {room first n : Nat} (h : Buf w g es room first n) : g < w.heap.size := World.block_lt_of_cell? (w := w) (a := ⟨g, 80, none⟩) h.room
theorem len_some (g : Nat) (es : Nat → Ent) (room first n : Nat) (w : World) (h : Buf w g es room first n) :
 Y 126 #[g] w fun e w' => e = Z (I n) ∧ w = w' := by
 have hn := h.n
 clear h
 go_enter func126, ntmps126
 go_wp2_with fail
 go_ret
 exact ⟨rfl, rfl⟩
theorem IT (g : Nat) (es : Nat → Ent) (room first n : Nat) (i : Nat) (hf : first < 16) (hi : i ≤ 16) (w : World) (h : Buf w g es room first n) :
 Y 127 #[g, I i] w fun e w' => e = Z (I (((first + i) % 16 : Nat) : Int)) ∧ w = w' := by
 have hn := h.first
 have hf' : (first : Int) < 16 := by omega
 have hi' : (i : Int) ≤ 16 := by omega
 clear h
 go_enter func127, ntmps127
 go_wp2_with fail
 go_ret
 exact ⟨by simp, rfl⟩
def VK : List Value := [I 0, I 0, I 0, U 0, .bool false]
def zb : Array Value := ((List.replicate 16 VK).flatten ++ [I 0, I 0, I 0]).toArray
theorem Nt : zb.size = 83 := by rfl
theorem TR (w : World) : (zeroValue 258).run prog w = .ok (.agg zb) w := by kernel_rfl
theorem JN (i : Nat) (hi : i < 16) : zb[i * 5]? = some (I 0) ∧ zb[i * 5 + 1]? = some (I 0) ∧ zb[i * 5 + 2]? = some (I 0) ∧ zb[i * 5 + 3]? = some (U 0) ∧ zb[i * 5 + 4]? = some (.bool false) := by
 match i, hi with
 | 0, _ => exact ⟨rfl, rfl, rfl, rfl, rfl⟩
 | 1, _ => exact ⟨rfl, rfl, rfl, rfl, rfl⟩
 | 2, _ => exact ⟨rfl, rfl, rfl, rfl, rfl⟩
 | 3, _ => exact ⟨rfl, rfl, rfl, rfl, rfl⟩
 | 4, _ => exact ⟨rfl, rfl, rfl, rfl, rfl⟩
 | 5, _ => exact ⟨rfl, rfl, rfl, rfl, rfl⟩
 | 6, _ => exact ⟨rfl, rfl, rfl, rfl, rfl⟩
 | 7, _ => exact ⟨rfl, rfl, rfl, rfl, rfl⟩
 | 8, _ => exact ⟨rfl, rfl, rfl, rfl, rfl⟩
 | 9, _ => exact ⟨rfl, rfl, rfl, rfl, rfl⟩
 | 10, _ => exact ⟨rfl, rfl, rfl, rfl, rfl⟩
 | 11, _ => exact ⟨rfl, rfl, rfl, rfl, rfl⟩
 | 12, _ => exact ⟨rfl, rfl, rfl, rfl, rfl⟩
 | 13, _ => exact ⟨rfl, rfl, rfl, rfl, rfl⟩
 | 14, _ => exact ⟨rfl, rfl, rfl, rfl, rfl⟩
 | 15, _ => exact ⟨rfl, rfl, rfl, rfl, rfl⟩
 | n + 16, h => exact absurd h (by omega)
theorem new_buf (w : World) (room : Nat) : Buf (w.alloc (.cells (zb.setIfInBounds 80 (I room)) 258)) w.heap.size (fun _ => Ent.zero) room 0 0 := by
 have hc : ∀ k, (w.alloc (.cells (zb.setIfInBounds 80 (I room)) 258)).cell? ⟨w, k, none⟩ = (zb.setIfInBounds 80 (I room))[k]? := fun k => World.cell?_alloc_new w _ _ k
 have hs : ∀ k, k ≠ 80 → (zb.setIfInBounds 80 (I room))[k]? = zb[k]? := fun k hk => by rw [Array.getElem?_setIfInBounds_ne (by omega)]
 refine ⟨fun i hi => ?_, fun i hi => ?_, fun i hi => ?_, fun i hi => ?_, fun i hi => ?_, ?_, ?_, ?_, fun o => ?_⟩
 · rw [hc, hs _ (by omega)]; exact (JN i hi).1
 · rw [hc, hs _ (by omega)]; exact (JN i hi).2.1
 · rw [hc, hs _ (by omega)]; exact (JN i hi).2.2.1
 · rw [hc, hs _ (by omega)]; exact (JN i hi).2.2.2.1
 · rw [hc, hs _ (by omega)]; exact (JN i hi).2.2.2.2
 · rw [hc, Array.getElem?_setIfInBounds_self_of_lt (by rw [Nt]; omega)]
 · rw [hc, hs _ (by omega)]; rfl
 · rw [hc, hs _ (by omega)]; rfl
 · exact World.frozen?_alloc_new w _ _ o
theorem new_in (room : Nat) (h1 : 1 ≤ (room : Int)) (h2 : (room : Int) ≤ 16) (w : World) :
 Y 124 #[I room] w fun e w' => e = Z (.tuple #[w.heap.size, I 0]) ∧ w.alloc (.cells (zb.setIfInBounds 80 (I room)) 258) = w' := by
 have hz := TR
 have hs := Nt
 go_enter func124, ntmps124
 go_wp2_with fail
 go_ret2
 exact ⟨rfl, rfl⟩
def goodE (e : Ent) : Bool := decide (0 ≤ e.line ∧ e.line < 64) && decide (0 ≤ e.word ∧ e.word < 8) && !e.sent && (e.kind == 9 || (e.kind == 12 || e.kind == 13 || e.kind == 14) && (e.word == 0 && e.val == 0))
theorem Qk (kind line word val : Int) (s : Bool) (h1 : line < 0) (w : World) :
 Y 399 #[.agg #[I kind, I line, I word, val, s]] w fun e w' => e = Z (.bool false) ∧ Below w w w' := by
 have fin : ∀ o : Obj, Below w w (w.alloc o) := fun o => (Below.refl _ _).alloc (Nat.le_refl _) _
 go_enter func399, ntmps399
 go_wp2_with fail
 go_ret
 first | exact ⟨rfl, fin _⟩ | exact ⟨by simp; omega, fin _⟩
theorem Qj (kind line word val : Int) (s : Bool) (h1 : 0 ≤ line) (h1' : 64 ≤ line) (w : World) :
 Y 399 #[.agg #[I kind, I line, I word, val, s]] w fun e w' => e = Z (.bool false) ∧ Below w w w' := by
 have fin : ∀ o : Obj, Below w w (w.alloc o) := fun o => (Below.refl _ _).alloc (Nat.le_refl _) _
 go_enter func399, ntmps399
 go_wp2_with fail
 go_ret
 first | exact ⟨rfl, fin _⟩ | exact ⟨by simp; omega, fin _⟩
theorem Qi (kind line word val : Int) (s : Bool) (h1 : 0 ≤ line) (h2 : line < 64) (h3 : word < 0) (w : World) :
 Y 399 #[.agg #[I kind, I line, I word, val, s]] w fun e w' => e = Z (.bool false) ∧ Below w w w' := by
 have fin : ∀ o : Obj, Below w w (w.alloc o) := fun o => (Below.refl _ _).alloc (Nat.le_refl _) _
 go_enter func399, ntmps399
 go_wp2_with fail
 go_ret
 first | exact ⟨rfl, fin _⟩ | exact ⟨by simp; omega, fin _⟩
theorem Qh (kind line word val : Int) (s : Bool) (h1 : 0 ≤ line) (h2 : line < 64) (h3 : 0 ≤ word) (h3' : 8 ≤ word) (w : World) :
 Y 399 #[.agg #[I kind, I line, I word, val, s]] w fun e w' => e = Z (.bool false) ∧ Below w w w' := by
 have fin : ∀ o : Obj, Below w w (w.alloc o) := fun o => (Below.refl _ _).alloc (Nat.le_refl _) _
 go_enter func399, ntmps399
 go_wp2_with fail
 go_ret
 first | exact ⟨rfl, fin _⟩ | exact ⟨by simp; omega, fin _⟩
theorem Qg (kind line word val : Int) (h1 : 0 ≤ line) (h2 : line < 64) (h3 : 0 ≤ word) (h4 : word < 8) (w : World) :
 Y 399 #[.agg #[I kind, I line, I word, val, true]] w fun e w' => e = Z (.bool false) ∧ Below w w w' := by
 have fin : ∀ o : Obj, Below w w (w.alloc o) := fun o => (Below.refl _ _).alloc (Nat.le_refl _) _
 go_enter func399, ntmps399
 go_wp2_with fail
 go_ret
 first | exact ⟨rfl, fin _⟩ | exact ⟨by simp; omega, fin _⟩
theorem TD (kind line word val : Int) (h1 : 0 ≤ line) (h2 : line < 64) (h3 : 0 ≤ word) (h4 : word < 8) (hk : kind = 9) (w : World) :
 Y 399 #[.agg #[I kind, I line, I word, val, false]] w fun e w' => e = Z (.bool true) ∧ Below w w w' := by
 have fin : ∀ o : Obj, Below w w (w.alloc o) := fun o => (Below.refl _ _).alloc (Nat.le_refl _) _
 subst hk
 go_enter func399, ntmps399
 go_wp2_with fail
 go_ret
 first | exact ⟨rfl, fin _⟩ | exact ⟨by simp; omega, fin _⟩
theorem TH (kind line word val : Int) (h1 : 0 ≤ line) (h2 : line < 64) (h3 : 0 ≤ word) (h4 : word < 8) (hk : kind = 12 ∨ kind = 13 ∨ kind = 14) (hw : word = 0) (hv : val = 0) (w : World) :
 Y 399 #[.agg #[I kind, I line, I word, val, false]] w fun e w' => e = Z (.bool true) ∧ Below w w w' := by
 have fin : ∀ o : Obj, Below w w (w.alloc o) := fun o => (Below.refl _ _).alloc (Nat.le_refl _) _
 subst hw
 subst hv
 rcases hk with rfl | rfl | rfl
 all_goals
  go_enter func399, ntmps399
  go_wp2_with fail
  go_ret
  first | exact ⟨rfl, fin _⟩ | exact ⟨by simp; omega, fin _⟩
theorem TG (kind line word val : Int) (h1 : 0 ≤ line) (h2 : line < 64) (h3 : 0 ≤ word) (h4 : word < 8) (hk : kind = 12 ∨ kind = 13 ∨ kind = 14) (hw : (word == 0) = false) (w : World) :
 Y 399 #[.agg #[I kind, I line, I word, val, false]] w fun e w' => e = Z (.bool false) ∧ Below w w w' := by
 have fin : ∀ o : Obj, Below w w (w.alloc o) := fun o => (Below.refl _ _).alloc (Nat.le_refl _) _
 rcases hk with rfl | rfl | rfl
 all_goals
  go_enter func399, ntmps399
  go_wp2_with fail
  go_ret
  first | exact ⟨rfl, fin _⟩ | exact ⟨by simp; omega, fin _⟩
theorem TF (kind line word val : Int) (h1 : 0 ≤ line) (h2 : line < 64) (h3 : 0 ≤ word) (h4 : word < 8) (hk : kind = 12 ∨ kind = 13 ∨ kind = 14) (hw : word = 0) (hv : (val == 0) = false) (w : World) :
 Y 399 #[.agg #[I kind, I line, I word, val, false]] w fun e w' => e = Z (.bool false) ∧ Below w w w' := by
 have fin : ∀ o : Obj, Below w w (w.alloc o) := fun o => (Below.refl _ _).alloc (Nat.le_refl _) _
 subst hw
 rcases hk with rfl | rfl | rfl
 all_goals
  go_enter func399, ntmps399
  go_wp2_with fail
  go_ret
  first | exact ⟨rfl, fin _⟩ | exact ⟨by simp; omega, fin _⟩
theorem TE (kind line word val : Int) (h1 : 0 ≤ line) (h2 : line < 64) (h3 : 0 ≤ word) (h4 : word < 8) (k1 : (kind == 9) = false) (k2 : (kind == 12) = false) (k3 : (kind == 13) = false) (k4 : (kind == 14) = false) (w : World) :
 Y 399 #[.agg #[I kind, I line, I word, val, false]] w fun e w' => e = Z (.bool false) ∧ Below w w w' := by
 have fin : ∀ o : Obj, Below w w (w.alloc o) := fun o => (Below.refl _ _).alloc (Nat.le_refl _) _
 go_enter func399, ntmps399
 go_wp2_with fail
 go_ret
 first | exact ⟨rfl, fin _⟩ | exact ⟨by simp; omega, fin _⟩
theorem MN (e : Ent) (w : World) : Y 399 #[e.v] w fun r w' => r = Z (.bool (goodE e)) ∧ Below w w w' := by
 obtain ⟨kind, line, word, val, sent⟩ := e
 show Y 399 #[.agg #[I kind, I line, I word, val, sent]] w _
 by_cases l1 : line < 0
 · have e1 : goodE ⟨kind, line, word, val, sent⟩ = false := by simp only [goodE]; rw [decide_eq_false (by omega)]; simp
   rw [e1]; exact Qk kind line word val sent l1 w
 · by_cases l2 : 64 ≤ line
   · have e1 : goodE ⟨kind, line, word, val, sent⟩ = false := by simp only [goodE]; rw [decide_eq_false (by omega)]; simp
     rw [e1]; exact Qj kind line word val sent (by omega) l2 w
   · have eL : decide (0 ≤ line ∧ line < 64) = true := decide_eq_true (by omega)
     by_cases w1 : word < 0
     · have e1 : goodE ⟨kind, line, word, val, sent⟩ = false := by simp only [goodE]; rw [decide_eq_false (p := 0 ≤ word ∧ word < 8) (by omega)]; simp
       rw [e1]; exact Qi kind line word val sent (by omega) (by omega) w1 w
     · by_cases w2 : 8 ≤ word
       · have e1 : goodE ⟨kind, line, word, val, sent⟩ = false := by simp only [goodE]; rw [decide_eq_false (p := 0 ≤ word ∧ word < 8) (by omega)]; simp
         rw [e1]; exact Qh kind line word val sent (by omega) (by omega) (by omega) w2 w
       · have eW : decide (0 ≤ word ∧ word < 8) = true := decide_eq_true (by omega)
         cases sent
         · have e0 : goodE ⟨kind, line, word, val, false⟩ = (kind == 9 || (kind == 12 || kind == 13 || kind == 14) && (word == 0 && val == 0)) := by simp only [goodE]; rw [eL, eW]; simp
           rw [e0]
           by_cases k1 : kind = 9
           · subst k1
             exact TD 9 line word val (by omega) (by omega) (by omega) (by omega) rfl w
           · have k1' : (kind == 9) = false := by simpa using k1
             by_cases k2 : kind = 12 ∨ kind = 13 ∨ kind = 14
             · have k2' : (kind == 12 || kind == 13 || kind == 14) = true := by rcases k2 with rfl | rfl | rfl <;> rfl
               rw [k1', k2', Bool.false_or, Bool.true_and]
               by_cases hw : word = 0
               · by_cases hv : val = 0
                 · have er : (word == 0 && val == 0) = true := by subst hw hv; rfl
                   rw [er]; exact TH kind line word val (by omega) (by omega) (by omega) (by omega) k2 hw hv w
                 · have er : (word == 0 && val == 0) = false := by
                    have : (val == 0) = false := by simpa using hv
                    rw [this, Bool.and_false]
                   rw [er]; exact TF kind line word val (by omega) (by omega) (by omega) (by omega) k2 hw (by simpa using hv) w
               · have er : (word == 0 && val == 0) = false := by
                  have : (word == 0) = false := by simpa using hw
                  rw [this, Bool.false_and]
                 rw [er]; exact TG kind line word val (by omega) (by omega) (by omega) (by omega) k2 (by simpa using hw) w
             · have k2' : (kind == 12) = false := by simpa using (by omega : ¬ kind = 12)
               have k3' : (kind == 13) = false := by simpa using (by omega : ¬ kind = 13)
               have k4' : (kind == 14) = false := by simpa using (by omega : ¬ kind = 14)
               rw [k1', k2', k3', k4']
               exact TE kind line word val (by omega) (by omega) (by omega) (by omega) k1' k2' k3' k4' w
         · have e1 : goodE ⟨kind, line, word, val, true⟩ = false := by simp [goodE]
           rw [e1]; exact Qg kind line word val (by omega) (by omega) (by omega) (by omega) w
end Sb
namespace Sb
def SQ (w : World) (g room : Nat) (L : List Ent) : Prop :=
 ∃ (es : Nat → Ent) (first : Nat), Buf w g es room first L.length ∧ first < 16 ∧ room ≤ 16 ∧ L.length ≤ room ∧ ∀ i e, L[i]? = some e → es ((first + i) % 16) = e
theorem Buf.keep {w w' : World} {g : Nat} {es : Nat → Ent} {room first n : Nat} (h : Buf w g es room first n) (hc : ∀ o, w'.cell? ⟨g, o, none⟩ = w.cell? ⟨g, o, none⟩) (hf : ∀ o, w'.frozen? ⟨g, o, none⟩ = w.frozen? ⟨g, o, none⟩) : Buf w' g es room first n :=
 ⟨fun i hi => (hc _).trans (h.kind i hi), fun i hi => (hc _).trans (h.line i hi), fun i hi => (hc _).trans (h.word i hi), fun i hi => (hc _).trans (h.val i hi), fun i hi => (hc _).trans (h.sent i hi), (hc _).trans h.room, (hc _).trans h.first, (hc _).trans h.n, fun o => (hf o).trans (h.free o)⟩
theorem Buf.block {w w' : World} {g : Nat} {es : Nat → Ent} {room first n : Nat} (h : Buf w g es room first n) (hb : w'.heap[g]? = w.heap[g]?) : Buf w' g es room first n :=
 h.keep (fun o => World.cell?_of_block (w := w) hb) (fun o => World.frozen?_of_block (w := w) hb)
theorem SQ.lt {w : World} {g room : Nat} {L : List Ent} (h : SQ w g room L) : g < w.heap.size := by obtain ⟨es, first, hb, _⟩ := h; exact hb.lt
theorem SQ.block {w w' : World} {g room : Nat} {L : List Ent} (h : SQ w g room L) (hb : w'.heap[g]? = w.heap[g]?) : SQ w' g room L := by
 obtain ⟨es, first, h1, h2⟩ := h
 exact ⟨es, first, h1.block hb, h2⟩
theorem SQ.below {w w' : World} {g room : Nat} {L : List Ent} (h : SQ w g room L) (hb : Below w w w') : SQ w' g room L := h.block (hb.block g h.lt)
theorem head_nil (g room : Nat) (w : World) (h : SQ w g room []) : Y 261 #[g] w fun e w' => e = Z (.tuple #[Ent.zero.v, false]) ∧ Below w w w' := by
 have hb0 : Below w w (w.alloc (.cells #[I 0, I 0, I 0, U 0, false] 255)) := (Below.refl _ _).alloc (Nat.le_refl _) _
 obtain ⟨es, first, hb, _⟩ := h.below hb0
 clear h
 go_enter func261, ntmps261
 go_wp2_with fail
 refine (len_some g es room first 0 _ hb).mono ?_
 rintro e w1 ⟨rfl, rfl⟩
 clear hb
 go_wp2_with fail
 exact bodyPost_ret (v := .tuple #[Ent.zero.v, false]) (by simp [results, results261, go_sem, Ent.v, Ent.zero]) rfl ⟨rfl, hb0⟩
theorem head_cons (g room : Nat) (e : Ent) (L : List Ent) (w : World) (h : SQ w g room (e :: L)) : Y 261 #[g] w fun r w' => r = Z (.tuple #[e.v, true]) ∧ Below w w w' := by
 generalize hW : w.alloc (.cells #[I 0, I 0, I 0, U 0, false] 255) = W0
 have hb0 : Below w w W0 := by rw [← hW]; exact (Below.refl _ _).alloc (Nat.le_refl _) _
 obtain ⟨es, first, hb, hf, hr, hl, hel⟩ := h.below hb0
 have he := hel 0 e rfl
 rw [Nat.add_zero, Nat.mod_eq_of_lt hf] at he
 have hgl := h.lt
 clear h hel
 have hN : 0 < (e :: L).length := by simp
 generalize (e :: L).length = N at *
 have hN' : (0 : Int) < (N : Int) := by omega
 subst hW
 go_enter func261, ntmps261
 go_wp2_with fail
 refine (len_some g es room first _ _ hb).mono ?_
 rintro r w1 ⟨rfl, rfl⟩
 go_wp2_with fail
 have hf0 : (0 : Int) ≤ (first : Int) := by omega
 have hf1 : (first : Int) < 16 := by omega
 have c81 := hb.first
 have k0 := hb.kind first hf
 have k1 := hb.line first hf
 have k2 := hb.word first hf
 have k3 := hb.val first hf
 have k4 := hb.sent first hf
 rw [he] at k0 k1 k2 k3 k4
 clear hb
 go_region
 go_wp2_with fail
 exact bodyPost_ret (v := .tuple #[e.v, true]) (by simp [results, results261, go_sem, Ent.v]) rfl ⟨rfl, ((Below.refl _ _).alloc (Nat.le_refl _) _).drew⟩
theorem CX (w : World) (a b : Addr) (v u : Value) (h : w.cell? a = some u) : (w.setCell a v).cell? b = if a = b then some v else w.cell? b := by
 by_cases hab : a = b
 · subst hab; rw [if_pos rfl]; exact World.cell?_setCell_same w a v h
 · rw [if_neg hab]; exact World.cell?_setCell_other w a b v hab
def Ht (es : Nat → Ent) (k : Nat) (x : Ent) : Nat → Ent := fun i => if i = k then x else es i
theorem Buf.drew {w : World} {g : Nat} {es : Nat → Ent} {room first n : Nat} (h : Buf w g es room first n) : Buf w.drew g es room first n := ⟨h.kind, h.line, h.word, h.val, h.sent, h.room, h.first, h.n, h.free⟩
theorem Buf.setFirst {w : World} {g : Nat} {es : Nat → Ent} {room first n : Nat} (h : Buf w g es room first n) (f : Nat) : Buf (w.setCell ⟨g, 81, none⟩ (I f)) g es room f n := by
 have hc : ∀ o, (w.setCell ⟨g, 81, none⟩ (I f)).cell? ⟨g, o, none⟩ = if 81 = o then some (I f) else w.cell? ⟨g, o, none⟩ := fun o => by
  rw [CX w _ _ _ _ h.first]; simp
 refine ⟨fun i hi => ?_, fun i hi => ?_, fun i hi => ?_, fun i hi => ?_, fun i hi => ?_, ?_, ?_, ?_, fun o => ?_⟩
 · rw [hc, if_neg (by omega)]; exact h.kind i hi
 · rw [hc, if_neg (by omega)]; exact h.line i hi
 · rw [hc, if_neg (by omega)]; exact h.word i hi
 · rw [hc, if_neg (by omega)]; exact h.val i hi
 · rw [hc, if_neg (by omega)]; exact h.sent i hi
 · rw [hc, if_neg (by omega)]; exact h.room
 · rw [hc, if_pos rfl]
 · rw [hc, if_neg (by omega)]; exact h.n
 · rw [World.frozen?_setCell]; exact h.free o
theorem Buf.setN {w : World} {g : Nat} {es : Nat → Ent} {room first n : Nat} (h : Buf w g es room first n) (m : Nat) : Buf (w.setCell ⟨g, 82, none⟩ (I m)) g es room first m := by
 have hc : ∀ o, (w.setCell ⟨g, 82, none⟩ (I m)).cell? ⟨g, o, none⟩ = if 82 = o then some (I m) else w.cell? ⟨g, o, none⟩ := fun o => by
  rw [CX w _ _ _ _ h.n]; simp
 refine ⟨fun i hi => ?_, fun i hi => ?_, fun i hi => ?_, fun i hi => ?_, fun i hi => ?_, ?_, ?_, ?_, fun o => ?_⟩
 · rw [hc, if_neg (by omega)]; exact h.kind i hi
 · rw [hc, if_neg (by omega)]; exact h.line i hi
 · rw [hc, if_neg (by omega)]; exact h.word i hi
 · rw [hc, if_neg (by omega)]; exact h.val i hi
 · rw [hc, if_neg (by omega)]; exact h.sent i hi
 · rw [hc, if_neg (by omega)]; exact h.room
 · rw [hc, if_neg (by omega)]; exact h.first
 · rw [hc, if_pos rfl]
 · rw [World.frozen?_setCell]; exact h.free o
def setE (w : World) (g k : Nat) (x : Ent) : World :=
 ((((w.setCell ⟨g, k * 5, none⟩ (I x.kind)).setCell ⟨g, k * 5 + 1, none⟩ (I x.line)).setCell ⟨g, k * 5 + 2, none⟩ (I x.word)).setCell ⟨g, k * 5 + 3, none⟩ (U x.val)).setCell ⟨g, k * 5 + 4, none⟩ (.bool x.sent)
theorem Buf.setE {w : World} {g : Nat} {es : Nat → Ent} {room first n : Nat} (h : Buf w g es room first n) (k : Nat) (hk : k < 16) (x : Ent) : Buf (setE w g k x) g (Ht es k x) room first n := by
 have hc : ∀ o, (YtkoplblbeapfgaaGreatDoor.Sb.setE w g k x).cell? ⟨g, o, none⟩ = if k * 5 + 4 = o then some (.bool x.sent) else if k * 5 + 3 = o then some (U x.val) else if k * 5 + 2 = o then some (I x.word) else if k * 5 + 1 = o then some (I x.line) else if k * 5 = o then some (I x.kind) else w.cell? ⟨g, o, none⟩ := fun o => by
  unfold YtkoplblbeapfgaaGreatDoor.Sb.setE
  have a0 := h.kind k hk
  have a1 := h.line k hk
  have a2 := h.word k hk
  have a3 := h.val k hk
  have a4 := h.sent k hk
  have b1 : (w.setCell ⟨g, k * 5, none⟩ (I x.kind)).cell? ⟨g, k * 5 + 1, none⟩ = some (I (es k).line) := by rw [World.cell?_setCell_other _ _ _ _ (by simp)]; exact a1
  have b2 : ((w.setCell ⟨g, k * 5, none⟩ (I x.kind)).setCell ⟨g, k * 5 + 1, none⟩ (I x.line)).cell? ⟨g, k * 5 + 2, none⟩ = some (I (es k).word) := by rw [World.cell?_setCell_other _ _ _ _ (by simp), World.cell?_setCell_other _ _ _ _ (by simp)]; exact a2
  have b3 : (((w.setCell ⟨g, k * 5, none⟩ (I x.kind)).setCell ⟨g, k * 5 + 1, none⟩ (I x.line)).setCell ⟨g, k * 5 + 2, none⟩ (I x.word)).cell? ⟨g, k * 5 + 3, none⟩ = some (U (es k).val) := by rw [World.cell?_setCell_other _ _ _ _ (by simp), World.cell?_setCell_other _ _ _ _ (by simp), World.cell?_setCell_other _ _ _ _ (by simp)]; exact a3
  have b4 : ((((w.setCell ⟨g, k * 5, none⟩ (I x.kind)).setCell ⟨g, k * 5 + 1, none⟩ (I x.line)).setCell ⟨g, k * 5 + 2, none⟩ (I x.word)).setCell ⟨g, k * 5 + 3, none⟩ (U x.val)).cell? ⟨g, k * 5 + 4, none⟩ = some (.bool (es k).sent) := by rw [World.cell?_setCell_other _ _ _ _ (by simp), World.cell?_setCell_other _ _ _ _ (by simp), World.cell?_setCell_other _ _ _ _ (by simp), World.cell?_setCell_other _ _ _ _ (by simp)]; exact a4
  rw [CX _ _ _ _ _ b4, CX _ _ _ _ _ b3, CX _ _ _ _ _ b2, CX _ _ _ _ _ b1, CX _ _ _ _ _ a0]
  simp
 unfold Ht
 refine ⟨fun i hi => ?_, fun i hi => ?_, fun i hi => ?_, fun i hi => ?_, fun i hi => ?_, ?_, ?_, ?_, fun o => ?_⟩
 · rw [hc, if_neg (by omega), if_neg (by omega), if_neg (by omega), if_neg (by omega)]
   by_cases hik : i = k
   · subst hik; rw [if_pos rfl, if_pos rfl]
   · rw [if_neg (by omega), if_neg hik]; exact h.kind i hi
 · rw [hc, if_neg (by omega), if_neg (by omega), if_neg (by omega)]
   by_cases hik : i = k
   · subst hik; rw [if_pos rfl, if_pos rfl]
   · rw [if_neg (by omega), if_neg (by omega), if_neg hik]; exact h.line i hi
 · rw [hc, if_neg (by omega), if_neg (by omega)]
   by_cases hik : i = k
   · subst hik; rw [if_pos rfl, if_pos rfl]
   · rw [if_neg (by omega), if_neg (by omega), if_neg (by omega), if_neg hik]; exact h.word i hi
 · rw [hc, if_neg (by omega)]
   by_cases hik : i = k
   · subst hik; rw [if_pos rfl, if_pos rfl]
   · rw [if_neg (by omega), if_neg (by omega), if_neg (by omega), if_neg (by omega), if_neg hik]; exact h.val i hi
 · rw [hc]
   by_cases hik : i = k
   · subst hik; rw [if_pos rfl, if_pos rfl]
   · rw [if_neg (by omega), if_neg (by omega), if_neg (by omega), if_neg (by omega), if_neg (by omega), if_neg hik]; exact h.sent i hi
 · rw [hc, if_neg (by omega), if_neg (by omega), if_neg (by omega), if_neg (by omega), if_neg (by omega)]; exact h.room
 · rw [hc, if_neg (by omega), if_neg (by omega), if_neg (by omega), if_neg (by omega), if_neg (by omega)]; exact h.first
 · rw [hc, if_neg (by omega), if_neg (by omega), if_neg (by omega), if_neg (by omega), if_neg (by omega)]; exact h.n
 · unfold YtkoplblbeapfgaaGreatDoor.Sb.setE; simp only [World.frozen?_setCell]; exact h.free o
theorem CO {a w : World} {g : Nat} (h : a.grownBy w (some g)) {p : Addr} (hp : p.block = g) (u : Value) : a.grownBy (w.setCell p u) (some g) :=
 ⟨h.os, h.tape, h.output, by simpa [World.setCell] using h.size, fun i hi hne => (Vz w p u i (by rintro rfl; exact hne (by rw [hp]))).trans (h.block i hi hne)⟩
theorem Hu {a w : World} {g : Nat} (h : a.grownBy w (some g)) (k : Nat) (x : Ent) : a.grownBy (setE w g k x) (some g) :=
 CO (CO (CO (CO (CO h rfl _) rfl _) rfl _) rfl _) rfl _
theorem Fx {a w : World} {row : Option Nat} (h : a.grownBy w row) : a.grownBy w.drew row := ⟨h.os, h.tape, h.output, h.size, h.block⟩
theorem Fw (w : World) (row : Option Nat) : w.grownBy w row := ⟨rfl, rfl, rfl, Nat.le_refl _, fun _ _ _ => rfl⟩
theorem Gh {a b c : World} {g : Nat} (h : a.grownBy b (some g)) (k : b.grownBy c (some g)) : a.grownBy c (some g) :=
 ⟨k.os.trans h.os, k.tape.trans h.tape, k.output.trans h.output, Vx h.size k.size, fun i hi hne => (k.block i (Vy hi h.size) hne).trans (h.block i hi hne)⟩
end Sb
namespace Sb
theorem Mb {w : World} {b : Nat} {v0 v1 v2 v3 v4 : Value} {t : TypeId} (h : w.heap[b]? = some (.cells #[v0, v1, v2, v3, v4] t)) :
 (w.cell? b = some v0 ∧ w.cell? ⟨b, 1, none⟩ = some v1 ∧ w.cell? ⟨b, 2, none⟩ = some v2 ∧ w.cell? ⟨b, 3, none⟩ = some v3 ∧ w.cell? ⟨b, 4, none⟩ = some v4) ∧
 (w.frozen? b = false ∧ w.frozen? ⟨b, 1, none⟩ = false ∧ w.frozen? ⟨b, 2, none⟩ = false ∧ w.frozen? ⟨b, 3, none⟩ = false ∧ w.frozen? ⟨b, 4, none⟩ = false) := by
 simp [World.cell?, World.frozen?, h]
theorem Ug {w : World} {b : Nat} {u0 u1 u2 u3 u4 : Value} (c0 : w.cell? b = some u0) (c1 : w.cell? ⟨b, 1, none⟩ = some u1) (c2 : w.cell? ⟨b, 2, none⟩ = some u2) (c3 : w.cell? ⟨b, 3, none⟩ = some u3) (c4 : w.cell? ⟨b, 4, none⟩ = some u4) (v0 v1 v2 v3 v4 : Value) :
 (((((w.setCell b v0).setCell ⟨b, 1, none⟩ v1).setCell ⟨b, 2, none⟩ v2).setCell ⟨b, 3, none⟩ v3).setCell ⟨b, 4, none⟩ v4).cell? b = some v0 ∧
 (((((w.setCell b v0).setCell ⟨b, 1, none⟩ v1).setCell ⟨b, 2, none⟩ v2).setCell ⟨b, 3, none⟩ v3).setCell ⟨b, 4, none⟩ v4).cell? ⟨b, 1, none⟩ = some v1 ∧
 (((((w.setCell b v0).setCell ⟨b, 1, none⟩ v1).setCell ⟨b, 2, none⟩ v2).setCell ⟨b, 3, none⟩ v3).setCell ⟨b, 4, none⟩ v4).cell? ⟨b, 2, none⟩ = some v2 ∧
 (((((w.setCell b v0).setCell ⟨b, 1, none⟩ v1).setCell ⟨b, 2, none⟩ v2).setCell ⟨b, 3, none⟩ v3).setCell ⟨b, 4, none⟩ v4).cell? ⟨b, 3, none⟩ = some v3 ∧
 (((((w.setCell b v0).setCell ⟨b, 1, none⟩ v1).setCell ⟨b, 2, none⟩ v2).setCell ⟨b, 3, none⟩ v3).setCell ⟨b, 4, none⟩ v4).cell? ⟨b, 4, none⟩ = some v4 := by
 have hb : b < w.heap.size := World.block_lt_of_cell? (w := w) (a := b) c0
 have d1 : (w.setCell b v0).cell? ⟨b, 1, none⟩ = some u1 := by rw [World.cell?_setCell_other _ _ _ _ (by simp)]; exact c1
 have d2 : ((w.setCell b v0).setCell ⟨b, 1, none⟩ v1).cell? ⟨b, 2, none⟩ = some u2 := by rw [World.cell?_setCell_other _ _ _ _ (by simp), World.cell?_setCell_other _ _ _ _ (by simp)]; exact c2
 have d3 : (((w.setCell b v0).setCell ⟨b, 1, none⟩ v1).setCell ⟨b, 2, none⟩ v2).cell? ⟨b, 3, none⟩ = some u3 := by rw [World.cell?_setCell_other _ _ _ _ (by simp), World.cell?_setCell_other _ _ _ _ (by simp), World.cell?_setCell_other _ _ _ _ (by simp)]; exact c3
 have d4 : ((((w.setCell b v0).setCell ⟨b, 1, none⟩ v1).setCell ⟨b, 2, none⟩ v2).setCell ⟨b, 3, none⟩ v3).cell? ⟨b, 4, none⟩ = some u4 := by rw [World.cell?_setCell_other _ _ _ _ (by simp), World.cell?_setCell_other _ _ _ _ (by simp), World.cell?_setCell_other _ _ _ _ (by simp), World.cell?_setCell_other _ _ _ _ (by simp)]; exact c4
 refine ⟨?_, ?_, ?_, ?_, ?_⟩ <;> rw [CX _ _ _ _ _ d4, CX _ _ _ _ _ d3, CX _ _ _ _ _ d2, CX _ _ _ _ _ d1, CX _ _ _ _ _ c0] <;> simp
def OV (w : World) (b : Nat) (v0 v1 v2 v3 v4 : Value) : World := ((((w.setCell b v0).setCell ⟨b, 1, none⟩ v1).setCell ⟨b, 2, none⟩ v2).setCell ⟨b, 3, none⟩ v3).setCell ⟨b, 4, none⟩ v4
theorem OU (w : World) (b : Nat) (v0 v1 v2 v3 v4 : Value) (g : Nat) (h : g ≠ b) : (OV w b v0 v1 v2 v3 v4).heap[g]? = w.heap[g]? := by
 unfold OV
 rw [Vz _ _ _ _ h, Vz _ _ _ _ h, Vz _ _ _ _ h, Vz _ _ _ _ h, Vz _ _ _ _ h]
theorem Hg {a w : World} (h : Below a a w) (row : Option Nat) : a.grownBy w row := ⟨h.os, h.tape, h.output, h.size, fun i hi _ => h.block i hi⟩
theorem Fc {a w : World} {row : Option Nat} (h : a.grownBy w row) {p : Addr} (hp : a.heap.size ≤ p.block) (u : Value) : a.grownBy (w.setCell p u) row :=
 ⟨h.os, h.tape, h.output, by simpa [World.setCell] using h.size, fun i hi hne => (Vz w p u i (by omega)).trans (h.block i hi hne)⟩
theorem Pz {a w : World} {row : Option Nat} (h : a.grownBy w row) {b : Nat} (hp : a.heap.size ≤ b) (v0 v1 v2 v3 v4 : Value) : a.grownBy (OV w b v0 v1 v2 v3 v4) row :=
 Fc (Fc (Fc (Fc (Fc h (p := b) hp _) (p := ⟨b, 1, none⟩) hp _) (p := ⟨b, 2, none⟩) hp _) (p := ⟨b, 3, none⟩) hp _) (p := ⟨b, 4, none⟩) hp _
theorem pop_cons (g room : Nat) (e : Ent) (L : List Ent) (w : World) (h : SQ w g room (e :: L)) : Y 266 #[g] w fun r w' => r = Z (.tuple #[e.v, true]) ∧ SQ w' g room L ∧ w.grownBy w' (some g) := by
 generalize hW : w.alloc (.cells #[I 0, I 0, I 0, U 0, false] 255) = W0
 have hb0 : Below w w W0 := by rw [← hW]; exact (Below.refl _ _).alloc (Nat.le_refl _) _
 have hlt : w.heap.size < W0.heap.size := by rw [← hW]; simp
 have hcl : W0.heap[w.heap.size]? = some (.cells #[I 0, I 0, I 0, U 0, false] 255) := by rw [← hW]; exact heap_alloc_new w _
 have h0 := h.below hb0
 have hgl := h.lt
 clear h
 subst hW
 go_enter func266, ntmps266
 go_wp2_with fail
 refine (head_cons _ _ _ _ _ h0).mono ?_
 rintro r w1 ⟨rfl, hb1⟩
 obtain ⟨⟨c0, c1, c2, c3, c4⟩, f0, f1, f2, f3, f4⟩ := Mb ((hb1.block w.heap.size hlt).trans hcl)
 have hlt1 := Vy hlt hb1.size
 have hbw := hb0.trans (hb1.mono (Nat.le_of_lt hlt))
 have h1 := h0.below hb1
 clear hcl hb0 hb1 hlt h0
 generalize hb2 : w1.heap.size = b2 at *
 generalize hW : w1.alloc (.cells #[I e.kind, I e.line, I e.word, e.val, e.sent] 255) = w2
 have hb12 : Below w1 w1 w2 := by rw [← hW]; exact (Below.refl _ _).alloc (Nat.le_refl _) _
 have hcl2 : w2.heap[b2]? = some (.cells #[I e.kind, I e.line, I e.word, e.val, e.sent] 255) := by rw [← hW, ← hb2]; exact heap_alloc_new w1 _
 have hl2 : b2 < w2.heap.size := by rw [← hW, ← hb2]; simp
 obtain ⟨es, first, hB, hf, hr, hl, hel⟩ := h1.below hb12
 have hbw2 := hbw.trans (hb12.mono (by omega))
 have hsame := fun o => hb12.cell (p := ⟨w, o, none⟩) (by simpa [hb2] using hlt1)
 have hfrz := fun o => hb12.frozen (p := ⟨w, o, none⟩) (by simpa [hb2] using hlt1)
 rw [← hsame] at c0 c1 c2 c3 c4
 rw [← hfrz] at f0 f1 f2 f3 f4
 clear hsame hfrz hb12 h1
 rw [show (e :: L).length = L.length + 1 from rfl] at hB hl
 have hN := hB.n
 have hnn : ((L.length + 1 : Nat) : Int) ≤ 16 := by omega
 generalize hlen : L.length + 1 = N at *
 have hfst := hB.first
 have k0 := hB.kind first hf
 have k1 := hB.line first hf
 have k2 := hB.word first hf
 have k3 := hB.val first hf
 have k4 := hB.sent first hf
 have hz := hB.free
 have hfi0 : (0 : Int) ≤ (first : Int) := by omega
 have hfi1 : (first : Int) < 16 := by omega
 have hg2 : g < w2.heap.size := hB.lt
 unfold Ent.v
 go_wp2_with fail
 clear hW
 go_region
 go_wp2_with fail
 have hB3 := (hB.setE first hf Ent.zero).drew
 have hcl3 : (setE w2 g first Ent.zero).drew.heap[b2]? = some (.cells #[I e.kind, I e.line, I e.word, e.val, e.sent] 255) := by
  rw [← hcl2]; exact ((Fx (Hu (Fw w2 (some g)) first Ent.zero)).block b2 hl2 (by intro h; have := Option.some.inj h; omega))
 have ho3 := Fx (Hu (Fw w2 (some g)) first Ent.zero)
 have hl3 : b2 < (setE w2 g first Ent.zero).drew.heap.size := Vy hl2 ho3.size
 have hs3 : ∀ o, (setE w2 g first Ent.zero).drew.cell? ⟨w, o, none⟩ = w2.cell? ⟨w, o, none⟩ := fun o => World.cell?_of_block (w := w2) (ho3.block _ (Nat.lt_trans hlt1 hl2) (by intro h; have := Option.some.inj h; simp at this; omega))
 have hf3 : ∀ o, (setE w2 g first Ent.zero).drew.frozen? ⟨w, o, none⟩ = w2.frozen? ⟨w, o, none⟩ := fun o => World.frozen?_of_block (w := w2) (ho3.block _ (Nat.lt_trans hlt1 hl2) (by intro h; have := Option.some.inj h; simp at this; omega))
 rw [← hs3] at c0 c1 c2 c3 c4
 rw [← hf3] at f0 f1 f2 f3 f4
 clear hs3 hf3 k0 k1 k2 k3 k4 hN hfst hB hcl2 hz
 change Code.wp _ _ _ _ ((setE w2 g first Ent.zero).drew)
 generalize (setE w2 g first Ent.zero).drew = w3 at *
 have hN := hB3.n
 have hfst := hB3.first
 have hz81 := hB3.free 81
 have hz82 := hB3.free 82
 have hA : ∀ w', Buf w' g (Ht es first Ent.zero) room first N → Y 127 #[g, I 1] w' fun e w'' => e = Z (I (((first + 1) % 16 : Nat) : Int)) ∧ w' = w'' := fun w' h => IT g _ room first N 1 hf (by omega) w' h
 obtain ⟨⟨d0, d1, d2, d3, d4⟩, _⟩ := Mb hcl3
 have hg1 : g ≠ b2 := by omega
 have hg3 : b2 ≠ g := by omega
 have hg4 : g ≠ w.heap.size := by omega
 have hg5 : w.heap.size ≠ g := by omega
 have hg6 : b2 ≠ w.heap.size := by omega
 have hg7 : w.heap.size ≠ b2 := by omega
 have hn1 : (1 : Int) ≤ (N : Int) := by omega
 have hB4 := (hB3.setFirst ((first + 1) % 16)).setN L.length
 have ho4 := (CO (g := g) (p := ⟨g, 82, none⟩) (CO (g := g) (p := ⟨g, 81, none⟩) (Fw w3 (some g)) rfl (I (((first + 1) % 16 : Nat) : Int))) rfl (I (L.length : Int)))
 have e1 : (((first + 1) % 16 : Nat) : Int) = ((first : Int) + 1) % 16 := by simp
 have e2 : (L.length : Int) = (N : Int) - 1 := by omega
 rw [e1, e2] at hB4 ho4
 go_region_with (go_at_call 127; refine (hA _ hB3.drew).mono ?_; rintro r w4 ⟨rfl, rfl⟩)
 all_goals go_wp2_with fail
 all_goals
  refine bodyPost_ret (v := .tuple #[e.v, true]) (by
   obtain ⟨q0, q1, q2, q3, q4⟩ := Ug (w := ((w3.setCell ⟨g, 81, none⟩ (I (((first : Int) + 1) % 16))).setCell ⟨g, 82, none⟩ (I ((N : Int) - 1)))) (b := w.heap.size)
    (by rw [World.cell?_setCell_other _ _ _ _ (by simp [hg4]), World.cell?_setCell_other _ _ _ _ (by simp [hg4])]; exact c0) (by rw [World.cell?_setCell_other _ _ _ _ (by simp [hg4]), World.cell?_setCell_other _ _ _ _ (by simp [hg4])]; exact c1)
    (by rw [World.cell?_setCell_other _ _ _ _ (by simp [hg4]), World.cell?_setCell_other _ _ _ _ (by simp [hg4])]; exact c2) (by rw [World.cell?_setCell_other _ _ _ _ (by simp [hg4]), World.cell?_setCell_other _ _ _ _ (by simp [hg4])]; exact c3)
    (by rw [World.cell?_setCell_other _ _ _ _ (by simp [hg4]), World.cell?_setCell_other _ _ _ _ (by simp [hg4])]; exact c4) (I e.kind) (I e.line) (I e.word) (U e.val) (.bool e.sent)
   simp [results, results266, go_sem, Ent.v, q0, q1, q2, q3, q4]) rfl ⟨rfl, ?_, ?_⟩
  · refine ⟨Ht es first Ent.zero, (first + 1) % 16, (hB4.block (w' := OV _ w.heap.size (I e.kind) (I e.line) (I e.word) (U e.val) (.bool e.sent)) (OU _ _ _ _ _ _ _ g hg4)).drew, Nat.mod_lt _ (by omega), hr, by omega, fun i x hx => ?_⟩
    have hx' := hel (i + 1) x (by simpa using hx)
    have hil : i < L.length := by rcases Nat.lt_or_ge i L.length with h | h; exact h; rw [List.getElem?_eq_none h] at hx; cases hx
    have hq : ((first + 1) % 16 + i) % 16 = (first + (i + 1)) % 16 := by omega
    rw [hq]
    unfold Ht
    rw [if_neg (by omega)]
    exact hx'
  · exact Fx (Pz (Gh (Gh (Hg hbw2 (some g)) ho3) ho4) (Nat.le_refl _) _ _ _ _ _)
end Sb
namespace Sb
theorem Iu {B : Nat} {a w : World} (h : Below B a w) (n : Nat) : Below B a (w.drewN n) := ⟨h.os, h.tape, h.output, h.size, h.block⟩
theorem Buf.drewN {w : World} {g : Nat} {es : Nat → Ent} {room first n : Nat} (h : Buf w g es room first n) (k : Nat) : Buf (w.drewN k) g es room first n := ⟨h.kind, h.line, h.word, h.val, h.sent, h.room, h.first, h.n, h.free⟩
theorem push_full (g room : Nat) (L : List Ent) (e : Ent) (h : goodE e = true) (hfull : room ≤ L.length) (w : World) (hs : SQ w g room L) : Y 367 #[g, e.v] w fun r w' => r = Z (I 13) ∧ Below w w w' := by
 generalize hW : w.alloc (.cells #[I e.kind, I e.line, I e.word, e.val, e.sent] 255) = W0
 have hb0 : Below w w W0 := by rw [← hW]; exact (Below.refl _ _).alloc (Nat.le_refl _) _
 have hs0 := hs.below hb0
 subst hW
 have hle : w.heap.size ≤ (w.alloc (.cells #[I e.kind, I e.line, I e.word, e.val, e.sent] 255)).heap.size := hb0.size
 have hg := MN e
 rw [h] at hg
 unfold Ent.v at hg ⊢
 clear hs
 go_enter func367, ntmps367
 go_wp2_with fail
 refine (hg _).mono ?_
 rintro r w1 ⟨rfl, hb1⟩
 obtain ⟨es, first, hB, hf, hr, hl, hel⟩ := hs0.below hb1
 clear hs0 hel
 have c1 := hB.n
 have c2 := hB.room
 have hlr : (room : Int) ≤ (L.length : Int) := by omega
 clear hB
 go_wp2_with fail
 go_quiet (fail)
 go_wp2_with fail
 go_ret
 exact ⟨rfl, Iu (hb0.trans (hb1.mono hle)) _⟩
theorem push_ok (g room : Nat) (L : List Ent) (e : Ent) (h : goodE e = true) (hroom : L.length < room) (w : World) (hs : SQ w g room L) : Y 367 #[g, e.v] w fun r w' => r = Z (I 0) ∧ SQ w' g room (L ++ [e]) ∧ w.grownBy w' (some g) := by
 generalize hW : w.alloc (.cells #[I e.kind, I e.line, I e.word, e.val, e.sent] 255) = W0
 have hb0 : Below w w W0 := by rw [← hW]; exact (Below.refl _ _).alloc (Nat.le_refl _) _
 have hlt : w.heap.size < W0.heap.size := by rw [← hW]; simp
 have hcl : W0.heap[w.heap.size]? = some (.cells #[I e.kind, I e.line, I e.word, e.val, e.sent] 255) := by rw [← hW]; exact heap_alloc_new w _
 have hs0 := hs.below hb0
 have hgl := hs.lt
 subst hW
 have hg := MN e
 rw [h] at hg
 unfold Ent.v at hg ⊢
 clear hs
 go_enter func367, ntmps367
 go_wp2_with fail
 refine (hg _).mono ?_
 rintro r w1 ⟨rfl, hb1⟩
 obtain ⟨es, first, hB, hf, hr, hl, hel⟩ := hs0.below hb1
 have hbw := hb0.trans (hb1.mono (Nat.le_of_lt hlt))
 obtain ⟨⟨c0, c1, c2, c3, c4⟩, _⟩ := Mb ((hb1.block w.heap.size hlt).trans hcl)
 clear hs0 hcl hb0 hb1
 have d1 := hB.n
 have d2 := hB.room
 have hlr : (L.length : Int) < (room : Int) := by omega
 have hlr' : (L.length : Int) < 16 := by omega
 go_wp2_with fail
 go_quiet (fail)
 go_wp2_with fail
 have hB2 := hB.drewN nq
 have hbw2 := Iu hbw nq
 have c0' : (w1.drewN nq).cell? w = I e.kind := c0
 have c1' : (w1.drewN nq).cell? ⟨w, 1, none⟩ = I e.line := c1
 have c2' : (w1.drewN nq).cell? ⟨w, 2, none⟩ = I e.word := c2
 have c3' : (w1.drewN nq).cell? ⟨w, 3, none⟩ = U e.val := c3
 have c4' : (w1.drewN nq).cell? ⟨w, 4, none⟩ = e.sent := c4
 clear c0 c1 c2 c3 c4 d1 d2 hbw hB
 generalize w1.drewN nq = w2 at *
 have hA : ∀ w', Buf w' g es room first L.length → Y 127 #[g, I L.length] w' fun e w'' => e = Z (I (((first + L.length) % 16 : Nat) : Int)) ∧ w' = w'' := fun w' h => IT g _ room first L.length L.length hf (by omega) w' h
 have hk : (first + L.length) % 16 < 16 := Nat.mod_lt _ (by omega)
 generalize hk' : (first + L.length) % 16 = k at *
 have hkH := Vw hk'
 have hB3 := hB2.setE k hk e
 have ho3 := Hu (Fw w2 (some g)) k e
 have d82 := hB2.n
 have d82' := hB3.n
 have k0 := hB2.kind k hk
 have k1 := hB2.line k hk
 have k2 := hB2.word k hk
 have k3 := hB2.val k hk
 have k4 := hB2.sent k hk
 have hz0 := hB2.free
 have hi0 : (0 : Int) ≤ (k : Int) := by omega
 have hi1 : (k : Int) < 16 := by omega
 clear hk' hg
 have hg4 : g ≠ w.heap.size := by omega
 have hg5 : w.heap.size ≠ g := by omega
 go_region_with (go_at_call 127; refine (hA _ hB2.drew).mono ?_; rintro r w4 ⟨rfl, rfl⟩)
 all_goals
  have hB5 := hB3.drew
  have ho5 := Gh (Hg hbw2 (some g)) (Fx ho3)
  have d5 := hB5.n
  have z5 := hB5.free 82
  change Exit.then _ _ _ _ ((setE w2 g k e).drew)
  clear d82' ho3 hB3
  generalize (setE w2 g k e).drew = w5 at *
  go_wp2_with fail
  refine bodyPost_ret (v := I 0) (by simp [results, results367, go_sem]) rfl ⟨rfl, ?_, CO ho5 rfl _⟩
  have hk5 := Hid.out hkH
  refine ⟨Ht es k e, first, (by rw [List.length_append]; exact hB5.setN (L.length + 1)), hf, hr, by simp; omega, fun i x hx => ?_⟩
  rcases Nat.lt_or_ge i L.length with hi | hi
  · rw [List.getElem?_append_left hi] at hx
    unfold Ht
    rw [if_neg (by omega)]
    exact hel i x hx
  · rw [List.getElem?_append_right hi] at hx
    have hi0 : i - L.length = 0 := by
     rcases Nat.eq_zero_or_pos (i - L.length) with h0 | h0
     · exact h0
     · rw [List.getElem?_eq_none (by simp; omega)] at hx; cases hx
    rw [hi0] at hx
    have hx' : e = x := by simpa using hx
    unfold Ht
    rw [if_pos (by rw [show i = L.length by omega]; exact hk5)]
    exact hx'
end Sb
namespace Sb
def hit (line word : Int) (e : Ent) : Bool := e.kind == 9 && e.line == line && e.word == word
def found (L : List Ent) (line word : Int) : Option Int := (L.reverse.find? (hit line word)).map (·.val)
theorem PI (L : List Ent) (line word : Int) (j : Nat) (h : found (L.drop (j + 1)) line word = none) (e : Ent) (he : L[j]? = some e) :
 found (L.drop j) line word = if hit line word e then some e.val else none := by
 have hd : L.drop j = e :: L.drop (j + 1) := by
  obtain ⟨hj, rfl⟩ := List.getElem?_eq_some_iff.1 he
  exact List.drop_eq_getElem_cons hj
 rw [hd]
 unfold found at h ⊢
 rw [List.reverse_cons, List.find?_append]
 rw [Option.map_eq_none_iff] at h
 rw [h, Option.none_or]
 by_cases hh : hit line word e = true
 · rw [if_pos hh, List.find?_singleton, if_pos hh]; rfl
 · rw [if_neg hh, List.find?_singleton, if_neg hh]; rfl
theorem PH (L : List Ent) (line word : Int) (j : Nat) (h : found (L.drop j) line word ≠ none) : found L line word = found (L.drop j) line word := by
 have hd : L = L.take j ++ L.drop j := (List.take_append_drop j L).symm
 have hr : L.reverse = (L.drop j).reverse ++ (L.take j).reverse := by rw [← List.reverse_append, ← hd]
 unfold found at h ⊢
 rw [hr, List.find?_append]
 cases hf : (L.drop j).reverse.find? (hit line word) with
 | none => rw [hf] at h; exact absurd rfl h
 | some e => rfl
theorem find_some (g room : Nat) (L : List Ent) (line word : Int) (w : World) (hs : SQ w g room L) : Y 365 #[g, I line, I word] w fun r w' =>
 r = Z (.tuple #[U ((found L line word).getD 0), .bool (found L line word).isSome]) ∧ Below w w w' := by
 obtain ⟨es, first, hB, hf, hr, hl, hel⟩ := hs
 go_enter func365, ntmps365
 go_wp2_with fail
 refine (len_some g es room first _ _ hB).mono ?_
 rintro r w1 ⟨rfl, rfl⟩
 have hl1 : (L.length : Int) ≤ 16 := by omega
 go_wp2_with fail
 go_loopw [8] (fun i W => ∃ (j : Nat) (q : Int), j ≤ L.length ∧ i = I q ∧ q = (j : Int) - 1 ∧ found (L.drop j) line word = none ∧ Below w w W) (fun i W => (intOf i + 1).toNat)
 case atStart => exact ⟨L.length, (L.length : Int) - 1, Nat.le_refl _, by go_num, rfl, by simp [found], Below.refl _ _⟩
 case round =>
  obtain ⟨j, q, hj, rfl, hq, hno, hb⟩ := hrel
  by_cases hlt : 0 < j
  · obtain ⟨m, rfl⟩ : ∃ m, j = m + 1 := ⟨j - 1, by omega⟩
    obtain rfl : q = (m : Int) := by omega
    obtain ⟨e, he⟩ : ∃ e, L[m]? = some e := ⟨_, List.getElem?_eq_getElem (by omega)⟩
    have hfd := Vw (PI L line word m hno e he)
    have hfl := Vw (PH L line word m)
    have hBr := hB.block (hb.block g hB.lt)
    have hglr : g < wr.heap.size := hBr.lt
    have hBa : ∀ o, Buf (wr.alloc o) g es room first L.length := fun o => hBr.block (Below.heap_alloc wr o g hglr)
    have hee := hel m e he
    have hm0 : (0 : Int) ≤ (m : Int) := by omega
    have hm1 : (m : Int) < 16 := by omega
    have hm2 : m < 16 := by omega
    have hA : ∀ w', Buf w' g es room first L.length → Y 127 #[g, I m] w' fun e w'' => e = Z (I (((first + m) % 16 : Nat) : Int)) ∧ w' = w'' := fun w' h => IT g _ room first L.length m hf (by omega) w' h
    have hk : (first + m) % 16 < 16 := Nat.mod_lt _ (by omega)
    generalize (first + m) % 16 = k at *
    have k0 := hBr.kind k hk
    have k1 := hBr.line k hk
    have k2 := hBr.word k hk
    have k3 := hBr.val k hk
    have k4 := hBr.sent k hk
    rw [hee] at k0 k1 k2 k3 k4
    have hi0 : (0 : Int) ≤ (k : Int) := by omega
    have hi1 : (k : Int) < 16 := by omega
    have HL := Vw hl1
    have HJ := Vw hj
    have hb2 : ∀ o, Below w w (wr.drew.alloc o) := fun o => hb.drew.alloc hb.size o
    clear hno hq hlt hj he hee hl1 hm2
    obtain ⟨ek, el, ew, ev, esn⟩ := e
    simp only at k0 k1 k2 k3 k4
    by_cases h9 : ek = 9
    · by_cases h10 : el = line
      · by_cases h11 : ew = word
        · subst h9 h10 h11
          go_wp2_with fail
          go_region_with (go_at_call 127; refine (hA _ ?_).mono ?_; (first | exact hBr.drew | exact (hBa _).drew); rintro r w4 ⟨rfl, rfl⟩)
          all_goals go_wp2_with fail
          all_goals
           have hq : found L el ew = some ev := by
            have h1 := hfd.out
            rw [if_pos (by simp [hit])] at h1
            rw [hfl.out (by rw [h1]; simp), h1]
           exact bodyPost_ret (v := .tuple #[ev, true]) (by simp [results, results365, go_sem]) rfl ⟨by rw [hq]; rfl, hb2 _⟩
        · have h11' : (ew == word) = false := by simpa using h11
          have hq : Hid (found (L.drop m) line word = none) := by
           have h1 := hfd.out
           rw [if_neg (by simp [hit, h11])] at h1
           exact h1
          subst h9 h10
          clear h11
          go_wp2_with fail
          go_region_with (go_at_call 127; refine (hA _ ?_).mono ?_; (first | exact hBr.drew | exact (hBa _).drew); rintro r w4 ⟨rfl, rfl⟩)
          all_goals go_wp2_with fail
          all_goals exact ⟨⟨m, (m : Int) - 1, by have := HJ.out; omega, rfl, rfl, hq.out, hb2 _⟩, by simp [intOf]⟩
      · have h10' : (el == line) = false := by simpa using h10
        have hq : Hid (found (L.drop m) line word = none) := by
         have h1 := hfd.out
         rw [if_neg (by simp [hit, h10])] at h1
         exact h1
        subst h9
        clear h10
        go_wp2_with fail
        go_region_with (go_at_call 127; refine (hA _ ?_).mono ?_; (first | exact hBr.drew | exact (hBa _).drew); rintro r w4 ⟨rfl, rfl⟩)
        all_goals go_wp2_with fail
        all_goals exact ⟨⟨m, (m : Int) - 1, by have := HJ.out; omega, rfl, rfl, hq.out, hb2 _⟩, by simp [intOf]⟩
    · have h9' : (ek == 9) = false := by simpa using h9
      have hq : Hid (found (L.drop m) line word = none) := by
       have h1 := hfd.out
       rw [if_neg (by simp [hit, h9])] at h1
       exact h1
      clear h9
      go_wp2_with fail
      go_region_with (go_at_call 127; refine (hA _ ?_).mono ?_; (first | exact hBr.drew | exact (hBa _).drew); rintro r w4 ⟨rfl, rfl⟩)
      all_goals go_wp2_with fail
      all_goals exact ⟨⟨m, (m : Int) - 1, by have := HJ.out; omega, rfl, rfl, hq.out, hb2 _⟩, by simp [intOf]⟩
  · obtain rfl : j = 0 := by omega
    obtain rfl : q = -1 := by omega
    clear hlt
    rw [List.drop_zero] at hno
    have HN := Vw hno
    clear hno hel hB hq
    go_wp2_with fail
    exact bodyPost_ret (v := .tuple #[U 0, false]) (by simp [results, results365, go_sem]) rfl ⟨by rw [HN.out]; rfl, hb⟩
end Sb
namespace Sb
def Ent.cells (e : Ent) : List Value := [I e.kind, I e.line, I e.word, U e.val, .bool e.sent]
def Hq (L : List Ent) : List Value := L.flatMap Ent.cells
theorem NI (l m : List Ent) : Hq (l ++ m) = Hq l ++ Hq m := by simp [Hq]
theorem RN {w w' : World} {base : Nat} {e : TypeId} {size : Nat} {v : Value} {n : Nat} {xs : List Value} (h : w.ownsRow base e size v n xs) (hb : Below w w w') : w'.ownsRow base e size v n xs := by
 refine ⟨h.1, ?_⟩
 rcases h.2 with h2 | ⟨g, AV, cur, hv, hg, hh, r⟩
 · exact .inl h2
 · refine .inr ⟨g, AV, cur, hv, hg, ?_, r⟩
   have hlt : g < w.heap.size := by
    rcases Nat.lt_or_ge g w.heap.size with h' | h'
    · exact h'
    · rw [Array.getElem?_eq_none h'] at hh; cases hh
   rw [hb.block g hlt]; exact hh
theorem Py {w : World} {base : Nat} {e : TypeId} {size : Nat} {v : Value} {n : Nat} {xs : List Value} (h : w.ownsRow base e size v n xs) : ∀ k, v.ownBlock = some k → base ≤ k := by
 intro k hk
 rcases h.2 with ⟨rfl, _⟩ | ⟨g, AV, cur, rfl, hg, _⟩
 · simp [Value.ownBlock] at hk
 · simp [Value.ownBlock] at hk; omega
theorem Ss (w : World) (base : Nat) (e : TypeId) (size : Nat) : w.ownsRow base e size (.slice none 0 0) 0 [] := ⟨by simp, .inl ⟨rfl, rfl⟩⟩
theorem UA : (prog.info? 255).map (fun i => (i.zero, i.size, i.bytes)) = some (some (.agg #[I 0, I 0, I 0, U 0, false]), 5, 40) := by kernel_rfl
theorem all_some (g room : Nat) (L : List Ent) (w : World) (hs : SQ w g room L) : Y 73 #[g] w fun r w' =>
 ∃ v, r = Z v ∧ w'.ownsRow w.heap.size 255 5 v L.length (Hq L) ∧ Below w w w' := by
 obtain ⟨i0, hi0, hz0, hz1, hz2⟩ := info_parts UA
 obtain ⟨es, first, hB, hf, hr, hl, hel⟩ := hs
 have hgl := hB.lt
 go_enter func73, ntmps73
 go_wp2_with fail
 refine (len_some g es room first _ _ hB).mono ?_
 rintro r w1 ⟨rfl, rfl⟩
 have HL := Vw hl
 have HE := Vw hel
 generalize hN : L.length = n at *
 have HN := Vw hN
 have hn' : (n : Int) ≤ 16 := by omega
 clear hel hl hN
 go_wp2_with fail
 go_loopw [3, 7] (fun v i W => ∃ j : Nat, (j : Int) ≤ n ∧ i = I j ∧ W.ownsRow w.heap.size 255 5 v j (Hq (L.take j)) ∧ Below w w W) (fun _ i _ => n - (intOf i).toNat)
 case atStart => exact ⟨0, by omega, rfl, Ss _ _ _ _, Below.refl _ _⟩
 case round =>
  obtain ⟨j, hj, rfl, hown, hbel⟩ := hrel
  by_cases hlt : (j : Int) < n
  · have hj0 : (0:Int) ≤ (j:Int) := by omega
    have hj16 : (j : Int) < 16 := by omega
    obtain ⟨e, hget⟩ : ∃ e, L[j]? = some e := ⟨L[j]'(by rw [HN.out]; omega), List.getElem?_eq_getElem (by rw [HN.out]; omega)⟩
    have htake : L.take (j + 1) = L.take j ++ [e] := by rw [List.take_add_one, hget]; rfl
    have hee := HE.out j e hget
    have HK := Vw htake
    have hBr := hB.block (hbel.block g hgl)
    have hglr : g < wr.heap.size := hBr.lt
    have hBa : ∀ o, Buf (wr.alloc o) g es room first n := fun o => hBr.block (Below.heap_alloc wr o g hglr)
    have hA : ∀ w', Buf w' g es room first n → Y 127 #[g, I j] w' fun e w'' => e = Z (I (((first + j) % 16 : Nat) : Int)) ∧ w' = w'' := fun w' h => IT g _ room first n j hf (by omega) w' h
    have hk : (first + j) % 16 < 16 := Nat.mod_lt _ (by omega)
    generalize (first + j) % 16 = k at *
    have k0 := hBr.kind k hk
    have k1 := hBr.line k hk
    have k2 := hBr.word k hk
    have k3 := hBr.val k hk
    have k4 := hBr.sent k hk
    rw [hee] at k0 k1 k2 k3 k4
    have hi00 : (0 : Int) ≤ (k : Int) := by omega
    have hi1 : (k : Int) < 16 := by omega
    clear hget htake hee
    have hc2 : ∀ u ∈ [I e.kind, I e.line, I e.word, U e.val, .bool e.sent], u.oneCell' = true := by simp [Value.oneCell']
    have hc3 : j + 1 ≤ maxLen := by unfold maxLen; omega
    have hc4 : (j + 1) * 40 ≤ 140737488355328 := by omega
    have hc5 : ∀ o : Obj, w.heap.size ≤ (wr.alloc o).drew.heap.size := fun o => Vx hbel.size (by simp)
    have HC2 := Vw hc2
    have HC5 := Vw hc5
    clear hc2 hc5
    go_wp2_with fail
    have hf : ∀ (X : Obj) (w2 : World), (wr.alloc X).drew.grownBy w2 u3.ownBlock → w2.cell? ⟨g, k * 5, none⟩ = I e.kind ∧ w2.cell? ⟨g, k * 5 + 1, none⟩ = I e.line ∧ w2.cell? ⟨g, k * 5 + 2, none⟩ = I e.word ∧ w2.cell? ⟨g, k * 5 + 3, none⟩ = U e.val ∧ w2.cell? ⟨g, k * 5 + 4, none⟩ = e.sent := by
     intro X w2 hgr
     have hne : some g ≠ u3.ownBlock := fun e => by have := Py hown g e.symm; omega
     have hb2 : g < (wr.alloc X).drew.heap.size := by simp; omega
     refine ⟨?_, ?_, ?_, ?_, ?_⟩
     · rw [hgr.cell_far ⟨g, _, none⟩ hb2 hne, World.cell?_drew, World.cell?_alloc_lt wr X ⟨g, _, none⟩ hglr]; exact k0
     · rw [hgr.cell_far ⟨g, _, none⟩ hb2 hne, World.cell?_drew, World.cell?_alloc_lt wr X ⟨g, _, none⟩ hglr]; exact k1
     · rw [hgr.cell_far ⟨g, _, none⟩ hb2 hne, World.cell?_drew, World.cell?_alloc_lt wr X ⟨g, _, none⟩ hglr]; exact k2
     · rw [hgr.cell_far ⟨g, _, none⟩ hb2 hne, World.cell?_drew, World.cell?_alloc_lt wr X ⟨g, _, none⟩ hglr]; exact k3
     · rw [hgr.cell_far ⟨g, _, none⟩ hb2 hne, World.cell?_drew, World.cell?_alloc_lt wr X ⟨g, _, none⟩ hglr]; exact k4
    have HF := Vw hf; clear hf
    have HO := Vw hown; clear hown
    go_region_held3 (fun w' => w'.cell? ⟨g, k * 5, none⟩ = I e.kind ∧ w'.cell? ⟨g, k * 5 + 1, none⟩ = I e.line ∧ w'.cell? ⟨g, k * 5 + 2, none⟩ = I e.word ∧ w'.cell? ⟨g, k * 5 + 3, none⟩ = U e.val ∧ w'.cell? ⟨g, k * 5 + 4, none⟩ = e.sent) (first | go_keep | exact HF.out _ _ hgrow)
     (first
      | (go_at_call 127; refine (hA _ hBr.drew).mono ?_; rintro r w4 ⟨rfl, rfl⟩)
      | (refine step_append_lies _ (by rfl) (.tmp 10) (.tmp 19) 103 (by rfl) w.heap.size 255 i0 _ 5 40 underlying103 hi0 hz0 hz1 hz2 (by rfl) (by decide) u3 j (Hq (L.take j)) (by rfl) ((RN HO.out ((Below.refl _ _).alloc (Nat.le_refl _) _)).drew) wr 1 1 [I e.kind, I e.line, I e.word, U e.val, .bool e.sent] (by rfl) (by rfl) (World.news_of_block (heap_alloc_new wr _)) HC2.out (by omega) hc3 hc4 (HC5.out _) _ rfl ?_; intro g2 cap2 w2 hown2 hgrow hat hlt2))
    all_goals
     have hb3 : Below w w w2 := ((hbel.alloc hbel.size _).drew).grown hgrow (Vx hbel.size (by simp)) (Py HO.out)
     have hx : w2.ownsRow w.heap.size 255 5 (.slice (some g2) (j + 1) cap2) (j + 1) (Hq (L.take (j + 1))) := by
      rw [HK.out, NI]
      exact hown2
     clear hgrow hat hlt2 hbel k0 k1 k2 k3 k4 hown2
     go_wp2_with fail
     go_roundw
     case rel => exact ⟨j + 1, by omega, by go_num, hx, hb3⟩
     case measure => simp [intOf]; omega
  · have hjn : j = n := by omega
    have hall : L.take j = L := by rw [hjn, ← HN.out]; exact List.take_length
    rw [hall] at hown
    subst hjn
    go_wp2_with fail
    go_ret
    exact ⟨u3, rfl, by rw [HN.out]; exact hown, hbel⟩
end Sb
def BG (i : Ins) : Int := bits .or .u64 (bits .or .u64 (bits .or .u64 (bits .or .u64 (IntKind.u64.wrap i.op) (IntKind.u64.wrap (IntKind.u64.wrap i.a * 256))) (IntKind.u64.wrap (IntKind.u64.wrap i.b * 4096))) (IntKind.u64.wrap (IntKind.u64.wrap i.c * 65536))) (IntKind.u64.wrap (IntKind.u64.wrap i.imm * 4294967296))
def UQ (u : Int) : Ins := ⟨u % 256, wrap64 (bits .and .u64 (u / 256) 15), wrap64 (bits .and .u64 (u / 4096) 15), wrap64 (bits .and .u64 (u / 65536) 15), wrap64 u / 4294967296⟩
def MM (o : Int) : Bool := o != 0 && o != 12 && o != 13 && o != 14 && o != 15 && o != 16 && o != 17 && o != 22
def ML (o : Int) : Bool := o != 0 && o != 1 && o != 15 && o != 16 && o != 17 && o != 21 && o != 22
def MK (o : Int) : Bool := o == 2 || o == 3 || o == 4 || o == 5 || o == 6 || o == 7 || o == 10 || o == 11
def Jr (o : Int) : Bool := o == 1 || o == 8 || o == 9 || o == 12 || o == 13 || o == 14 || o == 17 || o == 18 || o == 19 || o == 20
def JX (n : Int) (b : Bool) : Bool := n == 0 || b && decide (0 < n) && decide (n < 8)
def PC (i : Ins) : Bool := decide (0 ≤ i.op) && decide (i.op ≤ 22) && JX i.a (MM i.op) && JX i.b (ML i.op) && JX i.c (MK i.op) &&
 (if Jr i.op = true then decide (0 ≤ i.imm) && decide (i.imm ≤ 2147483647) else i.imm == 0)
def Ou (i j : Ins) : Bool := i.op == j.op && i.a == j.a && i.b == j.b && i.c == j.c && i.imm == j.imm
theorem Rj {i j : Ins} (h : Ou i j = true) : i = j := by
 obtain ⟨a, b, c, d, e⟩ := i
 obtain ⟨a', b', c', d', e'⟩ := j
 simp only [Ou, Bool.and_eq_true, beq_iff_eq] at h
 obtain ⟨⟨⟨⟨rfl, rfl⟩, rfl⟩, rfl⟩, rfl⟩ := h
 rfl
def CF (i : Ins) : Bool := PC i && Ou (UQ (BG i)) i && (BG i % 4294967296 / 1048576 == 0)
def Bk : List Ins → Bool
 | [] => true
 | i :: l => CF i && Bk l
theorem Uo (v : Nat) (h : v < 300) : CF ⟨1, 4, 0, 0, (v : Int)⟩ = true := by
 have : ∀ v : Fin 300, CF ⟨1, 4, 0, 0, ((v : Nat) : Int)⟩ = true := by decide +kernel
 exact this ⟨v, h⟩
namespace Al
theorem EK {P : Program} {k : TypeId} (hk : P.underlying k = some (.int .i64)) (em : Bool) (v : Value) (w : World) :
 (Instr.checkKey em 10000 k v).run P w = .ok () w := by
 show (Instr.checkKey em (9999 + 1) k v).run P w = .ok () w
 unfold Instr.checkKey
 simp [run_underlying hk]
theorem Ea {P : Program} {k : TypeId} (hk : P.underlying k = some (.int .i64)) (v : Value) (es : List MapEntry) (r : Option (Nat × Value)) (w : World)
 (hf : Instr.findNow (.int .i64) v es 0 = some r) : (Instr.findKey k v es).run P w = .ok r w := by
 unfold Instr.findKey
 simp [run_underlying hk, hf]
theorem Em {P : Program} (w : World) (es : Array MapEntry) (c : Nat) : (getObj w.heap.size).run P (w.alloc (.map es c)) = .ok (.map es c) (w.alloc (.map es c)) :=
 MapKept.run_getObj_map (heap_alloc_new w _)
theorem KK {P : Program} (w : World) (es : Array MapEntry) (c : Nat) (o' : Obj) : (setObj w.heap.size o').run P (w.alloc (.map es c)) = .ok () (w.alloc o') := by
 rw [MapKept.run_setObj_map o' (heap_alloc_new w _)]
 have h : (w.alloc (.map es c)).heap.setIfInBounds w.heap.size o' = (w.alloc o').heap := by
  show (w.heap.push _).setIfInBounds w.heap.size o' = w.heap.push o'
  apply Array.ext'
  simp
 rw [h]
 rfl
theorem run_insert_fresh {P : Program} {t k e : TypeId} (ht : P.underlying t = some (.map k e)) (hk : P.underlying k = some (.int .i64)) (w : World) (es : Array MapEntry) (c : Nat) (x : Int) (v : Value)
 (hf : Instr.findNow (.int .i64) (I x) es.toList 0 = some none) :
 (Instr.mapUpdate t (.map (some w.heap.size)) (I x) v).run P (w.alloc (.map es c)) = .ok () (w.alloc (.map (es.push { key := I x, val := v, born := c }) (c + 1))) := by
 unfold Instr.mapUpdate
 have hc := fun W => EK (P := P) hk false (I x) W
 have hg := fun W => Ea (P := P) hk (I x) es.toList none W hf
 simp [run_underlying ht, hc, hg, Em, KK]
def Mk (w w' : World) : Prop := Below w w w' ∧ ∀ a, w'.frozen? a = w.frozen? a
theorem Mk.refl (w : World) : Mk w w := ⟨Below.refl _ _, fun _ => rfl⟩
theorem Mk.trans {a b c : World} (h : Mk a b) (k : Mk b c) : Mk a c := ⟨h.1.trans (k.1.mono h.1.size), fun x => (k.2 x).trans (h.2 x)⟩
theorem Mk.alloc {a w : World} (h : Mk a w) (c : Array Value) (t : TypeId) : Mk a (w.alloc (.cells c t)) :=
 ⟨h.1.alloc h.1.size _, fun x => (frozen?_alloc_cells _ _ _ x).trans (h.2 x)⟩
theorem frozen?_alloc_map (w : World) (es : Array MapEntry) (n : Nat) (a : Addr) : (w.alloc (.map es n)).frozen? a = w.frozen? a := by
 by_cases h : a.block = w.heap.size
 · have e1 : (w.alloc (.map es n)).heap[a.block]? = some (.map es n) := by rw [h]; exact (MapKept.heap_alloc w _).1
   have e2 : w.heap[a.block]? = none := by rw [h]; simp
   simp [World.frozen?, e1, e2]
 · exact World.frozen?_alloc_old _ _ _ h
theorem Mk.allocMap {a w : World} (h : Mk a w) (es : Array MapEntry) (n : Nat) : Mk a (w.alloc (.map es n)) :=
 ⟨h.1.alloc h.1.size _, fun x => (frozen?_alloc_map _ _ _ x).trans (h.2 x)⟩
theorem Mk.drew {a w : World} (h : Mk a w) : Mk a w.drew := ⟨h.1.drew, h.2⟩
theorem Mk.drewN {a w : World} (h : Mk a w) (n : Nat) : Mk a (w.drewN n) := ⟨⟨h.1.os, h.1.tape, h.1.output, h.1.size, h.1.block⟩, h.2⟩
theorem Mk.setCell {a w : World} (h : Mk a w) {p : Addr} (hp : a.heap.size ≤ p.block) (v : Value) : Mk a (w.setCell p v) :=
 ⟨h.1.setCell hp v, fun x => (World.frozen?_setCell _ _ _ _).trans (h.2 x)⟩
theorem Mk.grown {a w : World} (h : Mk a w) : Grown a w := ⟨h.1.frame _, h.2, h.1.size⟩
def Ck : Array MapEntry := #[{ key := I 2, val := .agg #[.func (.func 408) #[] #[]], born := 0 }, { key := I 3, val := .agg #[.func (.func 409) #[] #[]], born := 1 }, { key := I 4, val := .agg #[.func (.func 410) #[] #[]], born := 2 }, { key := I 5, val := .agg #[.func (.func 411) #[] #[]], born := 3 }, { key := I 6, val := .agg #[.func (.func 412) #[] #[]], born := 4 }, { key := I 7, val := .agg #[.func (.func 413) #[] #[]], born := 5 }]
theorem Da (w : World) : Y 400 #[] w fun e w' => e = Z (.map (some w.heap.size)) ∧ w.alloc (.map Ck 6) = w' := by
 have hmm := @run_makeMap prog
 have h2 : ∀ W : World, (Instr.mapUpdate 492 (.map (some W.heap.size)) (I 2) (.agg #[.func (.func 408) #[] #[]])).run prog (W.alloc (.map #[] 0)) = .ok () (W.alloc (.map #[{ key := I 2, val := .agg #[.func (.func 408) #[] #[]], born := 0 }] 1)) :=
  fun W => run_insert_fresh underlying492 underlying3 W _ _ _ _ (by rfl)
 have h3 : ∀ W : World, (Instr.mapUpdate 492 (.map (some W.heap.size)) (I 3) (.agg #[.func (.func 409) #[] #[]])).run prog (W.alloc (.map #[{ key := I 2, val := .agg #[.func (.func 408) #[] #[]], born := 0 }] 1)) = .ok () (W.alloc (.map #[{ key := I 2, val := .agg #[.func (.func 408) #[] #[]], born := 0 }, { key := I 3, val := .agg #[.func (.func 409) #[] #[]], born := 1 }] 2)) :=
  fun W => run_insert_fresh underlying492 underlying3 W _ _ _ _ (by rfl)
 have h4 : ∀ W : World, (Instr.mapUpdate 492 (.map (some W.heap.size)) (I 4) (.agg #[.func (.func 410) #[] #[]])).run prog (W.alloc (.map #[{ key := I 2, val := .agg #[.func (.func 408) #[] #[]], born := 0 }, { key := I 3, val := .agg #[.func (.func 409) #[] #[]], born := 1 }] 2)) = .ok () (W.alloc (.map #[{ key := I 2, val := .agg #[.func (.func 408) #[] #[]], born := 0 }, { key := I 3, val := .agg #[.func (.func 409) #[] #[]], born := 1 }, { key := I 4, val := .agg #[.func (.func 410) #[] #[]], born := 2 }] 3)) :=
  fun W => run_insert_fresh underlying492 underlying3 W _ _ _ _ (by rfl)
 have h5 : ∀ W : World, (Instr.mapUpdate 492 (.map (some W.heap.size)) (I 5) (.agg #[.func (.func 411) #[] #[]])).run prog (W.alloc (.map #[{ key := I 2, val := .agg #[.func (.func 408) #[] #[]], born := 0 }, { key := I 3, val := .agg #[.func (.func 409) #[] #[]], born := 1 }, { key := I 4, val := .agg #[.func (.func 410) #[] #[]], born := 2 }] 3)) = .ok () (W.alloc (.map #[{ key := I 2, val := .agg #[.func (.func 408) #[] #[]], born := 0 }, { key := I 3, val := .agg #[.func (.func 409) #[] #[]], born := 1 }, { key := I 4, val := .agg #[.func (.func 410) #[] #[]], born := 2 }, { key := I 5, val := .agg #[.func (.func 411) #[] #[]], born := 3 }] 4)) :=
  fun W => run_insert_fresh underlying492 underlying3 W _ _ _ _ (by rfl)
 have h6 : ∀ W : World, (Instr.mapUpdate 492 (.map (some W.heap.size)) (I 6) (.agg #[.func (.func 412) #[] #[]])).run prog (W.alloc (.map #[{ key := I 2, val := .agg #[.func (.func 408) #[] #[]], born := 0 }, { key := I 3, val := .agg #[.func (.func 409) #[] #[]], born := 1 }, { key := I 4, val := .agg #[.func (.func 410) #[] #[]], born := 2 }, { key := I 5, val := .agg #[.func (.func 411) #[] #[]], born := 3 }] 4)) = .ok () (W.alloc (.map #[{ key := I 2, val := .agg #[.func (.func 408) #[] #[]], born := 0 }, { key := I 3, val := .agg #[.func (.func 409) #[] #[]], born := 1 }, { key := I 4, val := .agg #[.func (.func 410) #[] #[]], born := 2 }, { key := I 5, val := .agg #[.func (.func 411) #[] #[]], born := 3 }, { key := I 6, val := .agg #[.func (.func 412) #[] #[]], born := 4 }] 5)) :=
  fun W => run_insert_fresh underlying492 underlying3 W _ _ _ _ (by rfl)
 have h7 : ∀ W : World, (Instr.mapUpdate 492 (.map (some W.heap.size)) (I 7) (.agg #[.func (.func 413) #[] #[]])).run prog (W.alloc (.map #[{ key := I 2, val := .agg #[.func (.func 408) #[] #[]], born := 0 }, { key := I 3, val := .agg #[.func (.func 409) #[] #[]], born := 1 }, { key := I 4, val := .agg #[.func (.func 410) #[] #[]], born := 2 }, { key := I 5, val := .agg #[.func (.func 411) #[] #[]], born := 3 }, { key := I 6, val := .agg #[.func (.func 412) #[] #[]], born := 4 }] 5)) = .ok () (W.alloc (.map #[{ key := I 2, val := .agg #[.func (.func 408) #[] #[]], born := 0 }, { key := I 3, val := .agg #[.func (.func 409) #[] #[]], born := 1 }, { key := I 4, val := .agg #[.func (.func 410) #[] #[]], born := 2 }, { key := I 5, val := .agg #[.func (.func 411) #[] #[]], born := 3 }, { key := I 6, val := .agg #[.func (.func 412) #[] #[]], born := 4 }, { key := I 7, val := .agg #[.func (.func 413) #[] #[]], born := 5 }] 6)) :=
  fun W => run_insert_fresh underlying492 underlying3 W _ _ _ _ (by rfl)
 go_enter func400, ntmps400
 go_wp2_with fail
 go_ret
 exact ⟨rfl, rfl⟩
theorem Rw (b c : Int) (w : World) (hb : 0 ≤ b ∧ b < 18446744073709551616) (hc : 0 ≤ c ∧ c < 18446744073709551616) : Y 408 #[b, c] w fun e w' => e = Z (U (IntKind.u64.wrap (b + c))) ∧ w = w' := by
 go_enter func408, ntmps408
 go_wp2
 go_ret
 exact ⟨rfl, rfl⟩
theorem Rv (b c : Int) (w : World) (hb : 0 ≤ b ∧ b < 18446744073709551616) (hc : 0 ≤ c ∧ c < 18446744073709551616) : Y 409 #[b, c] w fun e w' => e = Z (U (IntKind.u64.wrap (b - c))) ∧ w = w' := by
 go_enter func409, ntmps409
 go_wp2
 go_ret
 exact ⟨rfl, rfl⟩
theorem Ru (b c : Int) (w : World) (hb : 0 ≤ b ∧ b < 18446744073709551616) (hc : 0 ≤ c ∧ c < 18446744073709551616) : Y 410 #[b, c] w fun e w' => e = Z (U (bits .and .u64 b c)) ∧ w = w' := by
 go_enter func410, ntmps410
 go_wp2
 go_ret
 exact ⟨rfl, rfl⟩
theorem Rt (b c : Int) (w : World) (hb : 0 ≤ b ∧ b < 18446744073709551616) (hc : 0 ≤ c ∧ c < 18446744073709551616) : Y 411 #[b, c] w fun e w' => e = Z (U (bits .xor .u64 b c)) ∧ w = w' := by
 go_enter func411, ntmps411
 go_wp2
 go_ret
 exact ⟨rfl, rfl⟩
theorem Rr (b c : Int) (w : World) (hb : 0 ≤ b ∧ b < 18446744073709551616) (hc : 0 ≤ c ∧ c < 18446744073709551616) : Y 412 #[b, c] w fun e w' => e = Z (U (IntKind.u64.wrap (b * 2 ^ (c % 64).toNat))) ∧ w = w' := by
 go_enter func412, ntmps412
 go_wp2
 go_ret
 exact ⟨rfl, rfl⟩
theorem Rq (b c : Int) (w : World) (hb : 0 ≤ b ∧ b < 18446744073709551616) (hc : 0 ≤ c ∧ c < 18446744073709551616) : Y 413 #[b, c] w fun e w' => e = Z (U (b / 2 ^ (c % 64).toNat)) ∧ w = w' := by
 go_enter func413, ntmps413
 go_wp2
 go_ret
 exact ⟨rfl, rfl⟩
def doV (op b c : Int) : Int := if op = 2 then IntKind.u64.wrap (b + c) else if op = 3 then IntKind.u64.wrap (b - c) else if op = 4 then bits .and .u64 b c else if op = 5 then bits .xor .u64 b c else if op = 6 then IntKind.u64.wrap (b * 2 ^ (c % 64).toNat) else if op = 7 then b / 2 ^ (c % 64).toNat else 0
def doOk (op : Int) : Bool := decide (2 ≤ op ∧ op ≤ 7)
theorem Cg {P : Program} {t k e : TypeId} (ht : P.underlying t = some (.map k e)) (hk : P.underlying k = some (.int .i64)) (w : World) (es : Array MapEntry) (c : Nat) (x : Int) (i : Nat) (v : Value)
 (hf : Instr.findNow (.int .i64) (I x) es.toList 0 = some (some (i, v))) :
 (Instr.lookup t (.map (some w.heap.size)) (I x) true).run P (w.alloc (.map es c)) = .ok (.tuple #[v, true]) (w.alloc (.map es c)) := by
 unfold Instr.lookup
 have hc := fun em W => EK (P := P) hk em (I x) W
 have hg := fun W => Ea (P := P) hk (I x) es.toList _ W hf
 simp [run_underlying ht, hc, hg, Em]
theorem JU {P : Program} {t k e : TypeId} (ht : P.underlying t = some (.map k e)) (hk : P.underlying k = some (.int .i64)) (w : World) (es : Array MapEntry) (c : Nat) (x : Int) (z : Value)
 (hf : Instr.findNow (.int .i64) (I x) es.toList 0 = some none) (hz : ∀ W, (zeroValue e).run P W = .ok z W) :
 (Instr.lookup t (.map (some w.heap.size)) (I x) true).run P (w.alloc (.map es c)) = .ok (.tuple #[z, false]) (w.alloc (.map es c)) := by
 unfold Instr.lookup
 have hc := fun em W => EK (P := P) hk em (I x) W
 have hg := fun W => Ea (P := P) hk (I x) es.toList _ W hf
 simp [run_underlying ht, hc, hg, Em, hz]
theorem Vg (b c : Int) (w : World) (hb : 0 ≤ b ∧ b < 18446744073709551616) (hc : 0 ≤ c ∧ c < 18446744073709551616) : Y 370 #[I 2, b, c] w fun e w' => e = Z (.tuple #[U (IntKind.u64.wrap (b + c)), true]) ∧ Mk w w' := by
 have hl : ∀ W : World, (Instr.lookup 492 (.map (some W.heap.size)) (I 2) true).run prog (W.alloc (.map Ck 6)) = .ok (.tuple #[.agg #[.func (.func 408) #[] #[]], true]) (W.alloc (.map Ck 6)) :=
  fun W => Cg underlying492 underlying3 W Ck 6 2 0 _ (by rfl)
 go_enter func370, ntmps370
 go_wp2_with (first | (go_at_call 400; refine (Da _).mono ?_; rintro e w1 ⟨rfl, rfl⟩) | (go_at_call 408; refine (Rw _ _ _ hb hc).mono ?_; rintro e w1 ⟨rfl, rfl⟩))
 go_ret2
 exact ⟨rfl, ((Mk.refl w).allocMap _ _).alloc _ _⟩
theorem Vf (b c : Int) (w : World) (hb : 0 ≤ b ∧ b < 18446744073709551616) (hc : 0 ≤ c ∧ c < 18446744073709551616) : Y 370 #[I 3, b, c] w fun e w' => e = Z (.tuple #[U (IntKind.u64.wrap (b - c)), true]) ∧ Mk w w' := by
 have hl : ∀ W : World, (Instr.lookup 492 (.map (some W.heap.size)) (I 3) true).run prog (W.alloc (.map Ck 6)) = .ok (.tuple #[.agg #[.func (.func 409) #[] #[]], true]) (W.alloc (.map Ck 6)) :=
  fun W => Cg underlying492 underlying3 W Ck 6 3 1 _ (by rfl)
 go_enter func370, ntmps370
 go_wp2_with (first | (go_at_call 400; refine (Da _).mono ?_; rintro e w1 ⟨rfl, rfl⟩) | (go_at_call 409; refine (Rv _ _ _ hb hc).mono ?_; rintro e w1 ⟨rfl, rfl⟩))
 go_ret2
 exact ⟨rfl, ((Mk.refl w).allocMap _ _).alloc _ _⟩
theorem Ve (b c : Int) (w : World) (hb : 0 ≤ b ∧ b < 18446744073709551616) (hc : 0 ≤ c ∧ c < 18446744073709551616) : Y 370 #[I 4, b, c] w fun e w' => e = Z (.tuple #[U (bits .and .u64 b c), true]) ∧ Mk w w' := by
 have hl : ∀ W : World, (Instr.lookup 492 (.map (some W.heap.size)) (I 4) true).run prog (W.alloc (.map Ck 6)) = .ok (.tuple #[.agg #[.func (.func 410) #[] #[]], true]) (W.alloc (.map Ck 6)) :=
  fun W => Cg underlying492 underlying3 W Ck 6 4 2 _ (by rfl)
 go_enter func370, ntmps370
 go_wp2_with (first | (go_at_call 400; refine (Da _).mono ?_; rintro e w1 ⟨rfl, rfl⟩) | (go_at_call 410; refine (Ru _ _ _ hb hc).mono ?_; rintro e w1 ⟨rfl, rfl⟩))
 go_ret2
 exact ⟨rfl, ((Mk.refl w).allocMap _ _).alloc _ _⟩
theorem Vd (b c : Int) (w : World) (hb : 0 ≤ b ∧ b < 18446744073709551616) (hc : 0 ≤ c ∧ c < 18446744073709551616) : Y 370 #[I 5, b, c] w fun e w' => e = Z (.tuple #[U (bits .xor .u64 b c), true]) ∧ Mk w w' := by
 have hl : ∀ W : World, (Instr.lookup 492 (.map (some W.heap.size)) (I 5) true).run prog (W.alloc (.map Ck 6)) = .ok (.tuple #[.agg #[.func (.func 411) #[] #[]], true]) (W.alloc (.map Ck 6)) :=
  fun W => Cg underlying492 underlying3 W Ck 6 5 3 _ (by rfl)
 go_enter func370, ntmps370
 go_wp2_with (first | (go_at_call 400; refine (Da _).mono ?_; rintro e w1 ⟨rfl, rfl⟩) | (go_at_call 411; refine (Rt _ _ _ hb hc).mono ?_; rintro e w1 ⟨rfl, rfl⟩))
 go_ret2
 exact ⟨rfl, ((Mk.refl w).allocMap _ _).alloc _ _⟩
theorem Vc (b c : Int) (w : World) (hb : 0 ≤ b ∧ b < 18446744073709551616) (hc : 0 ≤ c ∧ c < 18446744073709551616) : Y 370 #[I 6, b, c] w fun e w' => e = Z (.tuple #[U (IntKind.u64.wrap (b * 2 ^ (c % 64).toNat)), true]) ∧ Mk w w' := by
 have hl : ∀ W : World, (Instr.lookup 492 (.map (some W.heap.size)) (I 6) true).run prog (W.alloc (.map Ck 6)) = .ok (.tuple #[.agg #[.func (.func 412) #[] #[]], true]) (W.alloc (.map Ck 6)) :=
  fun W => Cg underlying492 underlying3 W Ck 6 6 4 _ (by rfl)
 go_enter func370, ntmps370
 go_wp2_with (first | (go_at_call 400; refine (Da _).mono ?_; rintro e w1 ⟨rfl, rfl⟩) | (go_at_call 412; refine (Rr _ _ _ hb hc).mono ?_; rintro e w1 ⟨rfl, rfl⟩))
 go_ret2
 exact ⟨rfl, ((Mk.refl w).allocMap _ _).alloc _ _⟩
theorem Vb (b c : Int) (w : World) (hb : 0 ≤ b ∧ b < 18446744073709551616) (hc : 0 ≤ c ∧ c < 18446744073709551616) : Y 370 #[I 7, b, c] w fun e w' => e = Z (.tuple #[U (b / 2 ^ (c % 64).toNat), true]) ∧ Mk w w' := by
 have hl : ∀ W : World, (Instr.lookup 492 (.map (some W.heap.size)) (I 7) true).run prog (W.alloc (.map Ck 6)) = .ok (.tuple #[.agg #[.func (.func 413) #[] #[]], true]) (W.alloc (.map Ck 6)) :=
  fun W => Cg underlying492 underlying3 W Ck 6 7 5 _ (by rfl)
 go_enter func370, ntmps370
 go_wp2_with (first | (go_at_call 400; refine (Da _).mono ?_; rintro e w1 ⟨rfl, rfl⟩) | (go_at_call 413; refine (Rq _ _ _ hb hc).mono ?_; rintro e w1 ⟨rfl, rfl⟩))
 go_ret2
 exact ⟨rfl, ((Mk.refl w).allocMap _ _).alloc _ _⟩
theorem do_none (op b c : Int) (w : World) (hop : op < 2 ∨ 7 < op) : Y 370 #[I op, b, c] w fun e w' => e = Z (.tuple #[U 0, false]) ∧ Mk w w' := by
 have hl : ∀ W : World, (Instr.lookup 492 (.map (some W.heap.size)) (I op) true).run prog (W.alloc (.map Ck 6)) = .ok (.tuple #[.agg #[.nilFunc], false]) (W.alloc (.map Ck 6)) :=
  fun W => JU underlying492 underlying3 W Ck 6 op _ (by
   have h2 : (op == 2) = false := by simpa using (by omega : ¬ op = 2)
   have h3 : (op == 3) = false := by simpa using (by omega : ¬ op = 3)
   have h4 : (op == 4) = false := by simpa using (by omega : ¬ op = 4)
   have h5 : (op == 5) = false := by simpa using (by omega : ¬ op = 5)
   have h6 : (op == 6) = false := by simpa using (by omega : ¬ op = 6)
   have h7 : (op == 7) = false := by simpa using (by omega : ¬ op = 7)
   simp [Ck, Instr.findNow, Instr.sameNow, h2, h3, h4, h5, h6, h7]) (fun _ => by kernel_rfl)
 clear hop
 go_enter func370, ntmps370
 go_wp2_with (go_at_call 400; refine (Da _).mono ?_; rintro e w1 ⟨rfl, rfl⟩)
 go_ret2
 exact ⟨rfl, ((Mk.refl w).allocMap _ _).alloc _ _⟩
theorem do_any (op b c : Int) (w : World) (hb : 0 ≤ b ∧ b < 18446744073709551616) (hc : 0 ≤ c ∧ c < 18446744073709551616) : Y 370 #[I op, b, c] w fun e w' => e = Z (.tuple #[U (doV op b c), .bool (doOk op)]) ∧ Mk w w' := by
 rcases Decidable.em (2 ≤ op ∧ op ≤ 7) with h | h
 · have h' : op = 2 ∨ op = 3 ∨ op = 4 ∨ op = 5 ∨ op = 6 ∨ op = 7 := by omega
   rcases h' with rfl | rfl | rfl | rfl | rfl | rfl
   · exact Vg b c w hb hc
   · exact Vf b c w hb hc
   · exact Ve b c w hb hc
   · exact Vd b c w hb hc
   · exact Vc b c w hb hc
   · exact Vb b c w hb hc
 · have e1 : doV op b c = 0 := by
    unfold doV
    rw [if_neg (by omega), if_neg (by omega), if_neg (by omega), if_neg (by omega), if_neg (by omega), if_neg (by omega)]
   have e2 : doOk op = false := by simp only [doOk, h, decide_false]
   rw [e1, e2]
   exact do_none op b c w (by omega)
def goV (op a b : Int) : Bool := if op = 17 then true else if op = 18 then a == b else if op = 19 then a != b else if op = 20 then decide (a < b) else false
def Rp (op : Int) : Bool := decide (17 ≤ op ∧ op ≤ 20)
theorem goes_any (op a b : Int) (w : World) : Y 371 #[I op, a, b] w fun e w' => e = Z (.tuple #[.bool (goV op a b), .bool (Rp op)]) ∧ w = w' := by
 rcases Decidable.em (17 ≤ op ∧ op ≤ 20) with h | h
 · have h' : op = 17 ∨ op = 18 ∨ op = 19 ∨ op = 20 := by omega
   rcases h' with rfl | rfl | rfl | rfl
   all_goals
    clear h
    go_enter func371, ntmps371
    go_wp2
    go_ret2
    exact ⟨rfl, rfl⟩
 · have h17 : (op == 17) = false := by simpa using (by omega : ¬ op = 17)
   have h18 : (op == 18) = false := by simpa using (by omega : ¬ op = 18)
   have h19 : (op == 19) = false := by simpa using (by omega : ¬ op = 19)
   have h20 : (op == 20) = false := by simpa using (by omega : ¬ op = 20)
   have e1 : goV op a b = false := by
    unfold goV
    rw [if_neg (by omega), if_neg (by omega), if_neg (by omega), if_neg (by omega)]
   have e2 : Rp op = false := by simp only [Rp, h, decide_false]
   rw [e1, e2]
   clear h e1 e2
   go_enter func371, ntmps371
   go_wp2
   go_ret2
   exact ⟨rfl, rfl⟩
end Al
section
variable {P : Program} {ops : Array Oper} {Q : Exit → Act → World → Prop} {md : Region.Mode} {S : World → Prop} {v : Value} {fuel : Nat} {listed : Array Bool} {D : List Deferred} {w : World}
theorem tk (i d : Nat) {oi : Oper} {t t' : Array Value} (h : wpAnyH P md ops Q S fuel (listed.setIfInBounds i true) ⟨t', D⟩ w) (hi : ops[i]? = some oi := by exact rfl) (hd : oi.dst = some d := by exact rfl)
 (hs : Region.noSelect ops = true := by kernel_rfl) (hf : Region.free md ops listed i = true := by kernel_rfl) (hr : (Region.ready md ops listed).contains i = true := by kernel_rfl)
 (hQ : ∀ c a w, Q (.panic c) (a.put oi.dst v) w → Q (.panic c) a w := by exact fun _ _ _ h => h)
 (hw : Region.wanted oi (yielded ops t) = true := by rfl)
 (hv : ∀ w, S w → (execOp (Act.eval ⟨t, D⟩) oi).run P w = .ok (.value v) w := by (intro w hSw; (try dsimp only at hSw); go_simp; first | done | with_reducible rfl | omega | (simp; omega)))
 (hS : S w := by assumption)
 (ht : t.setIfInBounds d v = t' := by (simp only [List.setIfInBounds_toArray, List.set_cons_zero, List.set_cons_succ]; try rfl)) : wpAnyH P md ops Q S (fuel + 1) listed ⟨t, D⟩ w :=
 wpAnyH_take hi hs hf hr hQ (.inl ⟨hw, hv⟩) hS (by rw [hd]; subst ht; exact h)
theorem ts (i d : Nat) {oi : Oper} {t t' : Array Value} (h : wpAnyH P md ops Q S fuel (listed.setIfInBounds i true) ⟨t', D⟩ w) (hi : ops[i]? = some oi := by exact rfl) (hd : oi.dst = some d := by exact rfl)
 (hs : Region.noSelect ops = true := by kernel_rfl) (hf : Region.free md ops listed i = true := by kernel_rfl) (hr : (Region.ready md ops listed).contains i = true := by kernel_rfl)
 (hQ : ∀ c a w, Q (.panic c) (a.put oi.dst undef) w → Q (.panic c) a w := by exact fun _ _ _ h => h)
 (hw : Region.wanted oi (yielded ops t) = false := by rfl)
 (hS : S w := by assumption)
 (ht : t.setIfInBounds d undef = t' := by (simp only [List.setIfInBounds_toArray, List.set_cons_zero, List.set_cons_succ]; try rfl)) : wpAnyH P md ops Q S (fuel + 1) listed ⟨t, D⟩ w :=
 wpAnyH_take hi hs hf hr hQ (.inr ⟨hw, rfl⟩) hS (by rw [hd]; subst ht; exact h)
theorem tc (j : Nat) {o : Oper} {a : Act} (h : ∀ K' : Act → World → Prop, Shut (∀ a w, S w → (S w → wpAnyH P md ops Q S fuel (listed.setIfInBounds j true) a w) → K' a w) → if Region.wanted o (yielded ops a.tmps) = true then Oper.wp P o a w K' Q else K' (a.put o.dst undef) w)
 (ho : ops[j]? = some o := by exact rfl) (hr : Region.ready md ops listed = [j] := by kernel_rfl) : wpAnyH P md ops Q S (fuel + 1) listed a w :=
 wpAnyH_ready hr (by simp) (AllReadyH.cons ho h AllReadyH.nil)
theorem td {a : Act} (h : Q .normal a w) (hr : Region.ready md ops listed = [] := by kernel_rfl) : wpAnyH P md ops Q S fuel listed a w := wpAnyH_done hr h fuel
end
def Ef : Array MapEntry := #[{ key := I 1, val := .string ⟨#[65, 73]⟩, born := 0 }, { key := I 17, val := .string ⟨#[73]⟩, born := 1 }, { key := I 21, val := .string ⟨#[65]⟩, born := 2 }]
def GC (o m q : Value) (b0 b1 b2 : Bool) : Array Value := #[o, m, q, .string ⟨#[]⟩, (.string (if b0 = true then ⟨#[65, 73]⟩ else ⟨#[]⟩)), .string ⟨#[]⟩, .string ⟨#[]⟩, .string ⟨#[]⟩, .string ⟨#[]⟩, .string ⟨#[]⟩, .string ⟨#[]⟩, .string ⟨#[]⟩, .string ⟨#[]⟩, .string ⟨#[]⟩, .string ⟨#[]⟩, .string ⟨#[]⟩, .string ⟨#[]⟩, .string ⟨#[]⟩, .string ⟨#[]⟩, .string ⟨#[]⟩, (.string (if b1 = true then ⟨#[73]⟩ else ⟨#[]⟩)), .string ⟨#[]⟩, .string ⟨#[]⟩, .string ⟨#[]⟩, (.string (if b2 = true then ⟨#[65]⟩ else ⟨#[]⟩)), .string ⟨#[]⟩]
def OO (o m q : Value) : Array Value := #[o, m, q, .string ⟨#[]⟩, .string ⟨#[65, 73]⟩, .string ⟨#[65, 66, 67]⟩, .string ⟨#[65, 66, 67]⟩, .string ⟨#[65, 66, 67]⟩, .string ⟨#[65, 66, 67]⟩, .string ⟨#[65, 66, 67]⟩, .string ⟨#[65, 66, 67]⟩, .string ⟨#[65, 66, 73]⟩, .string ⟨#[65, 66, 73]⟩, .string ⟨#[65, 66, 67]⟩, .string ⟨#[65, 66, 67]⟩, .string ⟨#[66, 73]⟩, .string ⟨#[66, 73]⟩, .string ⟨#[66, 73]⟩, .string ⟨#[]⟩, .string ⟨#[]⟩, .string ⟨#[73]⟩, .string ⟨#[65, 66, 73]⟩, .string ⟨#[65, 66, 73]⟩, .string ⟨#[65, 66, 73]⟩, .string ⟨#[65]⟩, .string ⟨#[]⟩]
structure FI (t : Nat) (o mu q : Value) (w : World) (mb rb : Nat) (W : World) (b0 b1 b2 : Bool) : Prop where
 it : ∃ BV c0, W.heap[rb]? = some (.mapIter (some mb) 3 BV c0) ∧ 3 ≤ c0 ∧ decide (0 ∈ BV) = b0 ∧ decide (1 ∈ BV) = b1 ∧ decide (2 ∈ BV) = b2 ∧ BV.size = b0.toNat + b1.toNat + b2.toNat
 mp : W.heap[mb]? = some (.map Ef 3)
 tb : W.heap[t]? = some (.cells (GC o mu q b0 b1 b2) 357)
 pres : Pres (fun k => k ≠ t) w W
theorem Ob {Av : Nat → Prop} {w W W1 : World} (h : Pres Av w W) (r : Nat) (o : Obj) (hr : w.heap.size ≤ r) (h1 : W1 = W ∨ W1 = W.drew) : Pres Av w (Go.ChangeMaps.setBlock W1 r o) := by
 have h2 : Pres Av w W1 := by
  rcases h1 with rfl | rfl
  · exact h
  · exact h.drew
 exact ⟨h2.os, h2.tape, h2.output, by simpa [Go.ChangeMaps.setBlock] using h2.size, fun k hk ha => by
  have : (Go.ChangeMaps.setBlock W1 r o).heap[k]? = W1.heap[k]? := by simp [Go.ChangeMaps.setBlock]; rw [Array.getElem?_setIfInBounds_ne (by omega)]
  rw [this]; exact h2.block k hk ha⟩
def Jk (W : World) (rb : Nat) : Nat := match W.heap[rb]? with | some (.mapIter _ _ BV _) => 4 - BV.size | _ => 0
theorem Rx (t : Nat) (o mu q : Value) (w : World) (h : w.heap[t]? = some (.cells (GC o mu q false false false) 357)) : FI t o mu q w w.heap.size (w.heap.size + 1) ((w.alloc (.map Ef 3)).alloc (.mapIter (some w.heap.size) 3 #[] 3)) false false false := by
 have hlt := AF h
 refine ⟨⟨#[], 3, ?_, Nat.le_refl _, by simp, by simp, by simp, rfl⟩, ?_, ?_, ((Pres.refl _ w).alloc _).alloc _⟩
 · have := heap_alloc_new (w.alloc (.map Ef 3)) (.mapIter (some w.heap.size) 3 #[] 3)
   rwa [World.size_alloc] at this
 · exact (Below.heap_alloc _ _ _ (by simp)).trans (heap_alloc_new w _)
 · exact (Below.heap_alloc _ _ _ (by rw [World.size_alloc]; exact Nat.lt_succ_of_lt hlt)).trans ((Below.heap_alloc _ _ _ hlt).trans h)
theorem FI.next {t : Nat} {o mu q : Value} {w W : World} {mb rb : Nat} {b0 b1 b2 : Bool} (h : FI t o mu q w mb rb W b0 b1 b2) (hr : w.heap.size ≤ rb) (hm : mb ≠ rb) (ht : t ≠ rb) (ty : TypeId) :
 (b0 = true ∧ b1 = true ∧ b2 = true ∧ (Instr.next (.pointer (some rb)) false ty).run prog W = .ok (.tuple #[false]) W) ∨
 ∃ e c0 c1 c2 W', ((e = (⟨I 1, .string ⟨#[65, 73]⟩, 0⟩ : MapEntry) ∧ c0 = true ∧ c1 = b1 ∧ c2 = b2) ∨ (e = ⟨I 17, .string ⟨#[73]⟩, 1⟩ ∧ c0 = b0 ∧ c1 = true ∧ c2 = b2) ∨ (e = ⟨I 21, .string ⟨#[65]⟩, 2⟩ ∧ c0 = b0 ∧ c1 = b1 ∧ c2 = true)) ∧
  (Instr.next (.pointer (some rb)) false ty).run prog W = .ok (.tuple #[true, e.key, e.val]) W' ∧ (∃ BV c0', W'.heap[rb]? = some (.mapIter (some mb) 3 BV c0') ∧ 3 ≤ c0' ∧ decide (0 ∈ BV) = c0 ∧ decide (1 ∈ BV) = c1 ∧ decide (2 ∈ BV) = c2 ∧ BV.size = c0.toNat + c1.toNat + c2.toNat) ∧ (Instr.entry (.pointer (some rb))).run prog W' = .ok (.tuple #[e.key, e.val]) W' ∧ Jk W' rb < Jk W rb ∧ W'.heap[mb]? = some (.map Ef 3) ∧ W'.heap[t]? = some (.cells (GC o mu q b0 b1 b2) 357) ∧ Pres (fun k => k ≠ t) w W' := by
 obtain ⟨⟨BV, c0, i1, i2, i3, i4, i5, i6⟩, hmp, htb, hp⟩ := h
 have hlt := AF i1
 have hl : (leftOf Ef BV).toList = (if b0 = true then [] else [(⟨I 1, .string ⟨#[65, 73]⟩, 0⟩ : MapEntry)]) ++ ((if b1 = true then [] else [⟨I 17, .string ⟨#[73]⟩, 1⟩]) ++ (if b2 = true then [] else [⟨I 21, .string ⟨#[65]⟩, 2⟩])) := by
  cases b0 <;> cases b1 <;> cases b2 <;> simp [leftOf, Ef, List.filter, i3, i4, i5]
 rcases run_next_at (P := prog) W ty rb mb 3 c0 BV Ef 3 i1 hmp (by simp [Ef]) i2 with ⟨h0, hn⟩ | ⟨e, he, w1, hw1, hn⟩
 · left
   rw [← Array.length_toList, hl] at h0
   cases b0 <;> cases b1 <;> cases b2 <;> simp at h0
   exact ⟨rfl, rfl, rfl, hn⟩
 · right
   rw [hl] at he
   have k1 : (Go.ChangeMaps.setBlock w1 rb (.mapIter (some mb) 3 (BV.push e.born) 3)).heap[rb]? = some (.mapIter (some mb) 3 (BV.push e.born) 3) := by
    have : rb < w1.heap.size := by rcases hw1 with rfl | rfl <;> exact hlt
    simp [Go.ChangeMaps.setBlock, this]
   have k2 : ∀ k, k ≠ rb → (Go.ChangeMaps.setBlock w1 rb (.mapIter (some mb) 3 (BV.push e.born) 3)).heap[k]? = W.heap[k]? := fun k hk => by
    simp only [Go.ChangeMaps.setBlock]
    rw [Array.getElem?_setIfInBounds_ne (Ne.symm hk)]
    rcases hw1 with rfl | rfl <;> rfl
   have k3 := Ob hp rb (.mapIter (some mb) 3 (BV.push e.born) 3) hr hw1
   generalize Go.ChangeMaps.setBlock w1 rb (.mapIter (some mb) 3 (BV.push e.born) 3) = W' at *
   have hcase : (e = (⟨I 1, .string ⟨#[65, 73]⟩, 0⟩ : MapEntry)) ∨ (e = ⟨I 17, .string ⟨#[73]⟩, 1⟩) ∨ (e = ⟨I 21, .string ⟨#[65]⟩, 2⟩) := by
    cases b0 <;> cases b1 <;> cases b2 <;> simp at he <;> grind
   have hen : (Instr.entry (.pointer (some rb))).run prog W' = .ok (.tuple #[e.key, e.val]) W' := run_entry_at W' rb mb 3 BV Ef 3 e k1 ((k2 mb hm).trans hmp) (by rcases hcase with rfl | rfl | rfl <;> simp [Ef]) (by simp [Ef])
   refine ⟨e, decide (0 ∈ BV.push e.born), decide (1 ∈ BV.push e.born), decide (2 ∈ BV.push e.born), W', ?_, hn, ⟨_, _, k1, by omega, rfl, rfl, rfl, ?_⟩, hen, ?_, (k2 mb hm).trans hmp, (k2 t ht).trans htb, k3⟩
   · rcases hcase with rfl | rfl | rfl <;> simp only [Array.mem_push] <;> simp [← i3, ← i4, ← i5]
   · rw [Array.size_push, i6]
     have h0 : decide (0 ∈ BV.push e.born) = (decide (e.born = 0) || b0) := by rw [← i3]; simp [Array.mem_push, Bool.or_comm, eq_comm]
     have h1 : decide (1 ∈ BV.push e.born) = (decide (e.born = 1) || b1) := by rw [← i4]; simp [Array.mem_push, Bool.or_comm, eq_comm]
     have h2 : decide (2 ∈ BV.push e.born) = (decide (e.born = 2) || b2) := by rw [← i5]; simp [Array.mem_push, Bool.or_comm, eq_comm]
     rw [h0, h1, h2]
     clear hn hen h0 h1 h2
     cases b0 <;> cases b1 <;> cases b2 <;> simp at he <;> rcases hcase with rfl | rfl | rfl <;> simp at he ⊢
   · unfold Jk
     rw [k1, i1]
     have : BV.size ≤ 2 := by
      rw [i6]
      cases b0 <;> cases b1 <;> cases b2 <;> simp at he ⊢
     show 4 - (BV.push e.born).size < 4 - BV.size
     rw [Array.size_push]
     omega
def EY (st : Value) (l : List Int) (a : Array Value) : Array Value := l.foldl (fun a x => a.setIfInBounds (3 + x.toNat) st) a
theorem KJ (st : Value) (l : List Int) (x : Int) (a : Array Value) : EY st (l ++ [x]) a = (EY st l a).setIfInBounds (3 + x.toNat) st := by simp [EY]
theorem El (st : Value) : ∀ (l : List Int) (a : Array Value), (EY st l a).size = a.size
 | [], _ => rfl
 | x :: l, a => by
   show (EY st l (a.setIfInBounds (3 + x.toNat) st)).size = a.size
   rw [El st l]
   simp
theorem PJ (t : Nat) (o mu q : Value) (w : World) (h : w.heap[t]? = some (.cells (GC o mu q false false false) 357)) : Y 252 #[t] w fun e w' => e = Z (.tuple #[]) ∧ w'.heap[t]? = some (.cells (OO o mu q) 357) ∧ Pres (fun k => k ≠ t) w w' := by
 have hmm := @run_makeMap prog
 have h2 : ∀ W : World, (Instr.mapUpdate 398 (.map (some W.heap.size)) (I 1) (.string ⟨#[65, 73]⟩)).run prog (W.alloc (.map #[] 0)) = .ok () (W.alloc (.map #[{ key := I 1, val := .string ⟨#[65, 73]⟩, born := 0 }] 1)) :=
  fun W => Al.run_insert_fresh underlying398 underlying3 W _ _ _ _ (by rfl)
 have h3 : ∀ W : World, (Instr.mapUpdate 398 (.map (some W.heap.size)) (I 17) (.string ⟨#[73]⟩)).run prog (W.alloc (.map #[{ key := I 1, val := .string ⟨#[65, 73]⟩, born := 0 }] 1)) = .ok () (W.alloc (.map #[{ key := I 1, val := .string ⟨#[65, 73]⟩, born := 0 }, { key := I 17, val := .string ⟨#[73]⟩, born := 1 }] 2)) :=
  fun W => Al.run_insert_fresh underlying398 underlying3 W _ _ _ _ (by rfl)
 have h4 : ∀ W : World, (Instr.mapUpdate 398 (.map (some W.heap.size)) (I 21) (.string ⟨#[65]⟩)).run prog (W.alloc (.map #[{ key := I 1, val := .string ⟨#[65, 73]⟩, born := 0 }, { key := I 17, val := .string ⟨#[73]⟩, born := 1 }] 2)) = .ok () (W.alloc (.map #[{ key := I 1, val := .string ⟨#[65, 73]⟩, born := 0 }, { key := I 17, val := .string ⟨#[73]⟩, born := 1 }, { key := I 21, val := .string ⟨#[65]⟩, born := 2 }] 3)) :=
  fun W => Al.run_insert_fresh underlying398 underlying3 W _ _ _ _ (by rfl)
 have hlt := AF h
 have hrg : ∀ W : World, (Instr.range 398 (.map (some W.heap.size))).run prog (W.alloc (.map #[{ key := I 1, val := .string ⟨#[65, 73]⟩, born := 0 }, { key := I 17, val := .string ⟨#[73]⟩, born := 1 }, { key := I 21, val := .string ⟨#[65]⟩, born := 2 }] 3)) = .ok (.pointer (some ⟨W.heap.size + 1, 0, none⟩)) ((W.alloc (.map #[{ key := I 1, val := .string ⟨#[65, 73]⟩, born := 0 }, { key := I 17, val := .string ⟨#[73]⟩, born := 1 }, { key := I 21, val := .string ⟨#[65]⟩, born := 2 }] 3)).alloc (.mapIter (some W.heap.size) 3 #[] 3)) :=
  fun W => by rw [run_range_map _ 398 3 9 W.heap.size _ 3 underlying398 (heap_alloc_new W _), World.size_alloc]
 go_enter func252, ntmps252
 go_wp2_with fail
 obtain ⟨W0, hW0⟩ : ∃ W0, (w.alloc (.map #[{ key := I 1, val := .string ⟨#[65, 73]⟩, born := 0 }, { key := I 17, val := .string ⟨#[73]⟩, born := 1 }, { key := I 21, val := .string ⟨#[65]⟩, born := 2 }] 3)).alloc (.mapIter (some w.heap.size) 3 #[] 3) = W0 := ⟨_, rfl⟩
 have hF0 : FI t o mu q w w.heap.size (w.heap.size + 1) W0 false false false := by
  rw [← hW0]; exact Rx t o mu q w h
 rw [hW0]
 have HF0 := Vw hF0
 clear hF0 hW0 h hmm h2 h3 h4 hrg
 go_loopw [13] (fun _ W => ∃ b0 b1 b2, FI t o mu q w w.heap.size (w.heap.size + 1) W b0 b1 b2) (fun _ W => Jk W (w.heap.size + 1))
 case atStart => exact ⟨_, _, _, HF0.out⟩
 case round =>
  obtain ⟨b0, b1, b2, hF⟩ := hrel
  rcases hF.next (Nat.le_succ _) (Nat.ne_of_lt (Nat.lt_succ_self _)) (Nat.ne_of_lt (Nat.lt_succ_of_lt hlt)) 0 with ⟨rfl, rfl, rfl, hn⟩ | ⟨e, c0, c1, c2, W', hc, hn, hit, hen, hlt', hmp', htb', hp'⟩
  · have HF := Vw (WA hF.tb hF.pres)
    clear hF
    go_wp2_with fail
    generalize hT0 : GC o mu q true true true = T0 at HF
    have HE0 := Vw hT0
    have hs0 : T0.size = 26 := by rw [← hT0]; rfl
    clear hT0
    have hbl := AC wr (.cells #[I 2, I 3, I 4, I 5, I 6, I 7, I 10, I 11] 3)
    have HL := Vw (show AH (wr.alloc (.cells #[I 2, I 3, I 4, I 5, I 6, I 7, I 10, I 11] 3)) 3 1 (.slice (some wr) 8 8) ([2, 3, 4, 5, 6, 7, 10, 11] : List Int).length (([2, 3, 4, 5, 6, 7, 10, 11] : List Int).flatMap fun x => [I x]) from AH.made (size := 1) (m := 8) (AE wr _) rfl)
    have HT1 := Vw (WA (AB hbl HF.out.1) (HF.out.2.trans (Pres.of_below hbl)))
    obtain ⟨g1, hg1⟩ := ex_ wr.heap.size
    rw [hg1] at HL
    have HN1 := Vw (show g1 ≠ t from fun e => by have h1 := AF HF.out.1; omega)
    rw [hg1]
    generalize wr.alloc (.cells #[I 2, I 3, I 4, I 5, I 6, I 7, I 10, I 11] 3) = WL1 at *
    clear hbl HF
    have HL1 := HL
    clear HL
    go_loopw [26] (fun i W => ∃ j : Nat, j ≤ 8 ∧ i = I j ∧ W.heap[t]? = some (.cells (EY (.string ⟨#[65, 66, 67]⟩) ([2, 3, 4, 5, 6, 7, 10, 11].take j) T0) 357) ∧ Pres (fun k => k ≠ t) WL1 W) (fun i W => 8 - (intOf i).toNat)
    case atStart => exact ⟨0, by omega, rfl, HT1.out.1, Pres.refl _ _⟩
    case round =>
     obtain ⟨j, hj, rfl, htb, hp⟩ := hrel
     by_cases hltj : j < 8
     · obtain ⟨x, hx⟩ : ∃ x, ([2, 3, 4, 5, 6, 7, 10, 11] : List Int)[j]? = some x := ⟨_, List.getElem?_eq_getElem (by simpa using hltj)⟩
       have hx0 : 0 ≤ x ∧ x < 23 := by
        have : x ∈ ([2, 3, 4, 5, 6, 7, 10, 11] : List Int) := List.mem_of_getElem? hx
        simp only [List.mem_cons, List.not_mem_nil, or_false] at this
        omega
       obtain ⟨hx0, hx1⟩ := hx0
       have hrl := HL1.out.kept (w' := wr) fun k hk => by
        simp only [Value.ownBlock, Option.map_some, Option.some.injEq] at hk
        subst hk
        exact hp.block _ (HL1.out.lt _ rfl) HN1.out
       obtain ⟨g', off', cap', hv, hc1, _, he⟩ := AH.elem (f := fun x => [I x]) (size := 1) (fun _ => rfl) hrl hx
       cases hv
       have e0 : wr.cell? ⟨g1, j, none⟩ = I x := by simpa using he 0 _ rfl
       have hj0 : (0 : Int) ≤ (j : Int) := by omega
       have hj1 : (j : Int) < 8 := by omega
       have hsz : (EY (.string ⟨#[65, 66, 67]⟩) ([2, 3, 4, 5, 6, 7, 10, 11].take j) T0).size = 26 := by rw [El]; exact hs0
       obtain ⟨y, hy⟩ : ∃ y, (EY (.string ⟨#[65, 66, 67]⟩) ([2, 3, 4, 5, 6, 7, 10, 11].take j) T0)[3 + x.toNat]? = some y := ⟨_, Array.getElem?_eq_getElem (by omega)⟩
       have d0 : wr.cell? ⟨t, 3 + x.toNat, none⟩ = some y := AD htb _ hy
       have f0 := AJ htb
       have htb2 := AI htb (3 + x.toNat) (.string ⟨#[65, 66, 67]⟩)
       rw [← KJ] at htb2
       have htk : ([2, 3, 4, 5, 6, 7, 10, 11] : List Int).take (j + 1) = ([2, 3, 4, 5, 6, 7, 10, 11] : List Int).take j ++ [x] := by rw [List.take_add_one, hx]; rfl
       rw [← htk] at htb2
       have HX := Vw (WA htb2 (hp.setCell (p := ⟨t, 3 + x.toNat, none⟩) (by simp) (.string ⟨#[65, 66, 67]⟩)))
       clear htb2 htk
       clear htb hp hrl he hy hsz hx
       go_wp2_with fail
       exact ⟨⟨j + 1, by omega, by simp, HX.out⟩, by simp [intOf]; omega⟩
     · obtain rfl : j = 8 := by omega
       rw [show ([2, 3, 4, 5, 6, 7, 10, 11] : List Int).take 8 = [2, 3, 4, 5, 6, 7, 10, 11] from rfl] at htb
       have HF := Vw (show wr.heap[t]? = some (.cells (EY (.string ⟨#[65, 66, 67]⟩) [2, 3, 4, 5, 6, 7, 10, 11] T0) 357) ∧ Pres (fun k => k ≠ t) w wr from ⟨htb, HT1.out.2.trans hp⟩)
       clear htb hp
       go_wp2_with fail
       generalize hT1 : EY (.string ⟨#[65, 66, 67]⟩) [2, 3, 4, 5, 6, 7, 10, 11] T0 = T1 at HF
       have HE1 := Vw hT1
       have hs1 : T1.size = 26 := by rw [← hT1]; rw [El]; exact hs0
       clear hT1
       have hbl := AC wr (.cells #[I 8, I 9, I 18, I 19, I 20] 3)
       have HL := Vw (show AH (wr.alloc (.cells #[I 8, I 9, I 18, I 19, I 20] 3)) 3 1 (.slice (some wr) 5 5) ([8, 9, 18, 19, 20] : List Int).length (([8, 9, 18, 19, 20] : List Int).flatMap fun x => [I x]) from AH.made (size := 1) (m := 5) (AE wr _) rfl)
       have HT2 := Vw (WA (AB hbl HF.out.1) (HF.out.2.trans (Pres.of_below hbl)))
       obtain ⟨g2, hg2⟩ := ex_ wr.heap.size
       rw [hg2] at HL
       have HN2 := Vw (show g2 ≠ t from fun e => by have h1 := AF HF.out.1; omega)
       rw [hg2]
       generalize wr.alloc (.cells #[I 8, I 9, I 18, I 19, I 20] 3) = WL2 at *
       clear hbl HF
       have HL2 := HL
       clear HL
       go_loopw [38] (fun i W => ∃ j : Nat, j ≤ 5 ∧ i = I j ∧ W.heap[t]? = some (.cells (EY (.string ⟨#[65, 66, 73]⟩) ([8, 9, 18, 19, 20].take j) T1) 357) ∧ Pres (fun k => k ≠ t) WL2 W) (fun i W => 5 - (intOf i).toNat)
       case atStart => exact ⟨0, by omega, rfl, HT2.out.1, Pres.refl _ _⟩
       case round =>
        obtain ⟨j, hj, rfl, htb, hp⟩ := hrel
        by_cases hltj : j < 5
        · obtain ⟨x, hx⟩ : ∃ x, ([8, 9, 18, 19, 20] : List Int)[j]? = some x := ⟨_, List.getElem?_eq_getElem (by simpa using hltj)⟩
          have hx0 : 0 ≤ x ∧ x < 23 := by
           have : x ∈ ([8, 9, 18, 19, 20] : List Int) := List.mem_of_getElem? hx
           simp only [List.mem_cons, List.not_mem_nil, or_false] at this
           omega
          obtain ⟨hx0, hx1⟩ := hx0
          have hrl := HL2.out.kept (w' := wr) fun k hk => by
           simp only [Value.ownBlock, Option.map_some, Option.some.injEq] at hk
           subst hk
           exact hp.block _ (HL2.out.lt _ rfl) HN2.out
          obtain ⟨g', off', cap', hv, hc1, _, he⟩ := AH.elem (f := fun x => [I x]) (size := 1) (fun _ => rfl) hrl hx
          cases hv
          have e0 : wr.cell? ⟨g2, j, none⟩ = I x := by simpa using he 0 _ rfl
          have hj0 : (0 : Int) ≤ (j : Int) := by omega
          have hj1 : (j : Int) < 5 := by omega
          have hsz : (EY (.string ⟨#[65, 66, 73]⟩) ([8, 9, 18, 19, 20].take j) T1).size = 26 := by rw [El]; exact hs1
          obtain ⟨y, hy⟩ : ∃ y, (EY (.string ⟨#[65, 66, 73]⟩) ([8, 9, 18, 19, 20].take j) T1)[3 + x.toNat]? = some y := ⟨_, Array.getElem?_eq_getElem (by omega)⟩
          have d0 : wr.cell? ⟨t, 3 + x.toNat, none⟩ = some y := AD htb _ hy
          have f0 := AJ htb
          have htb2 := AI htb (3 + x.toNat) (.string ⟨#[65, 66, 73]⟩)
          rw [← KJ] at htb2
          have htk : ([8, 9, 18, 19, 20] : List Int).take (j + 1) = ([8, 9, 18, 19, 20] : List Int).take j ++ [x] := by rw [List.take_add_one, hx]; rfl
          rw [← htk] at htb2
          have HX := Vw (WA htb2 (hp.setCell (p := ⟨t, 3 + x.toNat, none⟩) (by simp) (.string ⟨#[65, 66, 73]⟩)))
          clear htb2 htk
          clear htb hp hrl he hy hsz hx
          go_wp2_with fail
          exact ⟨⟨j + 1, by omega, by simp, HX.out⟩, by simp [intOf]; omega⟩
        · obtain rfl : j = 5 := by omega
          rw [show ([8, 9, 18, 19, 20] : List Int).take 5 = [8, 9, 18, 19, 20] from rfl] at htb
          have HF := Vw (show wr.heap[t]? = some (.cells (EY (.string ⟨#[65, 66, 73]⟩) [8, 9, 18, 19, 20] T1) 357) ∧ Pres (fun k => k ≠ t) w wr from ⟨htb, HT2.out.2.trans hp⟩)
          clear htb hp
          go_wp2_with fail
          generalize hT2 : EY (.string ⟨#[65, 66, 73]⟩) [8, 9, 18, 19, 20] T1 = T2 at HF
          have HE2 := Vw hT2
          have hs2 : T2.size = 26 := by rw [← hT2]; rw [El]; exact hs1
          clear hT2
          have hbl := AC wr (.cells #[I 12, I 13, I 14] 3)
          have HL := Vw (show AH (wr.alloc (.cells #[I 12, I 13, I 14] 3)) 3 1 (.slice (some wr) 3 3) ([12, 13, 14] : List Int).length (([12, 13, 14] : List Int).flatMap fun x => [I x]) from AH.made (size := 1) (m := 3) (AE wr _) rfl)
          have HT3 := Vw (WA (AB hbl HF.out.1) (HF.out.2.trans (Pres.of_below hbl)))
          obtain ⟨g3, hg3⟩ := ex_ wr.heap.size
          rw [hg3] at HL
          have HN3 := Vw (show g3 ≠ t from fun e => by have h1 := AF HF.out.1; omega)
          rw [hg3]
          generalize wr.alloc (.cells #[I 12, I 13, I 14] 3) = WL3 at *
          clear hbl HF
          have HL3 := HL
          clear HL
          go_loopw [50] (fun i W => ∃ j : Nat, j ≤ 3 ∧ i = I j ∧ W.heap[t]? = some (.cells (EY (.string ⟨#[66, 73]⟩) ([12, 13, 14].take j) T2) 357) ∧ Pres (fun k => k ≠ t) WL3 W) (fun i W => 3 - (intOf i).toNat)
          case atStart => exact ⟨0, by omega, rfl, HT3.out.1, Pres.refl _ _⟩
          case round =>
           obtain ⟨j, hj, rfl, htb, hp⟩ := hrel
           by_cases hltj : j < 3
           · obtain ⟨x, hx⟩ : ∃ x, ([12, 13, 14] : List Int)[j]? = some x := ⟨_, List.getElem?_eq_getElem (by simpa using hltj)⟩
             have hx0 : 0 ≤ x ∧ x < 23 := by
              have : x ∈ ([12, 13, 14] : List Int) := List.mem_of_getElem? hx
              simp only [List.mem_cons, List.not_mem_nil, or_false] at this
              omega
             obtain ⟨hx0, hx1⟩ := hx0
             have hrl := HL3.out.kept (w' := wr) fun k hk => by
              simp only [Value.ownBlock, Option.map_some, Option.some.injEq] at hk
              subst hk
              exact hp.block _ (HL3.out.lt _ rfl) HN3.out
             obtain ⟨g', off', cap', hv, hc1, _, he⟩ := AH.elem (f := fun x => [I x]) (size := 1) (fun _ => rfl) hrl hx
             cases hv
             have e0 : wr.cell? ⟨g3, j, none⟩ = I x := by simpa using he 0 _ rfl
             have hj0 : (0 : Int) ≤ (j : Int) := by omega
             have hj1 : (j : Int) < 3 := by omega
             have hsz : (EY (.string ⟨#[66, 73]⟩) ([12, 13, 14].take j) T2).size = 26 := by rw [El]; exact hs2
             obtain ⟨y, hy⟩ : ∃ y, (EY (.string ⟨#[66, 73]⟩) ([12, 13, 14].take j) T2)[3 + x.toNat]? = some y := ⟨_, Array.getElem?_eq_getElem (by omega)⟩
             have d0 : wr.cell? ⟨t, 3 + x.toNat, none⟩ = some y := AD htb _ hy
             have f0 := AJ htb
             have htb2 := AI htb (3 + x.toNat) (.string ⟨#[66, 73]⟩)
             rw [← KJ] at htb2
             have htk : ([12, 13, 14] : List Int).take (j + 1) = ([12, 13, 14] : List Int).take j ++ [x] := by rw [List.take_add_one, hx]; rfl
             rw [← htk] at htb2
             have HX := Vw (WA htb2 (hp.setCell (p := ⟨t, 3 + x.toNat, none⟩) (by simp) (.string ⟨#[66, 73]⟩)))
             clear htb2 htk
             clear htb hp hrl he hy hsz hx
             go_wp2_with fail
             exact ⟨⟨j + 1, by omega, by simp, HX.out⟩, by simp [intOf]; omega⟩
           · obtain rfl : j = 3 := by omega
             rw [show ([12, 13, 14] : List Int).take 3 = [12, 13, 14] from rfl] at htb
             have HF := Vw (show wr.heap[t]? = some (.cells (EY (.string ⟨#[66, 73]⟩) [12, 13, 14] T2) 357) ∧ Pres (fun k => k ≠ t) w wr from ⟨htb, HT3.out.2.trans hp⟩)
             clear htb hp
             go_wp2_with fail
             go_end0
             have hfin := HF.out.1
             rw [← HE2.out, ← HE1.out, ← HE0.out] at hfin
             exact ⟨rfl, hfin.trans (by kernel_rfl), HF.out.2⟩
  · have hit2 := hit
    obtain ⟨BV, c0', j1, j2, j3, j4, j5, j6⟩ := hit
    have c1 := AA htb'
    have f1 := AJ htb'
    unfold GC at c1
    have HX := Vw (WA htb' (WA hp' (WA hmp' (WA hit2 hlt'))))
    have hnt : t ≠ w.heap.size + 1 := Nat.ne_of_lt (Nat.lt_succ_of_lt hlt)
    have hnm : w.heap.size ≠ t := Nat.ne_of_gt hlt
    clear hF htb' hp' hmp' hit2 j1 j2 j3 j4 j5 j6 hlt'
    rcases hc with ⟨rfl, rfl, rfl, rfl⟩ | ⟨rfl, rfl, rfl, rfl⟩ | ⟨rfl, rfl, rfl, rfl⟩
    all_goals
     go_wp2_with fail
     obtain ⟨x1, x2, x3, ⟨BV, c0', j1, j2⟩, x5⟩ := HX.out
     refine ⟨⟨_, _, _, ⟨BV, c0', (Vz _ _ _ _ hnt.symm).trans j1, j2⟩, (Vz _ _ _ _ hnm).trans x3, (AI x1 _ _).trans (by first | rfl | kernel_rfl), x2.setCell (by simp) _⟩, ?_⟩
     unfold Jk at x5 ⊢
     rw [Vz _ _ _ _ hnt.symm]
     exact x5
theorem GP (s : ByteArray) (c : Int) (w : World) :
 Y 351 #[.string s, .int .u8 c] w fun e w' => e = Z (I (Go.Lib.indexByte s.data.toList c.toNat.toUInt8)) ∧ w' = w := by
 go_enter func351, ntmps351
 go_wp2
 rw [run_callFunc_extern func391 (by kernel_rfl) (by kernel_rfl) (by kernel_rfl) (e := Extern.BytealgIndexByte.indexByte) (by kernel_rfl), Go.Lib.run_indexByteString]
 simp only [Result.andThen]
 rw [Oper.upon_value]
 go_wp2
 go_ret
 exact ⟨rfl, rfl⟩
theorem GO (s : ByteArray) (c : UInt8) (w : World) :
 Y 296 #[.string s, .string ⟨#[c]⟩] w fun e w' => e = Z (I (Go.Lib.indexByte s.data.toList c)) ∧ w' = w := by
 go_enter func296, ntmps296
 go_wp2_with (go_at_call 351; refine (GP _ _ _).mono ?_; rintro e w' ⟨rfl, rfl⟩)
 · have h : ([c] == s.toList) = true := by assumption
   go_ret
   refine ⟨?_, rfl⟩
   have e : s.data.toList = [c] := by rw [← Go.Lib.toList_data]; exact (beq_iff_eq.1 h).symm
   rw [e]
   simp [Go.Lib.indexByte]
 · go_ret
   exact ⟨rfl, rfl⟩
theorem IV (s : ByteArray) (c : UInt8) (w : World) :
 Y 253 #[.string s, .string ⟨#[c]⟩] w fun e w' => e = Z (I (Go.Lib.indexByte s.data.toList c)) ∧ w' = w := by
 go_enter func253, ntmps253
 go_wp2_with (go_at_call 296; refine (GO _ _ _).mono ?_; rintro e w' ⟨rfl, rfl⟩)
 go_ret
 exact ⟨rfl, rfl⟩
theorem CY (s : ByteArray) (c : UInt8) (w : World) :
 Y 210 #[.string s, .string ⟨#[c]⟩] w fun e w' => e = Z (.bool (decide (0 ≤ Go.Lib.indexByte s.data.toList c))) ∧ w' = w := by
 go_enter func210, ntmps210
 go_wp2_with (go_at_call 253; refine (IV _ _ _).mono ?_; rintro e w' ⟨rfl, rfl⟩)
 go_ret
 exact ⟨rfl, rfl⟩
theorem Sz (A : Option Addr) (AV : Nat) (w : World) : Y 241 #[.slice A 1 AV, I 0, I 1] w fun e w' => e = Z (.tuple #[]) ∧ w = w' := by
 go_enter func241, ntmps241
 go_wp2_with fail
 refine wp_loop_rounds 1 ?_
 rw [rounds_succ]
 go_wp2_with fail
 go_end0
 exact ⟨rfl, rfl⟩
theorem Uh (A : Option Addr) (AV : Nat) (r : Int) (w : World) : Y 205 #[.slice A 1 AV, I 0, I 1, I r] w fun e w' => e = Z (.tuple #[]) ∧ w = w' := by
 have hi := Sz A AV w
 go_enter func205, ntmps205
 go_wp2_with fail
 refine wp_loop_rounds 1 ?_
 rw [rounds_succ]
 go_wp2_with fail
 refine hi.mono ?_
 rintro r w1 ⟨rfl, rfl⟩
 go_wp2_with fail
 refine bodyPost_ret (results_none rfl _ _ _) rfl ?_
 exact ⟨rfl, rfl⟩
theorem Sw (w : World) : Y 251 #[U 1] w fun e w' => e = Z (I 1) ∧ w = w' := by
 go_enter func251, ntmps251
 go_wp2_with fail
 go_ret
 exact ⟨by kernel_rfl, rfl⟩
theorem Uq (w : World) : Y 206 #[U 1] w fun e w' => e = Z (I 1) ∧ w = w' := by
 have hl := Sw w
 go_enter func206, ntmps206
 go_wp2_with fail
 refine hl.mono ?_
 rintro r w1 ⟨rfl, rfl⟩
 go_wp2_with fail
 go_ret
 exact ⟨rfl, rfl⟩
theorem Tm (A : Option Addr) (AV : Nat) (w : World) : Y 158 #[.slice A 1 AV] w fun e w' => e = Z (.tuple #[]) ∧ w = w' := by
 have hl := Uq w
 have hp := Uh A AV 1 w
 go_enter func158, ntmps158
 go_wp2_with fail
 refine hl.mono ?_
 rintro r w1 ⟨rfl, rfl⟩
 go_wp2_with fail
 refine hp.mono ?_
 rintro r w1 ⟨rfl, rfl⟩
 go_wp2_with fail
 go_end0
 exact ⟨rfl, rfl⟩
theorem Cl (w : World) (e : TypeId) (s : ByteArray) : Below w w (Lib.bytesWorld w e s) :=
 ⟨rfl, rfl, rfl, by rw [Lib.bytesWorld_size]; omega, fun k hk => Lib.bytesWorld_at_old w e s k hk⟩
theorem Sj (w : World) : Y 302 #[I 1] w fun e w' => e = Z (.string ⟨#[49]⟩) ∧ w = w' := by
 go_enter func302, ntmps302
 go_wp2_with fail
 go_ret
 exact ⟨rfl, rfl⟩
theorem VC (w : World) : Y 216 #[I 1, I 10] w fun e w' => e = Z (.string ⟨#[49]⟩) ∧ w = w' := by
 have h2 := Sj
 have h1 : ∀ w, Y 256 #[I 1, I 10] w fun e w' => e = Z (.string ⟨#[49]⟩) ∧ w = w' := by
  intro w
  go_enter func256, ntmps256
  go_wp2_with (go_at_call 302; refine (h2 _).mono ?_; rintro e w1 ⟨rfl, rfl⟩)
  go_ret
  exact ⟨rfl, rfl⟩
 go_enter func216, ntmps216
 go_wp2_with (go_at_call 256; refine (h1 _).mono ?_; rintro e w1 ⟨rfl, rfl⟩)
 go_ret
 exact ⟨rfl, rfl⟩
theorem Tb (w : World) : Y 297 #[.string ⟨#[49]⟩, I 10, I 64] w fun e w' => e = Z (.tuple #[U 1, .nilIface]) ∧ Below w w w' := by
 obtain ⟨W1, hE⟩ := ex_ (Lib.bytesWorld w 5 ⟨#[49]⟩)
 obtain ⟨AV, hC⟩ := ex_ (grownCap w 1 0 5)
 have hcv : (Go.convert 9 407 (.string ⟨#[49]⟩)).run prog w = .ok (.slice (some w) 1 AV) W1 := by
  rw [← hE, ← hC]
  exact Lib.run_convert_string_bytes w 9 407 5 ⟨#[49]⟩ underlying9 underlying407 underlying5
 have c0 : W1.cell? w = some (.int .u8 49) := by
  rw [← hE]
  exact Lib.bytesWorld_cell w 5 ⟨#[49]⟩ 0 (by decide)
 have HB := Vw (show Below w w W1 from hE ▸ Cl w 5 ⟨#[49]⟩)
 clear hE hC
 go_enter func297, ntmps297
 go_wp2_with fail
 refine wp_loop_rounds 2 ?_
 rw [rounds_succ]
 go_wp2_with fail
 rw [rounds_succ]
 go_wp2_with fail
 go_ret2
 exact ⟨rfl, HB.out⟩
theorem Tw (w : World) : Y 215 #[.string ⟨#[49]⟩, I 10, I 64] w fun e w' => e = Z (.tuple #[I 1, .nilIface]) ∧ Below w w w' := by
 have h2 := Tb
 have h1 : ∀ w, Y 254 #[.string ⟨#[49]⟩, I 10, I 64] w fun e w' => e = Z (.tuple #[I 1, .nilIface]) ∧ Below w w w' := by
  intro w
  go_enter func254, ntmps254
  go_wp2_with (go_at_call 297; refine (h2 _).mono ?_; rintro e w1 ⟨rfl, hb1⟩)
  go_ret2
  exact ⟨rfl, hb1⟩
 go_enter func215, ntmps215
 go_wp2_with (go_at_call 254; refine (h1 _).mono ?_; rintro e w1 ⟨rfl, hb1⟩)
 go_ret2
 exact ⟨rfl, hb1⟩
theorem Un (w : World) : Y 170 #[.string ⟨#[49]⟩] w fun e w' => e = Z (.tuple #[I 1, true]) ∧ Below w w w' := by
 have h1 := Tw
 have h2 := VC
 go_enter func170, ntmps170
 go_wp2_with (first | (go_at_call 215; refine (h1 _).mono ?_; rintro e w1 ⟨rfl, hb1⟩) | (go_at_call 216; refine (h2 _).mono ?_; rintro e w2 ⟨rfl, rfl⟩))
 go_ret2
 exact ⟨rfl, hb1⟩
theorem Si (w : World) : Y 302 #[I 2] w fun e w' => e = Z (.string ⟨#[50]⟩) ∧ w = w' := by
 go_enter func302, ntmps302
 go_wp2_with fail
 go_ret
 exact ⟨rfl, rfl⟩
theorem VB (w : World) : Y 216 #[I 2, I 10] w fun e w' => e = Z (.string ⟨#[50]⟩) ∧ w = w' := by
 have h2 := Si
 have h1 : ∀ w, Y 256 #[I 2, I 10] w fun e w' => e = Z (.string ⟨#[50]⟩) ∧ w = w' := by
  intro w
  go_enter func256, ntmps256
  go_wp2_with (go_at_call 302; refine (h2 _).mono ?_; rintro e w1 ⟨rfl, rfl⟩)
  go_ret
  exact ⟨rfl, rfl⟩
 go_enter func216, ntmps216
 go_wp2_with (go_at_call 256; refine (h1 _).mono ?_; rintro e w1 ⟨rfl, rfl⟩)
 go_ret
 exact ⟨rfl, rfl⟩
theorem Ta (w : World) : Y 297 #[.string ⟨#[50]⟩, I 10, I 64] w fun e w' => e = Z (.tuple #[U 2, .nilIface]) ∧ Below w w w' := by
 obtain ⟨W1, hE⟩ := ex_ (Lib.bytesWorld w 5 ⟨#[50]⟩)
 obtain ⟨AV, hC⟩ := ex_ (grownCap w 1 0 5)
 have hcv : (Go.convert 9 407 (.string ⟨#[50]⟩)).run prog w = .ok (.slice (some w) 1 AV) W1 := by
  rw [← hE, ← hC]
  exact Lib.run_convert_string_bytes w 9 407 5 ⟨#[50]⟩ underlying9 underlying407 underlying5
 have c0 : W1.cell? w = some (.int .u8 50) := by
  rw [← hE]
  exact Lib.bytesWorld_cell w 5 ⟨#[50]⟩ 0 (by decide)
 have HB := Vw (show Below w w W1 from hE ▸ Cl w 5 ⟨#[50]⟩)
 clear hE hC
 go_enter func297, ntmps297
 go_wp2_with fail
 refine wp_loop_rounds 2 ?_
 rw [rounds_succ]
 go_wp2_with fail
 rw [rounds_succ]
 go_wp2_with fail
 go_ret2
 exact ⟨rfl, HB.out⟩
theorem Tv (w : World) : Y 215 #[.string ⟨#[50]⟩, I 10, I 64] w fun e w' => e = Z (.tuple #[I 2, .nilIface]) ∧ Below w w w' := by
 have h2 := Ta
 have h1 : ∀ w, Y 254 #[.string ⟨#[50]⟩, I 10, I 64] w fun e w' => e = Z (.tuple #[I 2, .nilIface]) ∧ Below w w w' := by
  intro w
  go_enter func254, ntmps254
  go_wp2_with (go_at_call 297; refine (h2 _).mono ?_; rintro e w1 ⟨rfl, hb1⟩)
  go_ret2
  exact ⟨rfl, hb1⟩
 go_enter func215, ntmps215
 go_wp2_with (go_at_call 254; refine (h1 _).mono ?_; rintro e w1 ⟨rfl, hb1⟩)
 go_ret2
 exact ⟨rfl, hb1⟩
theorem Um (w : World) : Y 170 #[.string ⟨#[50]⟩] w fun e w' => e = Z (.tuple #[I 2, true]) ∧ Below w w w' := by
 have h1 := Tv
 have h2 := VB
 go_enter func170, ntmps170
 go_wp2_with (first | (go_at_call 215; refine (h1 _).mono ?_; rintro e w1 ⟨rfl, hb1⟩) | (go_at_call 216; refine (h2 _).mono ?_; rintro e w2 ⟨rfl, rfl⟩))
 go_ret2
 exact ⟨rfl, hb1⟩
theorem Sh (w : World) : Y 302 #[I 3] w fun e w' => e = Z (.string ⟨#[51]⟩) ∧ w = w' := by
 go_enter func302, ntmps302
 go_wp2_with fail
 go_ret
 exact ⟨rfl, rfl⟩
theorem Uz (w : World) : Y 216 #[I 3, I 10] w fun e w' => e = Z (.string ⟨#[51]⟩) ∧ w = w' := by
 have h2 := Sh
 have h1 : ∀ w, Y 256 #[I 3, I 10] w fun e w' => e = Z (.string ⟨#[51]⟩) ∧ w = w' := by
  intro w
  go_enter func256, ntmps256
  go_wp2_with (go_at_call 302; refine (h2 _).mono ?_; rintro e w1 ⟨rfl, rfl⟩)
  go_ret
  exact ⟨rfl, rfl⟩
 go_enter func216, ntmps216
 go_wp2_with (go_at_call 256; refine (h1 _).mono ?_; rintro e w1 ⟨rfl, rfl⟩)
 go_ret
 exact ⟨rfl, rfl⟩
theorem TZ (w : World) : Y 297 #[.string ⟨#[51]⟩, I 10, I 64] w fun e w' => e = Z (.tuple #[U 3, .nilIface]) ∧ Below w w w' := by
 obtain ⟨W1, hE⟩ := ex_ (Lib.bytesWorld w 5 ⟨#[51]⟩)
 obtain ⟨AV, hC⟩ := ex_ (grownCap w 1 0 5)
 have hcv : (Go.convert 9 407 (.string ⟨#[51]⟩)).run prog w = .ok (.slice (some w) 1 AV) W1 := by
  rw [← hE, ← hC]
  exact Lib.run_convert_string_bytes w 9 407 5 ⟨#[51]⟩ underlying9 underlying407 underlying5
 have c0 : W1.cell? w = some (.int .u8 51) := by
  rw [← hE]
  exact Lib.bytesWorld_cell w 5 ⟨#[51]⟩ 0 (by decide)
 have HB := Vw (show Below w w W1 from hE ▸ Cl w 5 ⟨#[51]⟩)
 clear hE hC
 go_enter func297, ntmps297
 go_wp2_with fail
 refine wp_loop_rounds 2 ?_
 rw [rounds_succ]
 go_wp2_with fail
 rw [rounds_succ]
 go_wp2_with fail
 go_ret2
 exact ⟨rfl, HB.out⟩
theorem Tu (w : World) : Y 215 #[.string ⟨#[51]⟩, I 10, I 64] w fun e w' => e = Z (.tuple #[I 3, .nilIface]) ∧ Below w w w' := by
 have h2 := TZ
 have h1 : ∀ w, Y 254 #[.string ⟨#[51]⟩, I 10, I 64] w fun e w' => e = Z (.tuple #[I 3, .nilIface]) ∧ Below w w w' := by
  intro w
  go_enter func254, ntmps254
  go_wp2_with (go_at_call 297; refine (h2 _).mono ?_; rintro e w1 ⟨rfl, hb1⟩)
  go_ret2
  exact ⟨rfl, hb1⟩
 go_enter func215, ntmps215
 go_wp2_with (go_at_call 254; refine (h1 _).mono ?_; rintro e w1 ⟨rfl, hb1⟩)
 go_ret2
 exact ⟨rfl, hb1⟩
theorem Ul (w : World) : Y 170 #[.string ⟨#[51]⟩] w fun e w' => e = Z (.tuple #[I 3, true]) ∧ Below w w w' := by
 have h1 := Tu
 have h2 := Uz
 go_enter func170, ntmps170
 go_wp2_with (first | (go_at_call 215; refine (h1 _).mono ?_; rintro e w1 ⟨rfl, hb1⟩) | (go_at_call 216; refine (h2 _).mono ?_; rintro e w2 ⟨rfl, rfl⟩))
 go_ret2
 exact ⟨rfl, hb1⟩
theorem Sf (w : World) : Y 302 #[I 5] w fun e w' => e = Z (.string ⟨#[53]⟩) ∧ w = w' := by
 go_enter func302, ntmps302
 go_wp2_with fail
 go_ret
 exact ⟨rfl, rfl⟩
theorem Uy (w : World) : Y 216 #[I 5, I 10] w fun e w' => e = Z (.string ⟨#[53]⟩) ∧ w = w' := by
 have h2 := Sf
 have h1 : ∀ w, Y 256 #[I 5, I 10] w fun e w' => e = Z (.string ⟨#[53]⟩) ∧ w = w' := by
  intro w
  go_enter func256, ntmps256
  go_wp2_with (go_at_call 302; refine (h2 _).mono ?_; rintro e w1 ⟨rfl, rfl⟩)
  go_ret
  exact ⟨rfl, rfl⟩
 go_enter func216, ntmps216
 go_wp2_with (go_at_call 256; refine (h1 _).mono ?_; rintro e w1 ⟨rfl, rfl⟩)
 go_ret
 exact ⟨rfl, rfl⟩
theorem TY (w : World) : Y 297 #[.string ⟨#[53]⟩, I 10, I 64] w fun e w' => e = Z (.tuple #[U 5, .nilIface]) ∧ Below w w w' := by
 obtain ⟨W1, hE⟩ := ex_ (Lib.bytesWorld w 5 ⟨#[53]⟩)
 obtain ⟨AV, hC⟩ := ex_ (grownCap w 1 0 5)
 have hcv : (Go.convert 9 407 (.string ⟨#[53]⟩)).run prog w = .ok (.slice (some w) 1 AV) W1 := by
  rw [← hE, ← hC]
  exact Lib.run_convert_string_bytes w 9 407 5 ⟨#[53]⟩ underlying9 underlying407 underlying5
 have c0 : W1.cell? w = some (.int .u8 53) := by
  rw [← hE]
  exact Lib.bytesWorld_cell w 5 ⟨#[53]⟩ 0 (by decide)
 have HB := Vw (show Below w w W1 from hE ▸ Cl w 5 ⟨#[53]⟩)
 clear hE hC
 go_enter func297, ntmps297
 go_wp2_with fail
 refine wp_loop_rounds 2 ?_
 rw [rounds_succ]
 go_wp2_with fail
 rw [rounds_succ]
 go_wp2_with fail
 go_ret2
 exact ⟨rfl, HB.out⟩
theorem Tt (w : World) : Y 215 #[.string ⟨#[53]⟩, I 10, I 64] w fun e w' => e = Z (.tuple #[I 5, .nilIface]) ∧ Below w w w' := by
 have h2 := TY
 have h1 : ∀ w, Y 254 #[.string ⟨#[53]⟩, I 10, I 64] w fun e w' => e = Z (.tuple #[I 5, .nilIface]) ∧ Below w w w' := by
  intro w
  go_enter func254, ntmps254
  go_wp2_with (go_at_call 297; refine (h2 _).mono ?_; rintro e w1 ⟨rfl, hb1⟩)
  go_ret2
  exact ⟨rfl, hb1⟩
 go_enter func215, ntmps215
 go_wp2_with (go_at_call 254; refine (h1 _).mono ?_; rintro e w1 ⟨rfl, hb1⟩)
 go_ret2
 exact ⟨rfl, hb1⟩
theorem Uk (w : World) : Y 170 #[.string ⟨#[53]⟩] w fun e w' => e = Z (.tuple #[I 5, true]) ∧ Below w w w' := by
 have h1 := Tt
 have h2 := Uy
 go_enter func170, ntmps170
 go_wp2_with (first | (go_at_call 215; refine (h1 _).mono ?_; rintro e w1 ⟨rfl, hb1⟩) | (go_at_call 216; refine (h2 _).mono ?_; rintro e w2 ⟨rfl, rfl⟩))
 go_ret2
 exact ⟨rfl, hb1⟩
theorem Se (w : World) : Y 302 #[I 9] w fun e w' => e = Z (.string ⟨#[57]⟩) ∧ w = w' := by
 go_enter func302, ntmps302
 go_wp2_with fail
 go_ret
 exact ⟨rfl, rfl⟩
theorem Ux (w : World) : Y 216 #[I 9, I 10] w fun e w' => e = Z (.string ⟨#[57]⟩) ∧ w = w' := by
 have h2 := Se
 have h1 : ∀ w, Y 256 #[I 9, I 10] w fun e w' => e = Z (.string ⟨#[57]⟩) ∧ w = w' := by
  intro w
  go_enter func256, ntmps256
  go_wp2_with (go_at_call 302; refine (h2 _).mono ?_; rintro e w1 ⟨rfl, rfl⟩)
  go_ret
  exact ⟨rfl, rfl⟩
 go_enter func216, ntmps216
 go_wp2_with (go_at_call 256; refine (h1 _).mono ?_; rintro e w1 ⟨rfl, rfl⟩)
 go_ret
 exact ⟨rfl, rfl⟩
theorem TX (w : World) : Y 297 #[.string ⟨#[57]⟩, I 10, I 64] w fun e w' => e = Z (.tuple #[U 9, .nilIface]) ∧ Below w w w' := by
 obtain ⟨W1, hE⟩ := ex_ (Lib.bytesWorld w 5 ⟨#[57]⟩)
 obtain ⟨AV, hC⟩ := ex_ (grownCap w 1 0 5)
 have hcv : (Go.convert 9 407 (.string ⟨#[57]⟩)).run prog w = .ok (.slice (some w) 1 AV) W1 := by
  rw [← hE, ← hC]
  exact Lib.run_convert_string_bytes w 9 407 5 ⟨#[57]⟩ underlying9 underlying407 underlying5
 have c0 : W1.cell? w = some (.int .u8 57) := by
  rw [← hE]
  exact Lib.bytesWorld_cell w 5 ⟨#[57]⟩ 0 (by decide)
 have HB := Vw (show Below w w W1 from hE ▸ Cl w 5 ⟨#[57]⟩)
 clear hE hC
 go_enter func297, ntmps297
 go_wp2_with fail
 refine wp_loop_rounds 2 ?_
 rw [rounds_succ]
 go_wp2_with fail
 rw [rounds_succ]
 go_wp2_with fail
 go_ret2
 exact ⟨rfl, HB.out⟩
theorem Ts (w : World) : Y 215 #[.string ⟨#[57]⟩, I 10, I 64] w fun e w' => e = Z (.tuple #[I 9, .nilIface]) ∧ Below w w w' := by
 have h2 := TX
 have h1 : ∀ w, Y 254 #[.string ⟨#[57]⟩, I 10, I 64] w fun e w' => e = Z (.tuple #[I 9, .nilIface]) ∧ Below w w w' := by
  intro w
  go_enter func254, ntmps254
  go_wp2_with (go_at_call 297; refine (h2 _).mono ?_; rintro e w1 ⟨rfl, hb1⟩)
  go_ret2
  exact ⟨rfl, hb1⟩
 go_enter func215, ntmps215
 go_wp2_with (go_at_call 254; refine (h1 _).mono ?_; rintro e w1 ⟨rfl, hb1⟩)
 go_ret2
 exact ⟨rfl, hb1⟩
theorem Uj (w : World) : Y 170 #[.string ⟨#[57]⟩] w fun e w' => e = Z (.tuple #[I 9, true]) ∧ Below w w w' := by
 have h1 := Ts
 have h2 := Ux
 go_enter func170, ntmps170
 go_wp2_with (first | (go_at_call 215; refine (h1 _).mono ?_; rintro e w1 ⟨rfl, hb1⟩) | (go_at_call 216; refine (h2 _).mono ?_; rintro e w2 ⟨rfl, rfl⟩))
 go_ret2
 exact ⟨rfl, hb1⟩
open Go.Lib in
theorem QR {w : World} {k : Nat} {s : ByteArray} {pos pos' : Nat} (hk : w.heap[k]? = some (.stringIter s pos)) {e sz n : Nat} {v : Value} {xs : List Value} (hr : AH w e sz v n xs) : AH (w.iterAt k s pos') e sz v n xs :=
 hr.kept fun j hj => Lib.iterAt_other w k j s pos' (by
  rintro rfl
  obtain ⟨cs, h⟩ := hr.type _ hj
  rw [hk] at h
  cases h)
def DJ (s : ByteArray) : Nat → Nat × List ByteArray
 | 0 => (0, [])
 | p + 1 => if h : p < s.size then (if (s[p]'h).toNat = 32 then (p + 1, (DJ s p).2 ++ [s.extract (DJ s p).1 p]) else DJ s p) else DJ s p
def Hk (s : ByteArray) : List ByteArray := (DJ s s.size).2 ++ [s.extract (DJ s s.size).1 s.size]
def Dz (l : List ByteArray) : List Value := l.map Value.string
theorem Pg (s : ByteArray) : ∀ p, (DJ s p).1 ≤ p ∧ (DJ s p).2.length ≤ p
 | 0 => ⟨Nat.le_refl _, Nat.le_refl _⟩
 | p + 1 => by
   have ih := Pg s p
   unfold DJ
   split
   · split
     · exact ⟨Nat.le_refl _, by simp; omega⟩
     · exact ⟨by omega, by omega⟩
   · exact ⟨by omega, by omega⟩
theorem Ua : ET prog 120 9 1 16 := ET.of underlying120 (z := .string ⟨#[]⟩) (by kernel_rfl) rfl
theorem II (s : ByteArray) (hascii : ∀ i (h : i < s.size), (s[i]'h).toNat < 128) (hlim : s.size < 1000) (w : World) : Y 79 #[.string s] w fun e w' => ∃ S, e = Z S ∧ AH w' 9 1 S (Hk s).length (Dz (Hk s)) ∧ (∀ k, S.ownBlock = some k → w.heap.size ≤ k) ∧ Below w w w' := by
 obtain ⟨N, hN⟩ := ex_ s.size
 have hk0 : (w.iter s 0).heap[w.heap.size]? = some (.stringIter s 0) := World.iter_heap w s 0
 have hb0 : Below w w (w.iter s 0) := (Below.refl _ w).alloc (Nat.le_refl _) _
 have HN := Vw hN
 have HA := Vw hascii
 have HL := Vw hlim
 have HK0 := Vw hk0
 have HB0 := Vw hb0
 clear hascii hlim hk0 hb0 hN
 go_enter func79, ntmps79
 go_wp2_with fail
 go_loopw [3, 4] (fun v f W => ∃ p : Nat, p ≤ N ∧ f = I (DJ s p).1 ∧ W.heap[w.heap.size]? = some (.stringIter s p) ∧ AH W 9 1 v (DJ s p).2.length (Dz (DJ s p).2) ∧ (∀ k, v.ownBlock = some k → w.heap.size ≤ k) ∧ Below w w W) (fun _ _ W => N - W.iterPos w.heap.size)
 case atStart => exact ⟨0, Nat.zero_le _, rfl, HK0.out, AH.nil _ _ _, by simp [Value.ownBlock], HB0.out⟩
 case round =>
  obtain ⟨p, hp, rfl, hk, hr, ho, hb⟩ := hrel
  obtain ⟨A, AV, rfl⟩ := hr.form
  have HK := Vw hk
  have HR := Vw hr
  have HO := Vw ho
  have HB := Vw hb
  have HW := Vw (Pg s p)
  have hmu : wr.iterPos w.heap.size = p := by simp [World.iterPos, hk]
  have HMU := Vw hmu
  clear hk hr ho hb hmu
  by_cases hlt : p < N
  · have hps : p < s.size := by rw [HN.out]; exact hlt
    obtain ⟨c, hc⟩ : ∃ c : Int, ((s[p]'hps).toNat : Int) = c := ⟨_, rfl⟩
    have hnext : ∀ ty, (Instr.next (.pointer (some w)) true ty).run prog wr = .ok (.tuple #[true, I p, .int .i32 c]) (wr.iterAt w.heap.size s (p + 1)) := fun ty => hc ▸ Lib.run_next_ascii_at wr w.heap.size s p ty HK.out hps (HA.out p hps)
    have hk1 := Lib.iterAt_heap wr w.heap.size s p (p + 1) HK.out
    have hb1 := Lib.below_iterAt HB.out (Nat.le_refl _) s (p + 1)
    have hr1 : AH (wr.iterAt w.heap.size s (p + 1)) 9 1 (.slice A (DJ s p).2.length AV) (DJ s p).2.length (Dz (DJ s p).2) := QR HK.out HR.out
    have HK1 := Vw hk1
    have HB1 := Vw hb1
    have HR1 := Vw hr1
    clear hk1 hb1 hr1
    generalize wr.iterAt w.heap.size s (p + 1) = W1 at *
    have hpN : (p : Int) + 1 ≤ 1000 := by have := HL.out; omega
    by_cases h32 : c = 32
    · subst h32
      have hstep : DJ s (p + 1) = (p + 1, (DJ s p).2 ++ [s.extract (DJ s p).1 p]) := by
       rw [DJ, dif_pos hps, if_pos (by omega)]
      have HST := Vw hstep
      obtain ⟨f, hf⟩ : ∃ f, (DJ s p).1 = f := ⟨_, rfl⟩
      obtain ⟨l, hl⟩ : ∃ l, (DJ s p).2 = l := ⟨_, rfl⟩
      rw [hl] at HR1
      rw [hf, hl]
      have hfp : f ≤ p := by have := HW.out.1; omega
      have hf0 : (0 : Int) ≤ (f : Int) := by omega
      have hf1 : (f : Int) ≤ (p : Int) := by omega
      have hp1 : (p : Int) ≤ (s.size : Int) := by omega
      have hn1 : l.length + 1 ≤ 1000000 := by have h2 := HW.out.2; have := HL.out; rw [hl] at h2; omega
      have HF := Vw (WA hf hl)
      have HLT := Vw hlt
      clear hstep hc hf hl hlt hfp
      go_wp2_with (at_builtin; refine Ab rfl _ _ _ _ rfl Ua _ _ _ rfl (HR1.out.below (AC W1 _)) _ 1 _ rfl (Src.one underlying120 (AE W1 _) rfl (by simp [Value.oneCell'])) hn1 (by omega) ?_)
      intro A7 cap7 w7 hr7 hg7 hm7
      have HE := Vw (WA hr7 (WA hg7 hm7))
      clear hr7 hg7 hm7
      go_wp2_with fail
      refine ⟨⟨p + 1, HLT.out, by rw [HST.out]; simp, ?_, ?_, ?_, ?_⟩, ?_⟩
      · exact (HE.out.2.1.block w.heap.size (by have := HB1.out.size; have := AF HK1.out; simp; omega) (fun e => by
         obtain ⟨cs, h⟩ := (HR1.out.below (AC W1 (.cells #[.string (s.extract f p)] 9))).type _ e.symm
         rw [AB (AC W1 _) HK1.out] at h
         cases h)).trans (AB (AC W1 _) HK1.out)
      · rw [HST.out, HF.out.1, HF.out.2]
        simpa [Dz] using HE.out.1
      · intro k hk
        rcases HE.out.2.2 with hm | ⟨g, hm, hle⟩
        · exact HO.out k (by rw [HF.out.2]; exact hm ▸ hk)
        · rw [hm] at hk
          cases hk
          have := HB1.out.size
          simp at hle
          omega
      · exact (HB1.out.trans ((AC W1 _).mono HB1.out.size)).grown HE.out.2.1 (by have := HB1.out.size; simp; omega) (fun k hk => HO.out k (by rw [HF.out.2]; exact hk))
      · rw [HMU.out]
        have hx : w7.iterPos w.heap.size = p + 1 := by
         have hk7 := (HE.out.2.1.block w.heap.size (by have := HB1.out.size; have := AF HK1.out; simp; omega) (fun e => by
          obtain ⟨cs, h⟩ := (HR1.out.below (AC W1 (.cells #[.string (s.extract f p)] 9))).type _ e.symm
          rw [AB (AC W1 _) HK1.out] at h
          cases h)).trans (AB (AC W1 (.cells #[.string (s.extract f p)] 9)) HK1.out)
         simp [World.iterPos, hk7]
        rw [hx]
        have := HLT.out
        omega
    · have hstep : DJ s (p + 1) = DJ s p := by
       rw [DJ, dif_pos hps, if_neg (by omega)]
      have HST := Vw hstep
      have hne : (c == 32) = false := by simpa using h32
      have HLT := Vw hlt
      clear hstep hc hlt
      go_wp2_with fail
      refine ⟨⟨p + 1, HLT.out, by rw [HST.out], HK1.out, by rw [HST.out]; exact HR1.out, HO.out, HB1.out⟩, ?_⟩
      rw [HMU.out]
      have hx : W1.iterPos w.heap.size = p + 1 := by simp [World.iterPos, HK1.out]
      rw [hx]
      have := HLT.out
      omega
  · obtain rfl : p = N := by omega
    have hnext : ∀ ty, (Instr.next (.pointer (some w)) true ty).run prog wr = .ok (.tuple #[false]) wr := fun ty => Lib.run_next_end_at wr w.heap.size s p ty HK.out (by rw [HN.out]; exact hlt)
    obtain ⟨f, hf⟩ : ∃ f, (DJ s p).1 = f := ⟨_, rfl⟩
    obtain ⟨l, hl⟩ : ∃ l, (DJ s p).2 = l := ⟨_, rfl⟩
    rw [hl] at HR
    rw [hf, hl]
    have hf0 : (0 : Int) ≤ (f : Int) := by omega
    have hf1 : (f : Int) ≤ (s.size : Int) := by have := HW.out.1; have := HN.out; omega
    have hn1 : l.length + 1 ≤ 1000000 := by have h2 := HW.out.2; have := HL.out; have := HN.out; rw [hl] at h2; omega
    have HF := Vw (WA hf hl)
    clear hf hl
    go_wp2_with (at_builtin; refine Ab rfl _ _ _ _ rfl Ua _ _ _ rfl (HR.out.below (AC wr _)) _ 1 _ rfl (Src.one underlying120 (AE wr _) rfl (by simp [Value.oneCell'])) hn1 (by omega) ?_)
    intro A7 cap7 w7 hr7 hg7 hm7
    have HE := Vw (WA hr7 (WA hg7 hm7))
    clear hr7 hg7 hm7
    go_wp2_with fail
    go_ret
    refine ⟨.slice A7 (l.length + 1) cap7, rfl, ?_, ?_, ?_⟩
    · have h := HE.out.1
      unfold Hk
      have hN := HN.out
      rw [hN, HF.out.1, HF.out.2]
      rw [hN] at h
      simpa [Dz] using h
    · intro k hk
      rcases HE.out.2.2 with hm | ⟨g, hm, hle⟩
      · exact HO.out k (by rw [HF.out.2]; exact hm ▸ hk)
      · rw [hm] at hk
        cases hk
        have := HB.out.size
        simp at hle
        omega
    · exact (HB.out.trans ((AC wr _).mono HB.out.size)).grown HE.out.2.1 (by have := HB.out.size; simp; omega) (fun k hk => HO.out k (by rw [HF.out.2]; exact hk))
theorem JF {n : Nat} {W w' : World} (h : Below n W w') (hn : n ≤ w'.heap.size) (o : Obj) : Below n W (w'.alloc o) := h.trans ((AC w' o).mono hn)
def Tk (w : World) (tb : Nat) (l : List ByteArray) : Prop := ∃ S, w.heap[tb]? = some (.cells #[S, true] 197) ∧ AH w 9 1 S l.length (Dz l)
theorem Tk.kept {w w' : World} {tb : Nat} {l : List ByteArray} (h : Tk w tb l) (hb : Below w w w') : Tk w' tb l := by
 obtain ⟨S, h1, h2⟩ := h
 exact ⟨S, AB hb h1, h2.below hb⟩
theorem Tk.setOk {w : World} {tb : Nat} {l : List ByteArray} (h : Tk w tb l) : Tk (w.setCell ⟨tb, 1, none⟩ (.bool true)) tb l := by
 obtain ⟨S, h1, h2⟩ := h
 exact ⟨S, AI h1 1 _, h2.stored h1 (by decide) _ _⟩
theorem Bz (tb : Nat) (x : ByteArray) (l : List ByteArray) (hl : l.length < 1000) (w : World) (h : Tk w tb (x :: l)) : Y 80 #[tb] w fun e w' => e = Z (.string x) ∧ Tk w' tb l ∧ Pres (fun k => k ≠ tb) w w' := by
 obtain ⟨S, h1, h2⟩ := h
 obtain ⟨g, off, AV, cs, rfl, hg, hc1, hc2, hc3⟩ := h2.lies (by simp)
 have c1 := AA h1
 have f1 := AJ h1
 simp only [List.length_cons] at c1
 have e0 : w.cell? ⟨g, off, none⟩ = some (.string x) := AD hg _ (hc3 0 _ rfl)
 have hn1 : ((l.length : Int) + 1 == 0) = false := by simp; omega
 have hcI : (l.length : Int) + 1 ≤ (AV : Int) := by simp at hc1; omega
 have HF := Vw (WA h1 (WA hg (WA hc1 (WA hc2 hc3))))
 have hlI : (l.length : Int) < 1000 := by omega
 clear h1 h2 hg hc1 hc2 hc3
 go_enter func80, ntmps80
 have HT := Vw (show ∀ w' : World, w'.heap[g]? = some (.cells cs 9 (0, 0)) → AH w' 9 1 (.slice (some ⟨g, off + 1, none⟩) l.length (AV - 1)) l.length (Dz l) from fun w' h => by
  obtain ⟨_, _, h1, h2, h3⟩ := HF.out
  simp only [List.length_cons] at h1
  exact ⟨by simp [Dz], .inr ⟨g, off + 1, AV - 1, cs, rfl, h, by omega, by omega, fun j u hu => by
   have := h3 (j + 1) u hu
   rwa [show off + 1 + j = off + (j + 1) by omega]⟩⟩)
 have HT0 := Vw (show AV = 1 → ∀ w' : World, w'.heap[g]? = some (.cells cs 9 (0, 0)) → AH w' 9 1 (.slice (some ⟨g, off, none⟩) l.length 0) l.length (Dz l) from fun hcap w' h => by
  obtain ⟨_, _, h1, h2, h3⟩ := HF.out
  simp only [List.length_cons] at h1
  have h0 : l.length = 0 := by omega
  have : l = [] := List.eq_nil_of_length_eq_zero h0
  subst this
  exact ⟨rfl, .inr ⟨g, off, 0, cs, rfl, h, Nat.le_refl _, by omega, fun j u hu => by simp [Dz] at hu⟩⟩)
 have HNE := Vw (show g ≠ tb from AG HF.out.2.1 HF.out.1 (by decide))
 go_wp2_with fail
 all_goals
  go_ret
  refine ⟨rfl, ⟨_, AI HF.out.1 0 _, ?_⟩, (Pres.refl _ w).setCell (by simp) _⟩
  first
   | exact HT.out _ ((Vz _ _ _ _ HNE.out).trans HF.out.2.1)
   | exact HT0.out rfl _ ((Vz _ _ _ _ HNE.out).trans HF.out.2.1)
   | exact HT0.out (by omega) _ ((Vz _ _ _ _ HNE.out).trans HF.out.2.1)
theorem Ti (tb : Nat) (l : List ByteArray) (hl : l.length < 1000) (w : World) (h : Tk w tb (⟨#[49]⟩ :: l)) : Y 131 #[tb] w fun e w' => e = Z (I 1) ∧ Tk w' tb l ∧ Pres (fun k => k ≠ tb) w w' := by
 have hnx := Vw (Bz tb _ l hl w h)
 have hnu := Un
 clear h
 go_enter func131, ntmps131
 go_wp2_with fail
 refine hnx.out.mono ?_
 rintro e w1 ⟨rfl, h1, p1⟩
 have H1 := Vw h1
 have P1 := Vw p1
 clear h1 p1
 go_wp2_with fail
 refine (hnu _).mono ?_
 rintro e w2 ⟨rfl, hb2⟩
 have h2 := H1.out.kept hb2
 have H2 := Vw h2
 have P2 := Vw (P1.out.trans (Pres.of_below hb2))
 obtain ⟨S, hc, hr⟩ := h2
 have c2 := AA hc
 have f2 := AJ hc
 clear hb2 hc hr
 go_wp2_with fail
 go_ret
 exact ⟨rfl, H2.out.setOk, P2.out.setCell (by simp) _⟩
theorem RF (tb : Nat) (l : List ByteArray) (hl : l.length < 1000) (w : World) (h : Tk w tb (⟨#[49]⟩ :: l)) : Y 132 #[tb] w fun e w' => e = Z (I 1) ∧ Tk w' tb l ∧ Pres (fun k => k ≠ tb) w w' := by
 have hnx := Vw (Ti tb l hl w h)
 clear h
 go_enter func132, ntmps132
 go_wp2_with fail
 refine hnx.out.mono ?_
 rintro e w1 ⟨rfl, h1, p1⟩
 have H1 := Vw h1
 have P1 := Vw p1
 obtain ⟨S, hc, hr⟩ := h1
 have c2 := AA hc
 have f2 := AJ hc
 clear p1 hc hr
 go_wp2_with fail
 go_ret
 exact ⟨rfl, H1.out.setOk, P1.out.setCell (by simp) _⟩
theorem Th (tb : Nat) (l : List ByteArray) (hl : l.length < 1000) (w : World) (h : Tk w tb (⟨#[50]⟩ :: l)) : Y 131 #[tb] w fun e w' => e = Z (I 2) ∧ Tk w' tb l ∧ Pres (fun k => k ≠ tb) w w' := by
 have hnx := Vw (Bz tb _ l hl w h)
 have hnu := Um
 clear h
 go_enter func131, ntmps131
 go_wp2_with fail
 refine hnx.out.mono ?_
 rintro e w1 ⟨rfl, h1, p1⟩
 have H1 := Vw h1
 have P1 := Vw p1
 clear h1 p1
 go_wp2_with fail
 refine (hnu _).mono ?_
 rintro e w2 ⟨rfl, hb2⟩
 have h2 := H1.out.kept hb2
 have H2 := Vw h2
 have P2 := Vw (P1.out.trans (Pres.of_below hb2))
 obtain ⟨S, hc, hr⟩ := h2
 have c2 := AA hc
 have f2 := AJ hc
 clear hb2 hc hr
 go_wp2_with fail
 go_ret
 exact ⟨rfl, H2.out.setOk, P2.out.setCell (by simp) _⟩
theorem Tg (tb : Nat) (l : List ByteArray) (hl : l.length < 1000) (w : World) (h : Tk w tb (⟨#[51]⟩ :: l)) : Y 131 #[tb] w fun e w' => e = Z (I 3) ∧ Tk w' tb l ∧ Pres (fun k => k ≠ tb) w w' := by
 have hnx := Vw (Bz tb _ l hl w h)
 have hnu := Ul
 clear h
 go_enter func131, ntmps131
 go_wp2_with fail
 refine hnx.out.mono ?_
 rintro e w1 ⟨rfl, h1, p1⟩
 have H1 := Vw h1
 have P1 := Vw p1
 clear h1 p1
 go_wp2_with fail
 refine (hnu _).mono ?_
 rintro e w2 ⟨rfl, hb2⟩
 have h2 := H1.out.kept hb2
 have H2 := Vw h2
 have P2 := Vw (P1.out.trans (Pres.of_below hb2))
 obtain ⟨S, hc, hr⟩ := h2
 have c2 := AA hc
 have f2 := AJ hc
 clear hb2 hc hr
 go_wp2_with fail
 go_ret
 exact ⟨rfl, H2.out.setOk, P2.out.setCell (by simp) _⟩
theorem Tf (tb : Nat) (l : List ByteArray) (hl : l.length < 1000) (w : World) (h : Tk w tb (⟨#[53]⟩ :: l)) : Y 131 #[tb] w fun e w' => e = Z (I 5) ∧ Tk w' tb l ∧ Pres (fun k => k ≠ tb) w w' := by
 have hnx := Vw (Bz tb _ l hl w h)
 have hnu := Uk
 clear h
 go_enter func131, ntmps131
 go_wp2_with fail
 refine hnx.out.mono ?_
 rintro e w1 ⟨rfl, h1, p1⟩
 have H1 := Vw h1
 have P1 := Vw p1
 clear h1 p1
 go_wp2_with fail
 refine (hnu _).mono ?_
 rintro e w2 ⟨rfl, hb2⟩
 have h2 := H1.out.kept hb2
 have H2 := Vw h2
 have P2 := Vw (P1.out.trans (Pres.of_below hb2))
 obtain ⟨S, hc, hr⟩ := h2
 have c2 := AA hc
 have f2 := AJ hc
 clear hb2 hc hr
 go_wp2_with fail
 go_ret
 exact ⟨rfl, H2.out.setOk, P2.out.setCell (by simp) _⟩
theorem RE (tb : Nat) (l : List ByteArray) (hl : l.length < 1000) (w : World) (h : Tk w tb (⟨#[53]⟩ :: l)) : Y 132 #[tb] w fun e w' => e = Z (I 5) ∧ Tk w' tb l ∧ Pres (fun k => k ≠ tb) w w' := by
 have hnx := Vw (Tf tb l hl w h)
 clear h
 go_enter func132, ntmps132
 go_wp2_with fail
 refine hnx.out.mono ?_
 rintro e w1 ⟨rfl, h1, p1⟩
 have H1 := Vw h1
 have P1 := Vw p1
 obtain ⟨S, hc, hr⟩ := h1
 have c2 := AA hc
 have f2 := AJ hc
 clear p1 hc hr
 go_wp2_with fail
 go_ret
 exact ⟨rfl, H1.out.setOk, P1.out.setCell (by simp) _⟩
theorem Te (tb : Nat) (l : List ByteArray) (hl : l.length < 1000) (w : World) (h : Tk w tb (⟨#[57]⟩ :: l)) : Y 131 #[tb] w fun e w' => e = Z (I 9) ∧ Tk w' tb l ∧ Pres (fun k => k ≠ tb) w w' := by
 have hnx := Vw (Bz tb _ l hl w h)
 have hnu := Uj
 clear h
 go_enter func131, ntmps131
 go_wp2_with fail
 refine hnx.out.mono ?_
 rintro e w1 ⟨rfl, h1, p1⟩
 have H1 := Vw h1
 have P1 := Vw p1
 clear h1 p1
 go_wp2_with fail
 refine (hnu _).mono ?_
 rintro e w2 ⟨rfl, hb2⟩
 have h2 := H1.out.kept hb2
 have H2 := Vw h2
 have P2 := Vw (P1.out.trans (Pres.of_below hb2))
 obtain ⟨S, hc, hr⟩ := h2
 have c2 := AA hc
 have f2 := AJ hc
 clear hb2 hc hr
 go_wp2_with fail
 go_ret
 exact ⟨rfl, H2.out.setOk, P2.out.setCell (by simp) _⟩
theorem RD (tb : Nat) (l : List ByteArray) (hl : l.length < 1000) (w : World) (h : Tk w tb (⟨#[57]⟩ :: l)) : Y 132 #[tb] w fun e w' => e = Z (I 9) ∧ Tk w' tb l ∧ Pres (fun k => k ≠ tb) w w' := by
 have hnx := Vw (Te tb l hl w h)
 clear h
 go_enter func132, ntmps132
 go_wp2_with fail
 refine hnx.out.mono ?_
 rintro e w1 ⟨rfl, h1, p1⟩
 have H1 := Vw h1
 have P1 := Vw p1
 obtain ⟨S, hc, hr⟩ := h1
 have c2 := AA hc
 have f2 := AJ hc
 clear p1 hc hr
 go_wp2_with fail
 go_ret
 exact ⟨rfl, H1.out.setOk, P1.out.setCell (by simp) _⟩
theorem SI (w : World) : (Instr.build 263 #[(1, .string ⟨#[114, 101, 97, 100]⟩), (2, .string ⟨#[119, 114, 105, 116, 101]⟩), (3, .string ⟨#[97, 100, 100]⟩), (4, .string ⟨#[116, 97, 107, 101]⟩)]).run prog w = .ok (.agg #[.string ⟨#[]⟩, .string ⟨#[114, 101, 97, 100]⟩, .string ⟨#[119, 114, 105, 116, 101]⟩, .string ⟨#[97, 100, 100]⟩, .string ⟨#[116, 97, 107, 101]⟩]) w := by kernel_rfl
theorem Tk.put {w : World} {tb : Nat} {l : List ByteArray} (h : Tk w tb l) {bb : Nat} {cs : Array Value} (hb : w.heap[bb]? = some (.cells cs 33 (0, 0))) (k : Nat) (u : Value) : Tk (w.setCell ⟨bb, k, none⟩ u) tb l := by
 obtain ⟨S, h1, h2⟩ := h
 exact ⟨S, (Vz _ _ _ _ (AG h1 hb (by decide))).trans h1, h2.stored hb (by decide) k u⟩
theorem PT (w : World) : Y 130 #[] w fun e w' => e = Z (.agg #[.string ⟨#[]⟩, .string ⟨#[114, 101, 97, 100]⟩, .string ⟨#[119, 114, 105, 116, 101]⟩, .string ⟨#[97, 100, 100]⟩, .string ⟨#[116, 97, 107, 101]⟩]) ∧ Below w w w' := by
 have hb := fun o => AC w o
 have hbu := SI
 go_enter func130, ntmps130
 go_wp2_with fail
 refine bodyPost_ret (v := .agg #[.string ⟨#[]⟩, .string ⟨#[114, 101, 97, 100]⟩, .string ⟨#[119, 114, 105, 116, 101]⟩, .string ⟨#[97, 100, 100]⟩, .string ⟨#[116, 97, 107, 101]⟩]) (by simp [results, results130, go_sem]) rfl ⟨rfl, hb _⟩
theorem opX :
  (∀ (tb : Nat) (l : List ByteArray) (hl : l.length < 900) (w : World) (h : Tk w tb (⟨#[51]⟩ :: ⟨#[53]⟩ :: l)), Y 81 #[tb, .string ⟨#[97, 100, 100]⟩] w fun e w' => e = Z (.agg #[I 3, I 3, U 5]) ∧ Tk w' tb l ∧ Pres (fun k => k ≠ tb) w w') ∧
  (∀ (tb : Nat) (l : List ByteArray) (hl : l.length < 900) (w : World) (h : Tk w tb (⟨#[51]⟩ :: l)), Y 81 #[tb, .string ⟨#[114, 101, 97, 100]⟩] w fun e w' => e = Z (.agg #[I 1, I 3, U 0]) ∧ Tk w' tb l ∧ Pres (fun k => k ≠ tb) w w') ∧
  (∀ (tb : Nat) (l : List ByteArray) (hl : l.length < 900) (w : World) (h : Tk w tb (⟨#[50]⟩ :: ⟨#[57]⟩ :: l)), Y 81 #[tb, .string ⟨#[119, 114, 105, 116, 101]⟩] w fun e w' => e = Z (.agg #[I 2, I 2, U 9]) ∧ Tk w' tb l ∧ Pres (fun k => k ≠ tb) w w') ∧
  (∀ (tb : Nat) (l : List ByteArray) (hl : l.length < 900) (w : World) (h : Tk w tb (⟨#[51]⟩ :: ⟨#[49]⟩ :: l)), Y 81 #[tb, .string ⟨#[116, 97, 107, 101]⟩] w fun e w' => e = Z (.agg #[I 4, I 3, U 1]) ∧ Tk w' tb l ∧ Pres (fun k => k ≠ tb) w w') := by
 refine ⟨?m0, ?m1, ?m2, ?m3⟩
 case' m0 =>
  intro tb l hl w h
  have mk_0 := trivial
 case' m1 =>
  intro tb l hl w h
  have mk_1 := trivial
 case' m2 =>
  intro tb l hl w h
  have mk_2 := trivial
 case' m3 =>
  intro tb l hl w h
  have mk_3 := trivial
 all_goals
  have hta := PT
  obtain ⟨W2, hE2⟩ : ∃ W, (w.alloc (.cells KF 33)).alloc (.cells KF 33) = W := ⟨_, rfl⟩
  have hb2 : Below w w W2 := hE2 ▸ JF (AC w _) (by simp) _
  have hI2 : W2.heap[w.heap.size + 1]? = some (.cells KF 33) := by
   have h := AE (w.alloc (.cells KF 33)) (.cells KF 33)
   rw [hE2] at h
   simpa using h
  have hJ2 : W2.heap[w.heap.size]? = some (.cells KF 33) := hE2 ▸ AB (AC _ _) (AE w _)
  have HI2 := Vw hI2
  have HJ2 := Vw hJ2
  have HB2 := Vw hb2
  have HE2 := Vw hE2
  have hlt := Vw (show tb < w.heap.size by obtain ⟨S, hc, _⟩ := h; exact AF hc)
  have H2 := Vw (h.kept hb2)
  clear h hb2 hI2 hJ2 hE2
  go_enter func81, ntmps81
  go_wp2_with fail
  rw [HE2.out]
  refine (hta _).mono ?_
  rintro e w3 ⟨rfl, hb3⟩
  have h3 := H2.out.kept hb3
  have hI3 := AB hb3 HI2.out
  have hJ3 := AB hb3 HJ2.out
  have HB3 := Vw (HB2.out.trans (hb3.mono HB2.out.size))
  have HI3 := Vw hI3
  have HJ3 := Vw hJ3
  have H3 := Vw h3
  have c3 := AA hI3
  have f3 := AJ hI3
  have e3 := AA hJ3
  have g3 := AJ hJ3
  obtain ⟨S, hc, hr⟩ := h3
  have k3 := AA hc
  have l3 := AJ hc
  clear hb3 hI3 hJ3 hc hr HI2 HJ2 HB2 HE2 H2
  have hix : ∀ w : World, (Instr.index 263 (.agg #[.string ⟨#[]⟩, .string ⟨#[114, 101, 97, 100]⟩, .string ⟨#[119, 114, 105, 116, 101]⟩, .string ⟨#[97, 100, 100]⟩, .string ⟨#[116, 97, 107, 101]⟩]) (I 0)).run prog w = .ok (.string ⟨#[]⟩) w ∧ (Instr.index 263 (.agg #[.string ⟨#[]⟩, .string ⟨#[114, 101, 97, 100]⟩, .string ⟨#[119, 114, 105, 116, 101]⟩, .string ⟨#[97, 100, 100]⟩, .string ⟨#[116, 97, 107, 101]⟩]) (I 1)).run prog w = .ok (.string ⟨#[114, 101, 97, 100]⟩) w ∧ (Instr.index 263 (.agg #[.string ⟨#[]⟩, .string ⟨#[114, 101, 97, 100]⟩, .string ⟨#[119, 114, 105, 116, 101]⟩, .string ⟨#[97, 100, 100]⟩, .string ⟨#[116, 97, 107, 101]⟩]) (I 2)).run prog w = .ok (.string ⟨#[119, 114, 105, 116, 101]⟩) w ∧ (Instr.index 263 (.agg #[.string ⟨#[]⟩, .string ⟨#[114, 101, 97, 100]⟩, .string ⟨#[119, 114, 105, 116, 101]⟩, .string ⟨#[97, 100, 100]⟩, .string ⟨#[116, 97, 107, 101]⟩]) (I 3)).run prog w = .ok (.string ⟨#[97, 100, 100]⟩) w ∧ (Instr.index 263 (.agg #[.string ⟨#[]⟩, .string ⟨#[114, 101, 97, 100]⟩, .string ⟨#[119, 114, 105, 116, 101]⟩, .string ⟨#[97, 100, 100]⟩, .string ⟨#[116, 97, 107, 101]⟩]) (I 4)).run prog w = .ok (.string ⟨#[116, 97, 107, 101]⟩) w := fun w => ⟨by kernel_rfl, by kernel_rfl, by kernel_rfl, by kernel_rfl, by kernel_rfl⟩
  have hi0 := fun w => (hix w).1
  have hi1 := fun w => (hix w).2.1
  have hi2 := fun w => (hix w).2.2.1
  have hi3 := fun w => (hix w).2.2.2.1
  have hi4 := fun w => (hix w).2.2.2.2
  clear hix
  go_wp2_with fail
  refine wp_loop_rounds 6 ?_
  rw [rounds_succ]
  go_wp2_with fail
  rw [rounds_succ]
  go_wp2_with fail
  rw [rounds_succ]
  go_wp2_with fail
  rw [rounds_succ]
  go_wp2_with fail
  rw [rounds_succ]
  go_wp2_with fail
  rw [rounds_succ]
  go_wp2_with fail
  first
   | guard_hyp mk_1
     generalize hW5 : (w3.setCell ⟨w.heap.size + 1, 0, none⟩ (I 1)).setCell ⟨tb, 1, none⟩ (.bool true) = W5
   | guard_hyp mk_2
     generalize hW5 : (w3.setCell ⟨w.heap.size + 1, 0, none⟩ (I 2)).setCell ⟨tb, 1, none⟩ (.bool true) = W5
   | guard_hyp mk_3
     generalize hW5 : (w3.setCell ⟨w.heap.size + 1, 0, none⟩ (I 4)).setCell ⟨tb, 1, none⟩ (.bool true) = W5
   | generalize hW5 : (w3.setCell ⟨w.heap.size + 1, 0, none⟩ (I 3)).setCell ⟨tb, 1, none⟩ (.bool true) = W5
  have hnt : w.heap.size + 1 ≠ tb := by have := hlt.out; omega
  have hnr : w.heap.size ≠ tb := by have := hlt.out; omega
  first
   | guard_hyp mk_1
     have h5 : Tk W5 tb (⟨#[51]⟩ :: l) := hW5 ▸ (H3.out.put HI3.out 0 _).setOk
     have hI5 : W5.heap[w.heap.size + 1]? = some (.cells #[I 1, I 0, U 0] 33) := hW5 ▸ (Vz _ _ _ _ hnt).trans (AI HI3.out 0 _)
   | guard_hyp mk_2
     have h5 : Tk W5 tb (⟨#[50]⟩ :: ⟨#[57]⟩ :: l) := hW5 ▸ (H3.out.put HI3.out 0 _).setOk
     have hI5 : W5.heap[w.heap.size + 1]? = some (.cells #[I 2, I 0, U 0] 33) := hW5 ▸ (Vz _ _ _ _ hnt).trans (AI HI3.out 0 _)
   | guard_hyp mk_3
     have h5 : Tk W5 tb (⟨#[51]⟩ :: ⟨#[49]⟩ :: l) := hW5 ▸ (H3.out.put HI3.out 0 _).setOk
     have hI5 : W5.heap[w.heap.size + 1]? = some (.cells #[I 4, I 0, U 0] 33) := hW5 ▸ (Vz _ _ _ _ hnt).trans (AI HI3.out 0 _)
   | have h5 : Tk W5 tb (⟨#[51]⟩ :: ⟨#[53]⟩ :: l) := hW5 ▸ (H3.out.put HI3.out 0 _).setOk
     have hI5 : W5.heap[w.heap.size + 1]? = some (.cells #[I 3, I 0, U 0] 33) := hW5 ▸ (Vz _ _ _ _ hnt).trans (AI HI3.out 0 _)
  have hJ5 : W5.heap[w.heap.size]? = some (.cells KF 33) := hW5 ▸ (Vz _ _ _ _ hnr).trans ((Vz _ _ _ _ (by simp)).trans HJ3.out)
  have hp5 : Pres (fun k => k ≠ tb) w W5 := hW5 ▸ ((Pres.of_below HB3.out).setNew (by simp) _).setCell (by simp) _
  clear hW5 c3 f3 e3 g3 k3 l3 HI3 HJ3 HB3 H3 hi0 hi1 hi2 hi3 hi4
  first
   | guard_hyp mk_2
     refine (Th tb _ (by first | omega | (simp; omega)) _ h5).mono ?_
   | refine (Tg tb _ (by first | omega | (simp; omega)) _ h5).mono ?_
  rintro e w6 ⟨rfl, h6, p6⟩
  have hI6 := (p6.block _ (AF hI5) hnt).trans hI5
  have hJ6 := (p6.block _ (AF hJ5) hnr).trans hJ5
  have HP6 := Vw (hp5.trans p6)
  have H6 := Vw h6
  have HI6 := Vw hI6
  have HJ6 := Vw hJ6
  have c6 := AA hI6
  have f6 := AJ hI6
  have e6 := AA hJ6
  have g6 := AJ hJ6
  clear h5 hI5 hJ5 hp5 h6 p6 hI6 hJ6
  go_wp2_with fail
  first
   | guard_hyp mk_1
     have hI7 := AI HI6.out 1 (I 3)
     have hJL : (w6.setCell ⟨w.heap.size + 1, 1, none⟩ (I 3)).heap[w.heap.size]? = some (.cells KF 33) := (Vz _ _ _ _ (by simp)).trans HJ6.out
     have HL := Vw (H6.out.put HI6.out 1 (I 3))
     have HPL := Vw (show Pres (fun k => k ≠ tb) w (w6.setCell ⟨w.heap.size + 1, 1, none⟩ (I 3)) from HP6.out.setNew (by simp) _)
   | guard_hyp mk_2
     generalize hW7 : w6.setCell ⟨w.heap.size + 1, 1, none⟩ (I 2) = W7
     have h7 : Tk W7 tb (⟨#[57]⟩ :: l) := hW7 ▸ H6.out.put HI6.out 1 _
     have hI7 : W7.heap[w.heap.size + 1]? = some (.cells #[I 2, I 2, U 0] 33) := hW7 ▸ AI HI6.out 1 _
     have hJ7 : W7.heap[w.heap.size]? = some (.cells KF 33) := hW7 ▸ (Vz _ _ _ _ (by simp)).trans HJ6.out
     have hp7 : Pres (fun k => k ≠ tb) w W7 := hW7 ▸ HP6.out.setNew (by simp) _
     clear hW7 c6 f6 e6 g6 HI6 HJ6 H6
     refine (RD tb _ (by omega) _ h7).mono ?_
     rintro e w8 ⟨rfl, h8, p8⟩
     have hI8 := (p8.block _ (AF hI7) hnt).trans hI7
     have hJ8 := (p8.block _ (AF hJ7) hnr).trans hJ7
     have hJL : (w8.setCell ⟨w.heap.size + 1, 2, none⟩ (U 9)).heap[w.heap.size]? = some (.cells KF 33) := (Vz _ _ _ _ (by simp)).trans hJ8
     have HL := Vw (h8.put hI8 2 (U 9))
     have HPL := Vw (show Pres (fun k => k ≠ tb) w (w8.setCell ⟨w.heap.size + 1, 2, none⟩ (U 9)) from (hp7.trans p8).setNew (by simp) _)
     have c8 := AA hI8
     have f8 := AJ hI8
     have e8 := AA hJ8
     have g8 := AJ hJ8
     have HJL := Vw hJL
     clear h7 hI7 hJ7 hp7 h8 p8 hI8 hJ8 hJL
     go_wp2_with fail
     have hJL := HJL.out
   | guard_hyp mk_3
     generalize hW7 : w6.setCell ⟨w.heap.size + 1, 1, none⟩ (I 3) = W7
     have h7 : Tk W7 tb (⟨#[49]⟩ :: l) := hW7 ▸ H6.out.put HI6.out 1 _
     have hI7 : W7.heap[w.heap.size + 1]? = some (.cells #[I 4, I 3, U 0] 33) := hW7 ▸ AI HI6.out 1 _
     have hJ7 : W7.heap[w.heap.size]? = some (.cells KF 33) := hW7 ▸ (Vz _ _ _ _ (by simp)).trans HJ6.out
     have hp7 : Pres (fun k => k ≠ tb) w W7 := hW7 ▸ HP6.out.setNew (by simp) _
     clear hW7 c6 f6 e6 g6 HI6 HJ6 H6
     refine (RF tb _ (by omega) _ h7).mono ?_
     rintro e w8 ⟨rfl, h8, p8⟩
     have hI8 := (p8.block _ (AF hI7) hnt).trans hI7
     have hJ8 := (p8.block _ (AF hJ7) hnr).trans hJ7
     have hJL : (w8.setCell ⟨w.heap.size + 1, 2, none⟩ (U 1)).heap[w.heap.size]? = some (.cells KF 33) := (Vz _ _ _ _ (by simp)).trans hJ8
     have HL := Vw (h8.put hI8 2 (U 1))
     have HPL := Vw (show Pres (fun k => k ≠ tb) w (w8.setCell ⟨w.heap.size + 1, 2, none⟩ (U 1)) from (hp7.trans p8).setNew (by simp) _)
     have c8 := AA hI8
     have f8 := AJ hI8
     have e8 := AA hJ8
     have g8 := AJ hJ8
     have HJL := Vw hJL
     clear h7 hI7 hJ7 hp7 h8 p8 hI8 hJ8 hJL
     go_wp2_with fail
     have hJL := HJL.out
   | generalize hW7 : w6.setCell ⟨w.heap.size + 1, 1, none⟩ (I 3) = W7
     have h7 : Tk W7 tb (⟨#[53]⟩ :: l) := hW7 ▸ H6.out.put HI6.out 1 _
     have hI7 : W7.heap[w.heap.size + 1]? = some (.cells #[I 3, I 3, U 0] 33) := hW7 ▸ AI HI6.out 1 _
     have hJ7 : W7.heap[w.heap.size]? = some (.cells KF 33) := hW7 ▸ (Vz _ _ _ _ (by simp)).trans HJ6.out
     have hp7 : Pres (fun k => k ≠ tb) w W7 := hW7 ▸ HP6.out.setNew (by simp) _
     clear hW7 c6 f6 e6 g6 HI6 HJ6 H6
     refine (RE tb _ (by omega) _ h7).mono ?_
     rintro e w8 ⟨rfl, h8, p8⟩
     have hI8 := (p8.block _ (AF hI7) hnt).trans hI7
     have hJ8 := (p8.block _ (AF hJ7) hnr).trans hJ7
     have hJL : (w8.setCell ⟨w.heap.size + 1, 2, none⟩ (U 5)).heap[w.heap.size]? = some (.cells KF 33) := (Vz _ _ _ _ (by simp)).trans hJ8
     have HL := Vw (h8.put hI8 2 (U 5))
     have HPL := Vw (show Pres (fun k => k ≠ tb) w (w8.setCell ⟨w.heap.size + 1, 2, none⟩ (U 5)) from (hp7.trans p8).setNew (by simp) _)
     have c8 := AA hI8
     have f8 := AJ hI8
     have e8 := AA hJ8
     have g8 := AJ hJ8
     have HJL := Vw hJL
     clear h7 hI7 hJ7 hp7 h8 p8 hI8 hJ8 hJL
     go_wp2_with fail
     have hJL := HJL.out
  generalize hW9 : World.setCell _ ⟨w, 2, none⟩ _ = W9
  first
   | guard_hyp mk_1
     have hf : W9.heap[w.heap.size]? = some (.cells #[I 1, I 3, U 0] 33) := hW9 ▸ AI (AI (AI hJL 0 _) 1 _) 2 _
   | guard_hyp mk_2
     have hf : W9.heap[w.heap.size]? = some (.cells #[I 2, I 2, U 9] 33) := hW9 ▸ AI (AI (AI hJL 0 _) 1 _) 2 _
   | guard_hyp mk_3
     have hf : W9.heap[w.heap.size]? = some (.cells #[I 4, I 3, U 1] 33) := hW9 ▸ AI (AI (AI hJL 0 _) 1 _) 2 _
   | have hf : W9.heap[w.heap.size]? = some (.cells #[I 3, I 3, U 5] 33) := hW9 ▸ AI (AI (AI hJL 0 _) 1 _) 2 _
  have hT : Tk W9 tb l := hW9 ▸ ((HL.out.put hJL 0 _).put (AI hJL 0 _) 1 _).put (AI (AI hJL 0 _) 1 _) 2 _
  have hP : Pres (fun k => k ≠ tb) w W9 := hW9 ▸ ((HPL.out.setNew (by simp) _).setNew (by simp) _).setNew (by simp) _
  clear hW9
  have c9 := AA hf
  first
   | guard_hyp mk_1
     refine bodyPost_ret (v := .agg #[I 1, I 3, U 0]) (by simp [results, results81, go_sem, c9]) rfl ⟨rfl, hT, hP⟩
   | guard_hyp mk_2
     refine bodyPost_ret (v := .agg #[I 2, I 2, U 9]) (by simp [results, results81, go_sem, c9]) rfl ⟨rfl, hT, hP⟩
   | guard_hyp mk_3
     refine bodyPost_ret (v := .agg #[I 4, I 3, U 1]) (by simp [results, results81, go_sem, c9]) rfl ⟨rfl, hT, hP⟩
   | refine bodyPost_ret (v := .agg #[I 3, I 3, U 5]) (by simp [results, results81, go_sem, c9]) rfl ⟨rfl, hT, hP⟩
end Go.Proofs.YtkoplblbeapfgaaGreatDoor
