/-
Parts of the walk of TopEnds. Conditions stand in each statement.
-/
import Derived.Handy
import Derived.Test.YtkoplblbeapfgaaGreatDoorX03
namespace Go.Proofs.YtkoplblbeapfgaaGreatDoor
open Go.RowKit
open Tryz
set_option linter.all false
set_option maxRecDepth 100000
set_option maxHeartbeats 8000000
theorem Qx (s : Slot) (line : Int) (p : Addr) (w : World) (h : w.cell? p = I line) (hp : p.block < w.heap.size) : Y 405 #[.agg s.cells, .pointer (some p)] w fun e w' => e = Z (.bool (s.is line)) ∧ Below w w w' := by
 have fin : ∀ o : Obj, Below w w (w.alloc o) := fun o => AC w o
 have h' : (w.alloc (.cells s.cells 111)).cell? p = I line := ((AC w (.cells s.cells 111)).cell hp).trans h
 simp only [Slot.cells] at h' ⊢
 go_enter func405, ntmps405
 go_wp2_with fail
 all_goals
  go_ret
  exact ⟨by simp [Slot.is, *], fin _⟩
theorem GH (s : Slot) (w : World) : Y 168 #[.agg s.cells] w fun e w' => e = Z (.bool (s.st == 0)) ∧ Below w w w' := by
 have HB := Vw (AC w (.cells s.cells 111))
 simp only [Slot.cells] at HB ⊢
 go_enter func168, ntmps168
 go_wp2_with fail
 go_ret
 exact ⟨rfl, HB.out⟩
theorem NJ (n : Int) (w : World) : Y 389 #[I n] w fun e w' => e = Z (.bool (DN n)) ∧ w = w' := by
 by_cases h : 0 ≤ n
 · go_enter func389, ntmps389
   go_wp2_with fail
   go_ret
   exact ⟨by simp [DN, h], rfl⟩
 · have h' : n < 0 := by omega
   go_enter func389, ntmps389
   go_wp2_with fail
   go_ret
   exact ⟨by simp [DN]; omega, rfl⟩
theorem OG (s : Slot) (w : World) : Y 388 #[.agg s.cells] w fun e w' => e = Z (.bool (!DN s.st)) ∧ Below w w w' := by
 have HB := Vw (AC w (.cells s.cells 111))
 have hr := NJ s.st
 simp only [Slot.cells] at HB ⊢
 go_enter func388, ntmps388
 go_wp2_with fail
 refine (hr _).mono ?_
 rintro e w1 ⟨rfl, rfl⟩
 go_wp2_with fail
 go_ret
 exact ⟨rfl, HB.out⟩
theorem Bo (ab sb : Nat) (a : Arr) (line : Int) (h0 : 0 ≤ line) (w : World) (h : ArrAt w ab sb a) : Y 385 #[ab, I line] w fun e w' => e = Z (.slice (some sb) 2 2) ∧ Below w w w' := by
 have c := AA h.head
 have hs := Ps line h0
 have w0 : IntKind.i64.wrap 0 = 0 := rfl
 have w2 : IntKind.i64.wrap 2 = 2 := rfl
 have HB := Vw (Below.refl w.heap.size w)
 clear h
 go_enter func385, ntmps385
 go_wp2_with fail
 go_region_with (first | (go_at_call 406; refine (hs _).mono ?_; rintro e w1 ⟨rfl, rfl⟩))
 all_goals
  go_wp2_with fail
  go_region
  all_goals
   go_wp2_with fail
   go_ret
   exact ⟨rfl, HB.out.drew.drew⟩
def Slot.l (s : Slot) : List Value := [I s.st, I s.line, U s.data.a, U s.data.b, U s.data.c, U s.data.d, U s.data.e, U s.data.f, U s.data.g, U s.data.h, I s.used]
def Be (l : List Slot) : List Value := l.flatMap Slot.l
theorem Fu {w : World} {v : Value} {l : List Slot} (hr : AH w 111 11 v l.length (Be l)) {j : Nat} {x : Slot} (hx : l[j]? = some x) : ∃ g off AV, v = .slice (some ⟨g, off, none⟩) l.length AV ∧ l.length ≤ AV ∧ (∃ cs, w.heap[g]? = some (.cells cs 111 (0, 0))) ∧ ∀ i u, x.l[i]? = some u → w.cell? ⟨g, off + j * 11 + i, none⟩ = some u := AH.elem (f := Slot.l) (size := 11) (fun _ => rfl) hr hx
theorem ArrAt.rows {w : World} {ab sb : Nat} {a : Arr} (h : ArrAt w ab sb a) : AH w 111 11 (.slice (some sb) 2 2) [a.s0, a.s1].length (Be [a.s0, a.s1]) := AH.made (size := 11) (m := 2) h.row rfl
theorem ixX :
  (∀ (v : Value) (l : List Slot) (w : World) (hr : AH w 111 11 v l.length (Be l)) (hlen : l.length < 1000), Y 213 #[v, .func (.func 388) #[] #[]] w fun e w' => e = Z (I (CV (fun s => !DN s.st) l)) ∧ Below w w w') ∧
  (∀ (v : Value) (l : List Slot) (w : World) (hr : AH w 111 11 v l.length (Be l)) (hlen : l.length < 1000), Y 213 #[v, .func (.func 168) #[] #[]] w fun e w' => e = Z (I (CV (fun s => s.st == 0) l)) ∧ Below w w w') ∧
  (∀ (v : Value) (l : List Slot) (w : World) (line : Int) (p : Addr) (hp : p.block < w.heap.size) (hc : w.cell? p = I line) (hr : AH w 111 11 v l.length (Be l)) (hlen : l.length < 1000), Y 213 #[v, .func (.func 405) #[] #[.pointer (some p)]] w fun e w' => e = Z (I (CV (fun s => s.is line) l)) ∧ Below w w w') := by
 refine ⟨?m0, ?m1, ?m2⟩
 case' m0 =>
  intro v l w hr hlen
  have mk_0 := trivial
 case' m1 =>
  intro v l w hr hlen
  have mk_1 := trivial
 case' m2 =>
  intro v l w line p hp hc hr hlen
  have mk_2 := trivial
 all_goals
  have H := Vw hr
  have HL := Vw hlen
  obtain ⟨A, AV, rfl⟩ := hr.form
  clear hr
  go_enter func213, ntmps213
  go_wp2_with fail
  first
   | guard_hyp mk_1
     go_loopw [8] (fun i W => ∃ j : Nat, j ≤ l.length ∧ i = I j ∧ (∀ m x, m < j → l[m]? = some x → (fun s => s.st == 0) x = false) ∧ Below w w W) (fun i W => l.length - (intOf i).toNat)
   | guard_hyp mk_2
     go_loopw [8] (fun i W => ∃ j : Nat, j ≤ l.length ∧ i = I j ∧ (∀ m x, m < j → l[m]? = some x → (fun s => s.is line) x = false) ∧ Below w w W) (fun i W => l.length - (intOf i).toNat)
   | go_loopw [8] (fun i W => ∃ j : Nat, j ≤ l.length ∧ i = I j ∧ (∀ m x, m < j → l[m]? = some x → (fun s => !DN s.st) x = false) ∧ Below w w W) (fun i W => l.length - (intOf i).toNat)
  case atStart => exact ⟨0, by omega, rfl, fun m x hm => by omega, Below.refl _ _⟩
  case round =>
   obtain ⟨j, hj, rfl, hno, hb⟩ := hrel
   have HB := Vw hb
   have HN := Vw hno
   clear hb hno
   by_cases hlt : j < l.length
   · obtain ⟨x, hx⟩ : ∃ x, l[j]? = some x := ⟨l[j], List.getElem?_eq_getElem hlt⟩
     obtain ⟨g, off, cap', hv, hc1, _, hcell⟩ := Fu (H.out.below HB.out) hx
     cases hv
     have hlt' : (j : Int) < (l.length : Int) := by omega
     have hj0 : (0 : Int) ≤ (j : Int) := by omega
     have e0 : wr.cell? ⟨g, off + j * 11, none⟩ = I x.st := hcell 0 _ rfl
     have e1 := hcell 1 _ rfl
     have e2 := hcell 2 _ rfl
     have e3 := hcell 3 _ rfl
     have e4 := hcell 4 _ rfl
     have e5 := hcell 5 _ rfl
     have e6 := hcell 6 _ rfl
     have e7 := hcell 7 _ rfl
     have e8 := hcell 8 _ rfl
     have e9 := hcell 9 _ rfl
     have e10 := hcell 10 _ rfl
     have HX := Vw hx
     clear hcell hx
     first
      | guard_hyp mk_1
        have hcall := GH x wr
      | guard_hyp mk_2
        have hcall := Qx x line p wr ((HB.out.cell hp).trans hc) (Vy hp HB.out.size)
      | have hcall := OG x wr
     simp only [Slot.cells] at hcall
     go_wp2_with fail
     refine hcall.mono ?_
     rintro e w1 ⟨rfl, hb1⟩
     first
      | guard_hyp mk_1
        cases hq : (x.st == 0)
      | guard_hyp mk_2
        cases hq : (x.is line)
      | cases hq : (!DN x.st)
     · go_wp2_with fail
       refine ⟨⟨j + 1, by omega, by simp, fun m y hm hy => ?_, HB.out.trans (hb1.mono HB.out.size)⟩, by simp [intOf]; omega⟩
       by_cases hmj : m = j
       · subst hmj
         rw [HX.out] at hy
         cases hy
         exact hq
       · exact HN.out m y (by omega) hy
     · go_wp2_with fail
       go_ret
       exact ⟨by rw [Ka _ l j x HX.out hq HN.out]; rfl, HB.out.trans (hb1.mono HB.out.size)⟩
   · obtain rfl : j = l.length := by omega
     go_wp2_with fail
     go_ret
     exact ⟨by rw [Kb _ l (fun m x hx => HN.out m x (List.getElem?_eq_some_iff.1 hx).1 hx)]; rfl, HB.out⟩
theorem Ur (a : Arr) (line : Int) : CV (fun s => s.is line) [a.s0, a.s1] = a.ix line := by
 cases h0 : a.s0.is line <;> cases h1 : a.s1.is line <;> simp [CV, Arr.ix, h0, h1]
theorem Bs (ab sb : Nat) (a : Arr) (line : Int) (h0 : 0 ≤ line) (w : World) (h : ArrAt w ab sb a) : Y 384 #[ab, I line] w fun e w' => e = Z (I (a.ix line)) ∧ Below w w w' := by
 have HB := Vw (AC w (.cells #[I line] 3))
 have HI := Vw (AE w (.cells #[I line] 3))
 have c := AA HI.out
 have H := Vw (h.below HB.out)
 clear h
 go_enter func384, ntmps384
 go_wp2_with fail
 refine (Bo ab sb a line h0 _ H.out).mono ?_
 rintro e w1 ⟨rfl, hb1⟩
 replace H := Vw (H.out.below hb1)
 have hi := AB hb1 HI.out
 replace c := AA hi
 go_wp2_with fail
 refine (ixX.2.2 _ [a.s0, a.s1] _ line w (AF hi) (AD hi 0 rfl) H.out.rows (by simp)).mono ?_
 rintro e w2 ⟨rfl, hb2⟩
 go_wp2_with fail
 go_ret
 exact ⟨by rw [Ur]; rfl, HB.out.trans ((hb1.trans (hb2.mono hb1.size)).mono HB.out.size)⟩
theorem Gl (a : Arr) (line : Int) : (a.ix line = 0 ∧ a.find line = a.s0 ∧ a.s0.is line = true) ∨ (a.ix line = 1 ∧ a.find line = a.s1 ∧ a.s0.is line = false ∧ a.s1.is line = true) ∨ (a.ix line = -1 ∧ a.find line = Slot.zero ∧ a.s0.is line = false ∧ a.s1.is line = false) := by
 unfold Arr.ix Arr.find
 cases h0 : a.s0.is line <;> cases h1 : a.s1.is line <;> simp
theorem PG (a : Arr) : (a.free = 0 ∧ (a.s0.st == 0) = true) ∨ (a.free = 1 ∧ (a.s0.st == 0) = false ∧ (a.s1.st == 0) = true) ∨ (a.free = -1 ∧ (a.s0.st == 0) = false ∧ (a.s1.st == 0) = false) := by
 unfold Arr.free
 cases h0 : (a.s0.st == 0) <;> cases h1 : (a.s1.st == 0) <;> simp
theorem Nr (ab sb : Nat) (a : Arr) (line : Int) (h0 : 0 ≤ line) (w : World) (h : ArrAt w ab sb a) : Y 383 #[ab, I line] w fun e w' => e = Z (.tuple #[.agg (a.find line).cells, .bool (decide (0 ≤ a.ix line))]) ∧ Below w w w' := by
 have HB := Vw (AC w (.cells Slot.zero.cells 111))
 have HI := Vw (AE w (.cells Slot.zero.cells 111))
 have H := Vw (h.below HB.out)
 clear h
 simp only [Slot.cells, Slot.zero, Ln.zero] at HB HI H
 rcases Gl a line with ⟨hi, hf, _⟩ | ⟨hi, hf, _⟩ | ⟨hi, hf, _⟩
 · have hat := fun w hw => Bs ab sb a line h0 w hw
   rw [hi] at hat
   go_enter func383, ntmps383
   go_wp2_with fail
   refine (hat _ H.out).mono ?_
   rintro e w1 ⟨rfl, hb1⟩
   replace H := Vw (H.out.below hb1)
   go_wp2_with fail
   refine (Bo ab sb a line h0 _ H.out).mono ?_
   rintro e w2 ⟨rfl, hb2⟩
   replace H := Vw (H.out.below hb2)
   have hI := AB hb2 (AB hb1 HI.out)
   have hlt := AF hI
   have c := AA H.out.row
   have c1 := AA hI
   have f1 := AJ hI
   go_wp2_with fail
   generalize hW : World.setCell _ ⟨w, 10, none⟩ _ = W5
   have hx : W5.heap[w.heap.size]? = some (.cells a.s0 111) := by rw [← hW]; exact AT [I a.s0.st, I a.s0.line, U a.s0.data.a, U a.s0.data.b, U a.s0.data.c, U a.s0.data.d, U a.s0.data.e, U a.s0.data.f, U a.s0.data.g, U a.s0.data.h, I a.s0.used] hI 0 _ (by kernel_rfl)
   have hbb : Below w w W5 := by rw [← hW]; exact Ac (Nat.le_refl _) [I a.s0.st, I a.s0.line, U a.s0.data.a, U a.s0.data.b, U a.s0.data.c, U a.s0.data.d, U a.s0.data.e, U a.s0.data.f, U a.s0.data.g, U a.s0.data.h, I a.s0.used] (HB.out.trans ((hb1.trans (hb2.mono hb1.size)).mono HB.out.size)) 0
   clear hW
   have c5 := AA hx
   refine bodyPost_ret (v := .tuple #[.agg a.s0, true]) (by simp [results, results383, go_sem, c5]) rfl ⟨by rw [hf, hi]; rfl, hbb⟩
 · have hat := fun w hw => Bs ab sb a line h0 w hw
   rw [hi] at hat
   go_enter func383, ntmps383
   go_wp2_with fail
   refine (hat _ H.out).mono ?_
   rintro e w1 ⟨rfl, hb1⟩
   replace H := Vw (H.out.below hb1)
   go_wp2_with fail
   refine (Bo ab sb a line h0 _ H.out).mono ?_
   rintro e w2 ⟨rfl, hb2⟩
   replace H := Vw (H.out.below hb2)
   have hI := AB hb2 (AB hb1 HI.out)
   have hlt := AF hI
   have c := AA H.out.row
   have c1 := AA hI
   have f1 := AJ hI
   go_wp2_with fail
   generalize hW : World.setCell _ ⟨w, 10, none⟩ _ = W5
   have hx : W5.heap[w.heap.size]? = some (.cells a.s1 111) := by rw [← hW]; exact AT [I a.s1.st, I a.s1.line, U a.s1.data.a, U a.s1.data.b, U a.s1.data.c, U a.s1.data.d, U a.s1.data.e, U a.s1.data.f, U a.s1.data.g, U a.s1.data.h, I a.s1.used] hI 0 _ (by kernel_rfl)
   have hbb : Below w w W5 := by rw [← hW]; exact Ac (Nat.le_refl _) [I a.s1.st, I a.s1.line, U a.s1.data.a, U a.s1.data.b, U a.s1.data.c, U a.s1.data.d, U a.s1.data.e, U a.s1.data.f, U a.s1.data.g, U a.s1.data.h, I a.s1.used] (HB.out.trans ((hb1.trans (hb2.mono hb1.size)).mono HB.out.size)) 0
   clear hW
   have c5 := AA hx
   refine bodyPost_ret (v := .tuple #[.agg a.s1, true]) (by simp [results, results383, go_sem, c5]) rfl ⟨by rw [hf, hi]; rfl, hbb⟩
 · have hat := fun w hw => Bs ab sb a line h0 w hw
   rw [hi] at hat
   go_enter func383, ntmps383
   go_wp2_with fail
   refine (hat _ H.out).mono ?_
   rintro e w1 ⟨rfl, hb1⟩
   have hI := AB hb1 HI.out
   have hlt := AF hI
   have c1 := AA hI
   have f1 := AJ hI
   go_wp2_with fail
   generalize hW : World.setCell _ ⟨w, 10, none⟩ _ = W5
   have hx : W5.heap[w.heap.size]? = some (.cells #[I 0, I 0, U 0, U 0, U 0, U 0, U 0, U 0, U 0, U 0, I 0] 111) := by rw [← hW]; exact AT [I 0, I 0, U 0, U 0, U 0, U 0, U 0, U 0, U 0, U 0, I 0] hI 0 _ (by kernel_rfl)
   have hbb : Below w w W5 := by rw [← hW]; exact Ac (Nat.le_refl _) [I 0, I 0, U 0, U 0, U 0, U 0, U 0, U 0, U 0, U 0, I 0] (HB.out.trans (hb1.mono HB.out.size)) 0
   clear hW
   have c5 := AA hx
   refine bodyPost_ret (v := .tuple #[.agg #[I 0, I 0, U 0, U 0, U 0, U 0, U 0, U 0, U 0, U 0, I 0], false]) (by simp [results, results383, go_sem, c5]) rfl ⟨by rw [hf, hi]; rfl, hbb⟩
theorem DH (ab sb : Nat) (a : Arr) (h0 : 0 ≤ a.used) (h1 : a.used < 1000000) (w : World) (h : ArrAt w ab sb a) : Y 386 #[ab] w fun e w' => e = Z (I (a.used + 1)) ∧ w.setCell ⟨ab, 3, none⟩ (I (a.used + 1)) = w' := by
 have c := AA h.head
 have f := AJ h.head
 clear h
 go_enter func386, ntmps386
 go_wp2_with fail
 go_ret
 exact ⟨rfl, rfl⟩
theorem ArrAt.num {w : World} {ab sb : Nat} {a : Arr} (h : ArrAt w ab sb a) : ArrAt (w.setCell ⟨ab, 3, none⟩ (I (a.used + 1))) ab sb a.num :=
 ⟨AI h.head 3 _, (Vz _ _ _ _ (AG h.row h.head (by decide))).trans h.row⟩
theorem ArrAt.put0 {w : World} {ab sb : Nat} {a : Arr} (h : ArrAt w ab sb a) (x : Slot) : ArrAt (w.setCells sb 0 x.l) ab sb (a.putAt 0 x) :=
 ⟨(AR (AG h.head h.row (by decide)) _ _ _).trans h.head, AT _ h.row 0 _ (by kernel_rfl)⟩
theorem ArrAt.put1 {w : World} {ab sb : Nat} {a : Arr} (h : ArrAt w ab sb a) (x : Slot) : ArrAt (w.setCells sb 11 x.l) ab sb (a.putAt 1 x) :=
 ⟨(AR (AG h.head h.row (by decide)) _ _ _).trans h.head, AT _ h.row 11 _ (by kernel_rfl)⟩
end Go.Proofs.YtkoplblbeapfgaaGreatDoor
