/-
Parts of the walk of TopEnds. Conditions stand in each statement.
-/
import Derived.Handy
import Derived.Laws.EntriesVeiled
import Derived.Test.YtkoplblbeapfgaaGreatDoorX03
namespace Go.Proofs.YtkoplblbeapfgaaGreatDoor
open Go.RowKit
open Tryz
set_option linter.all false
set_option maxRecDepth 100000
set_option maxHeartbeats 8000000
def Send.l (x : Send) : List Value := I x.to :: x.m.cells.toList
def BM (l : List Send) : List Value := l.flatMap Send.l
def Bq (e : Ent) (line : Int) (S : Value) : Array Value := #[.bool e.here, .bool e.dirty, U e.data.a, U e.data.b, U e.data.c, U e.data.d, U e.data.e, U e.data.f, U e.data.g, U e.data.h, I e.owner, .int .u8 e.share, I e.busy, I e.who, .int .u8 e.wait, I line, S]
def Mv (w0 : World) (mb : Nat) (e : Ent) (line : Int) (out : List Send) (w : World) : Prop :=
 ∃ S, w.heap[mb]? = some (.cells (Bq e line S) 423) ∧ AH w 428 13 S out.length (BM out) ∧ w0.heap.size ≤ mb ∧ (∀ k, S.ownBlock = some k → w0.heap.size ≤ k) ∧ Below w0 w0 w
theorem Mv.below {w0 : World} {mb : Nat} {e : Ent} {line : Int} {out : List Send} {w w' : World} (h : Mv w0 mb e line out w) (hb : Below w w w') : Mv w0 mb e line out w' := by
 obtain ⟨S, h1, h2, h3, h4, h5⟩ := h
 exact ⟨S, AB hb h1, h2.below hb, h3, h4, h5.trans (hb.mono h5.size)⟩
theorem Mv.put {w0 : World} {mb : Nat} {e e' : Ent} {line : Int} {out : List Send} {w : World} (h : Mv w0 mb e line out w) (vs : List Value) (o : Nat) (hs : ∀ S, EB (Bq e line S) o vs = Bq e' line S) : Mv w0 mb e' line out (w.setCells mb o vs) := by
 obtain ⟨S, h1, h2, h3, h4, h5⟩ := h
 refine ⟨S, AT vs h1 o _ (hs S), h2.kept fun k hk => ?_, h3, h4, Ac h3 vs h5 o⟩
 obtain ⟨cs, h'⟩ := h2.type k hk
 exact AR (AG h' h1 (by decide)) _ _ _
theorem UY : ET prog 372 428 13 96 := ET.of underlying372 (z := .agg (Send.l ⟨0, ⟨0, 0, false, false, Ln.zero⟩⟩).toArray) (by kernel_rfl) rfl
theorem Ge (x : Send) : ∀ u ∈ x.l, u.oneCell' = true := by
 intro u hu
 simp only [Send.l, Msg.cells, List.mem_cons, List.not_mem_nil, or_false] at hu
 rcases hu with rfl | rfl | rfl | rfl | rfl | rfl | rfl | rfl | rfl | rfl | rfl | rfl | rfl <;> rfl
theorem PK (w0 : World) (mb : Nat) (e : Ent) (line : Int) (out : List Send) (to kind : Int) (k8 : (kind == 8) = false) (k9 : (kind == 9) = false) (k10 : (kind == 10) = false) (hl : out.length < 1000) (w : World) (h : Mv w0 mb e line out w) :
 Y 337 #[mb, I to, I kind] w fun r w' => r = Z (.tuple #[]) ∧ Mv w0 mb e line (out ++ [⟨to, ⟨kind, line, false, false, Ln.zero⟩⟩]) w' := by
 have HB := Vw (AC w (.cells #[I kind, I line, false, false, U 0, U 0, U 0, U 0, U 0, U 0, U 0, U 0] 253))
 have HI := Vw (AE w (.cells #[I kind, I line, false, false, U 0, U 0, U 0, U 0, U 0, U 0, U 0, U 0] 253))
 obtain ⟨S, h1, h2, h3, h4, h5⟩ := h.below HB.out
 obtain ⟨S', h1', _⟩ := h
 obtain ⟨A, AV, rfl⟩ := h2.form
 have hlt := AF h1'
 have c := AA h1'
 unfold Bq at c
 have H := Vw (WA h1 (WA h2 (WA h3 (WA h4 h5))))
 clear h1 h2 h3 h4 h5
 go_enter func337, ntmps337
 go_wp2_with fail
 generalize w.alloc (.cells #[I kind, I line, false, false, U 0, U 0, U 0, U 0, U 0, U 0, U 0, U 0] 253) = W0 at *
 replace c := AA H.out.1
 unfold Bq at c
 have hlt0 := AF H.out.1
 have f := AJ H.out.1
 have c1 := AA HI.out
 have HC := Vw (AC W0 (.cells #[I to, I kind, I line, false, false, U 0, U 0, U 0, U 0, U 0, U 0, U 0, U 0] 428))
 have HM := Vw (Ge ⟨to, ⟨kind, line, false, false, Ln.zero⟩⟩)
 have a3 : (W0.alloc (.cells #[I to, I kind, I line, false, false, U 0, U 0, U 0, U 0, U 0, U 0, U 0, U 0] 428)).cell? ⟨mb, 16, none⟩ = some (.slice A out.length AV) := AD (AB HC.out H.out.1) 16 rfl
 go_region_law
  (first
   | (refine Bb (by rfl) (.tmp 28) (.tmp 32) 372 372 (by rfl) UY (.slice A out.length AV) out.length (BM out) (by rfl) (H.out.2.1.below HC.out.drew) _ 1 _ (by rfl) (Src.one underlying372 (AE W0 _) rfl HM.out) (by omega) (by omega) ?_; intro A3 cap3 w3 hr3 hg3 hm3; have d0 : w3.cell? ⟨mb, 16, none⟩ = some (.slice A out.length AV) := AD (AW (H.out.2.1.below HC.out.drew) hg3 (AB HC.out.drew H.out.1) (by decide)) 16 rfl; have e0 := Aq (AW (H.out.2.1.below HC.out.drew) hg3 (AB HC.out.drew H.out.1) (by decide)) 16))
 all_goals
  have hb3 := AW (H.out.2.1.below HC.out.drew) hg3 (AB HC.out.drew H.out.1) (by decide)
  go_wp2_with fail
  go_end0
  refine ⟨rfl, .slice A3 (out.length + 1) cap3, AI hb3 16 _, ?_, H.out.2.2.1, ?_, ?_⟩
  · have hr4 := hr3.stored hb3 (by decide) 16 (.slice A3 (out.length + 1) cap3)
    rw [List.length_append]
    simpa [BM, Send.l, Msg.cells, Ln.zero] using hr4
  · intro k hk
    rcases hm3 with e | ⟨g, e, hg4⟩
    · exact H.out.2.2.2.1 k (e ▸ hk)
    · rw [e] at hk
      cases hk
      exact Vx H.out.2.2.2.2.size (Vx HC.out.drew.size hg4)
  · exact ((H.out.2.2.2.2.trans (HC.out.drew.mono H.out.2.2.2.2.size)).grown hg3 (Vx H.out.2.2.2.2.size HC.out.drew.size) (fun k hk => H.out.2.2.2.1 k hk)).setCell (p := ⟨mb, 16, none⟩) H.out.2.2.1 _
theorem dtellX :
  (∀ (w0 : World) (mb : Nat) (e : Ent) (line : Int) (out : List Send) (to : Int) (hl : out.length < 1000) (w : World) (h : Mv w0 mb e line out w), Y 337 #[mb, I to, I 8] w fun r w' => r = Z (.tuple #[]) ∧ Mv w0 mb e line (out ++ [⟨to, ⟨8, line, false, false, e.data⟩⟩]) w') ∧
  (∀ (w0 : World) (mb : Nat) (e : Ent) (line : Int) (out : List Send) (to : Int) (hl : out.length < 1000) (w : World) (h : Mv w0 mb e line out w), Y 337 #[mb, I to, I 9] w fun r w' => r = Z (.tuple #[]) ∧ Mv w0 mb e line (out ++ [⟨to, ⟨9, line, false, false, e.data⟩⟩]) w') ∧
  (∀ (w0 : World) (mb : Nat) (e : Ent) (line : Int) (out : List Send) (to : Int) (hl : out.length < 1000) (w : World) (h : Mv w0 mb e line out w), Y 337 #[mb, I to, I 10] w fun r w' => r = Z (.tuple #[]) ∧ Mv w0 mb e line (out ++ [⟨to, ⟨10, line, false, false, e.data⟩⟩]) w') := by
 refine ⟨?m0, ?m1, ?m2⟩
 case' m0 =>
  intro w0 mb e line out to hl w h
  have mk_0 := trivial
 case' m1 =>
  intro w0 mb e line out to hl w h
  have mk_1 := trivial
 case' m2 =>
  intro w0 mb e line out to hl w h
  have mk_2 := trivial
 all_goals
  first
   | guard_hyp mk_1
     have HB := Vw (AC w (.cells #[I 9, I line, false, false, e.data.a, e.data.b, e.data.c, e.data.d, e.data.e, e.data.f, e.data.g, e.data.h] 253))
     have HI := Vw (AE w (.cells #[I 9, I line, false, false, e.data.a, e.data.b, e.data.c, e.data.d, e.data.e, e.data.f, e.data.g, e.data.h] 253))
   | guard_hyp mk_2
     have HB := Vw (AC w (.cells #[I 10, I line, false, false, e.data.a, e.data.b, e.data.c, e.data.d, e.data.e, e.data.f, e.data.g, e.data.h] 253))
     have HI := Vw (AE w (.cells #[I 10, I line, false, false, e.data.a, e.data.b, e.data.c, e.data.d, e.data.e, e.data.f, e.data.g, e.data.h] 253))
   | have HB := Vw (AC w (.cells #[I 8, I line, false, false, e.data.a, e.data.b, e.data.c, e.data.d, e.data.e, e.data.f, e.data.g, e.data.h] 253))
     have HI := Vw (AE w (.cells #[I 8, I line, false, false, e.data.a, e.data.b, e.data.c, e.data.d, e.data.e, e.data.f, e.data.g, e.data.h] 253))
  obtain ⟨S, h1, h2, h3, h4, h5⟩ := h.below HB.out
  obtain ⟨S', h1', _⟩ := h
  obtain ⟨A, AV, rfl⟩ := h2.form
  have hlt := AF h1'
  have c := AA h1'
  unfold Bq at c
  have H := Vw (WA h1 (WA h2 (WA h3 (WA h4 h5))))
  clear h1 h2 h3 h4 h5
  go_enter func337, ntmps337
  go_wp2_with fail
  first
   | guard_hyp mk_1
     generalize w.alloc (.cells #[I 9, I line, false, false, e.data.a, e.data.b, e.data.c, e.data.d, e.data.e, e.data.f, e.data.g, e.data.h] 253) = W0 at *
   | guard_hyp mk_2
     generalize w.alloc (.cells #[I 10, I line, false, false, e.data.a, e.data.b, e.data.c, e.data.d, e.data.e, e.data.f, e.data.g, e.data.h] 253) = W0 at *
   | generalize w.alloc (.cells #[I 8, I line, false, false, e.data.a, e.data.b, e.data.c, e.data.d, e.data.e, e.data.f, e.data.g, e.data.h] 253) = W0 at *
  replace c := AA H.out.1
  unfold Bq at c
  have hlt0 := AF H.out.1
  have f := AJ H.out.1
  have c1 := AA HI.out
  first
   | guard_hyp mk_1
     have HC := Vw (AC W0 (.cells #[I to, I 9, I line, false, false, e.data.a, e.data.b, e.data.c, e.data.d, e.data.e, e.data.f, e.data.g, e.data.h] 428))
     have HM := Vw (Ge ⟨to, ⟨9, line, false, false, e.data⟩⟩)
     have a3 : (W0.alloc (.cells #[I to, I 9, I line, false, false, e.data.a, e.data.b, e.data.c, e.data.d, e.data.e, e.data.f, e.data.g, e.data.h] 428)).cell? ⟨mb, 16, none⟩ = some (.slice A out.length AV) := AD (AB HC.out H.out.1) 16 rfl
   | guard_hyp mk_2
     have HC := Vw (AC W0 (.cells #[I to, I 10, I line, false, false, e.data.a, e.data.b, e.data.c, e.data.d, e.data.e, e.data.f, e.data.g, e.data.h] 428))
     have HM := Vw (Ge ⟨to, ⟨10, line, false, false, e.data⟩⟩)
     have a3 : (W0.alloc (.cells #[I to, I 10, I line, false, false, e.data.a, e.data.b, e.data.c, e.data.d, e.data.e, e.data.f, e.data.g, e.data.h] 428)).cell? ⟨mb, 16, none⟩ = some (.slice A out.length AV) := AD (AB HC.out H.out.1) 16 rfl
   | have HC := Vw (AC W0 (.cells #[I to, I 8, I line, false, false, e.data.a, e.data.b, e.data.c, e.data.d, e.data.e, e.data.f, e.data.g, e.data.h] 428))
     have HM := Vw (Ge ⟨to, ⟨8, line, false, false, e.data⟩⟩)
     have a3 : (W0.alloc (.cells #[I to, I 8, I line, false, false, e.data.a, e.data.b, e.data.c, e.data.d, e.data.e, e.data.f, e.data.g, e.data.h] 428)).cell? ⟨mb, 16, none⟩ = some (.slice A out.length AV) := AD (AB HC.out H.out.1) 16 rfl
  go_region_law
   (first
    | (refine Bb (by rfl) (.tmp 28) (.tmp 32) 372 372 (by rfl) UY (.slice A out.length AV) out.length (BM out) (by rfl) (H.out.2.1.below HC.out.drew) _ 1 _ (by rfl) (Src.one underlying372 (AE W0 _) rfl HM.out) (by omega) (by omega) ?_; intro A3 cap3 w3 hr3 hg3 hm3; have d0 : w3.cell? ⟨mb, 16, none⟩ = some (.slice A out.length AV) := AD (AW (H.out.2.1.below HC.out.drew) hg3 (AB HC.out.drew H.out.1) (by decide)) 16 rfl; have e0 := Aq (AW (H.out.2.1.below HC.out.drew) hg3 (AB HC.out.drew H.out.1) (by decide)) 16))
  all_goals
   have hb3 := AW (H.out.2.1.below HC.out.drew) hg3 (AB HC.out.drew H.out.1) (by decide)
   go_wp2_with fail
   go_end0
   refine ⟨rfl, .slice A3 (out.length + 1) cap3, AI hb3 16 _, ?_, H.out.2.2.1, ?_, ?_⟩
   · have hr4 := hr3.stored hb3 (by decide) 16 (.slice A3 (out.length + 1) cap3)
     rw [List.length_append]
     simpa [BM, Send.l, Msg.cells] using hr4
   · intro k hk
     rcases hm3 with e | ⟨g, e, hg4⟩
     · exact H.out.2.2.2.1 k (e ▸ hk)
     · rw [e] at hk
       cases hk
       exact Vx H.out.2.2.2.2.size (Vx HC.out.drew.size hg4)
   · exact ((H.out.2.2.2.2.trans (HC.out.drew.mono H.out.2.2.2.2.size)).grown hg3 (Vx H.out.2.2.2.2.size HC.out.drew.size) (fun k hk => H.out.2.2.2.1 k hk)).setCell (p := ⟨mb, 16, none⟩) H.out.2.2.1 _
theorem DX (w0 : World) (mb : Nat) (e : Ent) (line : Int) (out : List Send) (to kind : Int) (hl : out.length < 1000) (w : World) (h : Mv w0 mb e line out w) :
 Y 337 #[mb, I to, I kind] w fun r w' => r = Z (.tuple #[]) ∧ Mv w0 mb e line (out ++ [⟨to, FB e kind line⟩]) w' := by
 cases k8 : (kind == 8)
 · cases k9 : (kind == 9)
   · cases k10 : (kind == 10)
     · have := PK w0 mb e line out to kind k8 k9 k10 hl w h
       simpa [FB, k8, k9, k10] using this
     · have := dtellX.2.2 w0 mb e line out to hl w h
       obtain rfl : kind = 10 := by simpa using k10
       simpa [FB] using this
   · have := dtellX.2.1 w0 mb e line out to hl w h
     obtain rfl : kind = 9 := by simpa using k9
     simpa [FB] using this
 · have := dtellX.1 w0 mb e line out to hl w h
   obtain rfl : kind = 8 := by simpa using k8
   simpa [FB] using this
theorem Cu (n : Int) (h : (AK n || n == -1) = true) (w : World) : Y 325 #[I n] w fun e w' => e = Z (.int .u8 (Ax n)) ∧ w = w' := by
 simp only [AK, Bool.or_eq_true, beq_iff_eq] at h
 rcases h with (rfl | rfl) | rfl
 · exact Me 0 1 (by decide) w
 · exact Me 1 2 (by decide) w
 · exact TO w
theorem GI {w0 : World} {mb : Nat} {e : Ent} {line : Int} {out : List Send} (w : World) (h : Mv w0 mb e line out w) : Y 327 #[mb] w fun r w' => r = Z (.tuple #[]) ∧ Mv w0 mb (Jb e) line out w' := by
 have G := Vw h
 clear h
 obtain ⟨S, hS, hS2⟩ := id G.out
 have c := AA hS
 unfold Bq at c
 have f := AJ hS
 have hlt := AF hS
 clear hS hS2
 go_enter func327, ntmps327
 go_wp2_with fail
 go_end0
 exact ⟨rfl, ((G.out.put (e' := { e with busy := 0 }) [I 0] 12 (fun S => by kernel_rfl)).put (e' := { e with busy := 0, who := 0 }) [I 0] 13 (fun S => by kernel_rfl)).put (e' := Jb e) [.int .u8 0] 14 (fun S => by kernel_rfl)⟩
theorem Gw (by_ kind : Int) {w0 : World} {mb : Nat} {e : Ent} {line : Int} {out : List Send} (hl : out.length < 900) (w : World) (h : Mv w0 mb e line out w) : Y 329 #[mb, I by_, I kind] w fun r w' => r = Z (.tuple #[]) ∧ Mv w0 mb (FO e line by_ kind).1 line (out ++ (FO e line by_ kind).2) w' := by
 have G := Vw h
 clear h
 obtain ⟨S, hS, hS2⟩ := id G.out
 have c := AA hS
 unfold Bq at c
 have f := AJ hS
 have hlt := AF hS
 clear hS hS2
 go_enter func329, ntmps329
 go_wp2_with fail
 replace G := Vw ((G.out.put (e' := { e with owner := by_ }) [I by_] 10 (fun S => by kernel_rfl)).put (e' := (FO e line by_ kind).1) [.int .u8 0] 11 (fun S => by kernel_rfl))
 refine (DX w0 mb _ line out by_ kind (by omega) _ G.out).mono ?_
 rintro r w1 ⟨rfl, g⟩
 go_wp2_with fail
 go_end0
 exact ⟨rfl, g⟩
theorem PL (k l : Int) (kp : Bool) (dat : Ln) {w0 : World} {mb : Nat} {e : Ent} {line : Int} {out : List Send} (w : World) (h : Mv w0 mb e line out w) : Y 326 #[mb, .agg #[I k, I l, true, kp, dat.a, dat.b, dat.c, dat.d, dat.e, dat.f, dat.g, dat.h]] w fun r w' => r = Z (.tuple #[]) ∧ Mv w0 mb { e with data := dat, dirty := true } line out w' := by
 obtain ⟨W1, hE, hb1, hI1⟩ := alloc_new w (.cells #[I k, I l, true, kp, dat.a, dat.b, dat.c, dat.d, dat.e, dat.f, dat.g, dat.h] 253)
 have c1 := AA hI1
 have G := Vw (h.below hb1)
 clear h hb1 hI1
 obtain ⟨S, hS, hS2⟩ := id G.out
 have c := AA hS
 unfold Bq at c
 have f := AJ hS
 have hlt := AF hS
 clear hS hS2
 go_enter func326, ntmps326
 go_wp2_with fail
 go_end0
 exact ⟨rfl, (G.out.put (e' := { e with data := dat }) (Ln.cells dat) 2 (fun S => by kernel_rfl)).put (e' := { e with data := dat, dirty := true }) [.bool true] 1 (fun S => by kernel_rfl)⟩
theorem Nb (k l : Int) (kp : Bool) (dat : Ln) {w0 : World} {mb : Nat} {e : Ent} {line : Int} {out : List Send} (w : World) (h : Mv w0 mb e line out w) : Y 326 #[mb, .agg #[I k, I l, false, kp, dat.a, dat.b, dat.c, dat.d, dat.e, dat.f, dat.g, dat.h]] w fun r w' => r = Z (.tuple #[]) ∧ Mv w0 mb e line out w' := by
 obtain ⟨W1, hE, hb1, hI1⟩ := alloc_new w (.cells #[I k, I l, false, kp, dat.a, dat.b, dat.c, dat.d, dat.e, dat.f, dat.g, dat.h] 253)
 have c1 := AA hI1
 have G := Vw (h.below hb1)
 clear h hb1 hI1
 obtain ⟨S, hS, hS2⟩ := id G.out
 have c := AA hS
 unfold Bq at c
 have f := AJ hS
 have hlt := AF hS
 clear hS hS2
 go_enter func326, ntmps326
 go_wp2_with fail
 go_end0
 exact ⟨rfl, G.out⟩
theorem FG (m : Msg) {w0 : World} {mb : Nat} {e : Ent} {line : Int} {out : List Send} (w : World) (h : Mv w0 mb e line out w) : Y 326 #[mb, .agg m.cells] w fun r w' => r = Z (.tuple #[]) ∧ Mv w0 mb (FC e m) line out w' := by
 obtain ⟨k, l, dd, kp, dat⟩ := m
 cases dd
 · exact Nb k l kp dat w h
 · exact PL k l kp dat w h
theorem GU {w0 : World} {mb : Nat} {e : Ent} {line : Int} {out : List Send} (ho : (AK e.owner || e.owner == -1) = true) (w : World) (h : Mv w0 mb e line out w) : Y 404 #[mb] w fun r w' => r = Z (.int .u8 (Df e)) ∧ Mv w0 mb e line out w' := by
 have G := Vw h
 clear h
 have hb := Cu e.owner ho
 obtain ⟨S, hS, hS2⟩ := id G.out
 have c := AA hS
 unfold Bq at c
 have f := AJ hS
 have hlt := AF hS
 clear hS hS2
 go_enter func404, ntmps404
 go_wp2_with fail
 go_region_with (first | (go_at_call 325; refine (hb _).mono ?_; rintro r w1 ⟨rfl, rfl⟩))
 all_goals
  go_wp2_with fail
  go_ret
  exact ⟨rfl, G.out.below (Below.refl _ _).drew⟩
theorem TL (busy by_ kind : Int) (k8 : (kind == 8 || kind == 9 || kind == 10) = false) {w0 : World} {mb : Nat} {e : Ent} {line : Int} {out : List Send} (hl : out.length < 900) (w : World) (h : Mv w0 mb e line out w) : Y 403 #[mb, I busy, I by_, .int .u8 1, I kind] w fun r w' => r = Z (.tuple #[]) ∧ Mv w0 mb (Cz e line busy by_ 1 kind).1 line (out ++ (Cz e line busy by_ 1 kind).2) w' := by
 have G := Vw h
 clear h
 have hc := Is 1 (by decide)
 obtain ⟨S, hS, hS2⟩ := id G.out
 have c := AA hS
 unfold Bq at c
 have f := AJ hS
 have hlt := AF hS
 clear hS hS2
 go_enter func403, ntmps403
 go_wp2_with fail
 replace G := Vw (((G.out.put (e' := { e with busy := busy }) [I busy] 12 (fun S => by kernel_rfl)).put (e' := { e with busy := busy, who := by_ }) [I by_] 13 (fun S => by kernel_rfl)).put (e' := (Cz e line busy by_ 1 kind).1) [.int .u8 1] 14 (fun S => by kernel_rfl))
 refine (hc _).mono ?_
 rintro r w1 ⟨X, rfl, hX, _, hb1⟩
 replace G := Vw (G.out.below hb1)
 obtain ⟨g, off, AV, cs, rfl, hg, h1, h2, h3⟩ := hX.lies (by decide)
 have e0 : w1.cell? ⟨g, off, none⟩ = I 0 := AD hg off (h3 0 _ rfl)
 have hlen : (CQ 1 8).length = 1 := rfl
 rw [hlen]
 clear hX hg h1 h2 h3 hc c f hlt
 go_wp2_with fail
 refine wp_loop_rounds 2 ?_
 rw [rounds_succ]
 go_wp2_with fail
 refine (DX w0 mb _ line out 0 kind (by omega) _ G.out).mono ?_
 rintro r w2 ⟨rfl, g2⟩
 have HG := Vw g2
 clear g2
 go_wp2_with fail
 rw [rounds_succ]
 go_wp2_with fail
 go_end0
 refine ⟨rfl, ?_⟩
 have hm : FB (Cz e line busy by_ 1 kind).1 kind line = Bu kind line := by simp [FB, k8, Bu]
 have := HG.out
 rw [hm] at this
 exact this
theorem TK (busy by_ kind : Int) (k8 : (kind == 8 || kind == 9 || kind == 10) = false) {w0 : World} {mb : Nat} {e : Ent} {line : Int} {out : List Send} (hl : out.length < 900) (w : World) (h : Mv w0 mb e line out w) : Y 403 #[mb, I busy, I by_, .int .u8 2, I kind] w fun r w' => r = Z (.tuple #[]) ∧ Mv w0 mb (Cz e line busy by_ 2 kind).1 line (out ++ (Cz e line busy by_ 2 kind).2) w' := by
 have G := Vw h
 clear h
 have hc := Is 2 (by decide)
 obtain ⟨S, hS, hS2⟩ := id G.out
 have c := AA hS
 unfold Bq at c
 have f := AJ hS
 have hlt := AF hS
 clear hS hS2
 go_enter func403, ntmps403
 go_wp2_with fail
 replace G := Vw (((G.out.put (e' := { e with busy := busy }) [I busy] 12 (fun S => by kernel_rfl)).put (e' := { e with busy := busy, who := by_ }) [I by_] 13 (fun S => by kernel_rfl)).put (e' := (Cz e line busy by_ 2 kind).1) [.int .u8 2] 14 (fun S => by kernel_rfl))
 refine (hc _).mono ?_
 rintro r w1 ⟨X, rfl, hX, _, hb1⟩
 replace G := Vw (G.out.below hb1)
 obtain ⟨g, off, AV, cs, rfl, hg, h1, h2, h3⟩ := hX.lies (by decide)
 have e0 : w1.cell? ⟨g, off, none⟩ = I 1 := AD hg off (h3 0 _ rfl)
 have hlen : (CQ 2 8).length = 1 := rfl
 rw [hlen]
 clear hX hg h1 h2 h3 hc c f hlt
 go_wp2_with fail
 refine wp_loop_rounds 2 ?_
 rw [rounds_succ]
 go_wp2_with fail
 refine (DX w0 mb _ line out 1 kind (by omega) _ G.out).mono ?_
 rintro r w2 ⟨rfl, g2⟩
 have HG := Vw g2
 clear g2
 go_wp2_with fail
 rw [rounds_succ]
 go_wp2_with fail
 go_end0
 refine ⟨rfl, ?_⟩
 have hm : FB (Cz e line busy by_ 2 kind).1 kind line = Bu kind line := by simp [FB, k8, Bu]
 have := HG.out
 rw [hm] at this
 exact this
theorem Iq (cs busy by_ kind : Int) (hcs : KM cs = true) (k8 : (kind == 8 || kind == 9 || kind == 10) = false) {w0 : World} {mb : Nat} {e : Ent} {line : Int} {out : List Send} (hl : out.length < 900) (w : World) (h : Mv w0 mb e line out w) : Y 403 #[mb, I busy, I by_, .int .u8 cs, I kind] w fun r w' => r = Z (.tuple #[]) ∧ Mv w0 mb (Cz e line busy by_ cs kind).1 line (out ++ (Cz e line busy by_ cs kind).2) w' := by
 simp only [KM, Bool.or_eq_true, beq_iff_eq] at hcs
 rcases hcs with rfl | rfl
 · exact TL busy by_ kind k8 hl w h
 · exact TK busy by_ kind k8 hl w h
theorem Ng (by_ : Int) (m : Msg) {w0 : World} {mb : Nat} {e : Ent} {line : Int} {out : List Send} (hl : out.length < 900) (ho : e.owner = -1) (hs : e.share = 0) (w : World) (h : Mv w0 mb e line out w) : Y 378 #[mb, I by_, .agg m.cells] w fun r w' => r = Z (.tuple #[]) ∧ Mv w0 mb (FO e line by_ 9).1 line (out ++ (FO e line by_ 9).2) w' := by
 simp only [Msg.cells]
 obtain ⟨W1, hE, hb1, hI1⟩ := alloc_new w (.cells m 253)
 have c1 := AA hI1
 have HI := Vw hI1
 have G := Vw (h.below hb1)
 clear h hb1 hI1
 obtain ⟨S, hS, hS2⟩ := id G.out
 have c := AA hS
 unfold Bq at c
 have f := AJ hS
 have hlt := AF hS
 clear hS hS2
 go_enter func378, ntmps378
 go_wp2_with fail
 refine (Gw by_ 9 hl _ G.out).mono ?_
 rintro r w1 ⟨rfl, g⟩
 go_wp2_with fail
 go_end0
 exact ⟨rfl, g⟩
theorem PP (by_ : Int) (m : Msg) {w0 : World} {mb : Nat} {e : Ent} {line : Int} {out : List Send} (hl : out.length < 900) (ho : (AK e.owner || e.owner == -1) = true) (hby : AK by_ = true) (hq : bits .andNot .u8 (Df e) (Ax by_) = 0) (w : World) (h : Mv w0 mb e line out w) : Y 379 #[mb, I by_, .agg m.cells] w fun r w' => r = Z (.tuple #[]) ∧ Mv w0 mb (FO e line by_ 10).1 line (out ++ (FO e line by_ 10).2) w' := by
 simp only [Msg.cells]
 obtain ⟨W1, hE, hb1, hI1⟩ := alloc_new w (.cells m 253)
 have c1 := AA hI1
 have HI := Vw hI1
 have G := Vw (h.below hb1)
 clear h hb1 hI1
 have hb := Cu by_ (by rw [hby]; rfl)
 go_enter func379, ntmps379
 go_wp2_with fail
 refine (GU ho _ G.out).mono ?_
 rintro r w1 ⟨rfl, g⟩
 replace G := Vw g
 clear g c1
 go_wp2_with fail
 refine (hb _).mono ?_
 rintro r w2 ⟨rfl, rfl⟩
 go_wp2_with fail
 refine (Gw by_ 10 hl _ G.out).mono ?_
 rintro r w3 ⟨rfl, g⟩
 go_wp2_with fail
 refine bodyPost_ret (results_none rfl _ _ _) rfl ?_
 exact ⟨rfl, g⟩
theorem Qq (by_ : Int) (m : Msg) {w0 : World} {mb : Nat} {e : Ent} {line : Int} {out : List Send} (hl : out.length < 900) (ho : (AK e.owner || e.owner == -1) = true) (hby : AK by_ = true) (q : Int) (hq : bits .andNot .u8 (Df e) (Ax by_) = q) (hq1 : KM q = true) (hq0 : (q == 0) = false) (w : World) (h : Mv w0 mb e line out w) : Y 379 #[mb, I by_, .agg m.cells] w fun r w' => r = Z (.tuple #[]) ∧ Mv w0 mb (Cz e line 2 by_ q 12).1 line (out ++ (Cz e line 2 by_ q 12).2) w' := by
 simp only [Msg.cells]
 obtain ⟨W1, hE, hb1, hI1⟩ := alloc_new w (.cells m 253)
 have c1 := AA hI1
 have HI := Vw hI1
 have G := Vw (h.below hb1)
 clear h hb1 hI1
 have hb := Cu by_ (by rw [hby]; rfl)
 go_enter func379, ntmps379
 go_wp2_with fail
 refine (GU ho _ G.out).mono ?_
 rintro r w1 ⟨rfl, g⟩
 replace G := Vw g
 clear g c1
 go_wp2_with fail
 refine (hb _).mono ?_
 rintro r w2 ⟨rfl, rfl⟩
 go_wp2_with fail
 refine (Iq q 2 by_ 12 hq1 rfl hl _ G.out).mono ?_
 rintro r w3 ⟨rfl, g⟩
 go_wp2_with fail
 go_end0
 exact ⟨rfl, g⟩
theorem Nd (by_ : Int) (m : Msg) {w0 : World} {mb : Nat} {e : Ent} {line : Int} {out : List Send} (hl : out.length < 900) (ho : e.owner = by_) (w : World) (h : Mv w0 mb e line out w) : Y 380 #[mb, I by_, .agg m.cells] w fun r w' => r = Z (.tuple #[]) ∧ Mv w0 mb (FC { e with owner := -1 } m) line (out ++ [⟨by_, Bu 11 line⟩]) w' := by
 simp only [Msg.cells]
 obtain ⟨W1, hE, hb1, hI1⟩ := alloc_new w (.cells m 253)
 have c1 := AA hI1
 have HI := Vw hI1
 have G := Vw (h.below hb1)
 clear h hb1 hI1
 obtain ⟨S, hS, hS2⟩ := id G.out
 have c := AA hS
 unfold Bq at c
 have f := AJ hS
 have hlt := AF hS
 clear hS hS2
 have hne : mb ≠ w.heap.size := by
  obtain ⟨S, hS, _⟩ := G.out
  exact AG hS HI.out (by decide)
 have hne2 := Ne.symm hne
 go_enter func380, ntmps380
 go_wp2_with fail
 replace HI := Vw ((Vz _ ⟨mb, 10, none⟩ (I (-1)) w.heap.size (Ne.symm hne)).trans HI.out)
 replace G := Vw (G.out.put (e' := { e with owner := -1 }) [I (-1)] 10 (fun S => by kernel_rfl))
 refine (FG m _ G.out).mono ?_
 rintro r w1 ⟨rfl, g⟩
 replace G := Vw g
 clear g c c1 f
 go_wp2_with fail
 refine (DX w0 mb _ line out by_ 11 (by omega) _ G.out).mono ?_
 rintro r w2 ⟨rfl, g⟩
 go_wp2_with fail
 go_end0
 exact ⟨rfl, g⟩
theorem Nc (by_ : Int) (m : Msg) {w0 : World} {mb : Nat} {e : Ent} {line : Int} {out : List Send} (hl : out.length < 900) (ho : ¬ e.owner = by_) (hby : AK by_ = true) (w : World) (h : Mv w0 mb e line out w) : Y 380 #[mb, I by_, .agg m.cells] w fun r w' => r = Z (.tuple #[]) ∧ Mv w0 mb { e with share := Ca e.share (Ax by_) } line (out ++ [⟨by_, Bu 11 line⟩]) w' := by
 simp only [Msg.cells]
 obtain ⟨W1, hE, hb1, hI1⟩ := alloc_new w (.cells m 253)
 have c1 := AA hI1
 have HI := Vw hI1
 have G := Vw (h.below hb1)
 clear h hb1 hI1
 obtain ⟨S, hS, hS2⟩ := id G.out
 have c := AA hS
 unfold Bq at c
 have f := AJ hS
 have hlt := AF hS
 clear hS hS2
 have hb := Cu by_ (by rw [hby]; rfl)
 go_enter func380, ntmps380
 go_wp2_with fail
 go_region_with (first | (go_at_call 325; refine (hb _).mono ?_; rintro r w1 ⟨rfl, rfl⟩))
 all_goals
  go_wp2_with fail
  replace G := Vw ((G.out.put (e' := { e with share := Ca e.share (Ax by_) }) [.int .u8 (Ca e.share (Ax by_))] 11 (fun S => by kernel_rfl)).below (Below.refl _ _).drew)
  refine (DX w0 mb _ line out by_ 11 (by omega) _ G.out).mono ?_
  rintro r w2 ⟨rfl, g⟩
  go_wp2_with fail
  go_end0
  exact ⟨rfl, g⟩
theorem MT (by_ : Int) (m : Msg) {w0 : World} {mb : Nat} {e : Ent} {line : Int} {out : List Send} (hl : out.length < 900) (ho : AK e.owner = true) (w : World) (h : Mv w0 mb e line out w) : Y 381 #[mb, I by_, .agg m.cells] w fun r w' => r = Z (.tuple #[]) ∧ Mv w0 mb (Cz e line 4 by_ (Ax e.owner) 13).1 line (out ++ (Cz e line 4 by_ (Ax e.owner) 13).2) w' := by
 simp only [Msg.cells]
 obtain ⟨W1, hE, hb1, hI1⟩ := alloc_new w (.cells m 253)
 have c1 := AA hI1
 have HI := Vw hI1
 have G := Vw (h.below hb1)
 clear h hb1 hI1
 obtain ⟨S, hS, hS2⟩ := id G.out
 have c := AA hS
 unfold Bq at c
 have f := AJ hS
 have hlt := AF hS
 clear hS hS2
 have hb := Cu e.owner (by rw [ho]; rfl)
 have h1 : KM (Ax e.owner) = true := by
  simp only [AK, Bool.or_eq_true, beq_iff_eq] at ho
  rcases ho with h | h <;> rw [h] <;> rfl
 go_enter func381, ntmps381
 go_wp2_with fail
 refine (hb _).mono ?_
 rintro r w1 ⟨rfl, rfl⟩
 go_wp2_with fail
 refine (Iq (Ax e.owner) 4 by_ 13 h1 rfl hl _ G.out).mono ?_
 rintro r w2 ⟨rfl, g⟩
 go_wp2_with fail
 go_end0
 exact ⟨rfl, g⟩
theorem GK (n : Int) (h : AK n = true) (w : World) : Y 319 #[I n] w fun e w' => e = Z (.bool true) ∧ w = w' := by
 simp only [AK, Bool.or_eq_true, beq_iff_eq] at h
 rcases h with rfl | rfl
 all_goals
  go_enter func319, ntmps319
  go_wp2_with fail
  go_ret
  exact ⟨rfl, rfl⟩
theorem EN {B : Nat} {a w : World} (h : Below B a w) (n : Nat) : Below B a (w.drewN n) := ⟨h.os, h.tape, h.output, h.size, h.block⟩
theorem Ee {e : Ent} (h : e.good = true) : e.here = true ∧ (AK e.owner || e.owner == -1) = true ∧ (0 ≤ e.owner → e.share = 0) ∧ bits .andNot .u8 e.wait (bits .or .u8 e.share (Ax e.owner)) = 0 ∧
 (e.busy = 0 ∧ e.who = 0 ∧ e.wait = 0 ∨ (e.busy = 1 ∨ e.busy = 2) ∧ AK e.who = true ∧ (e.wait == 0) = false ∨ e.busy = 4 ∧ AK e.who = true) := by
 simp only [Ent.good, Bool.and_eq_true] at h
 obtain ⟨⟨⟨⟨⟨⟨h1, h2⟩, h3⟩, h4⟩, h5⟩, h6⟩, h7⟩ := h
 refine ⟨h1, h2, fun h0 => ?_, by simpa [Ca, Lj] using h6, ?_⟩
 · simp at h5
   rcases h5 with h | h
   · omega
   · exact h
 · by_cases b0 : e.busy = 0
   · left
     simp [b0] at h7
     exact ⟨b0, h7⟩
   · by_cases b1 : e.busy = 1 ∨ e.busy = 2
     · right; left
       have : (e.busy == 0) = false := by simp [b0]
       have h2 : (e.busy == 1 || e.busy == 2) = true := by simpa using b1
       simp only [this, h2, Bool.false_eq_true, if_false, if_true, Bool.and_eq_true] at h7
       exact ⟨b1, h7.1, by simpa using h7.2⟩
     · right; right
       have : (e.busy == 0) = false := by simp [b0]
       have h2 : (e.busy == 1 || e.busy == 2) = false := by simpa using b1
       simp only [this, h2, Bool.false_eq_true, if_false, Bool.and_eq_true, beq_iff_eq] at h7
       exact h7
theorem dgoodX :
  (∀ (e : Ent) (hh : e.here = true) (ho : (AK e.owner || e.owner == -1) = true) (hs : 0 ≤ e.owner → e.share = 0) (hx : bits .andNot .u8 e.wait (bits .or .u8 e.share (Ax e.owner)) = 0) (hb : e.busy = 0) (hw : e.who = 0) (ht : e.wait = 0) (w : World), Y 318 #[.agg e.cells.toArray] w fun r w' => r = Z (.bool true) ∧ Below w w w') ∧
  (∀ (e : Ent) (hh : e.here = true) (ho : (AK e.owner || e.owner == -1) = true) (hs : 0 ≤ e.owner → e.share = 0) (hx : bits .andNot .u8 e.wait (bits .or .u8 e.share (Ax e.owner)) = 0) (hb : e.busy = 1) (hw : AK e.who = true) (ht : (e.wait == 0) = false) (w : World), Y 318 #[.agg e.cells.toArray] w fun r w' => r = Z (.bool true) ∧ Below w w w') ∧
  (∀ (e : Ent) (hh : e.here = true) (ho : (AK e.owner || e.owner == -1) = true) (hs : 0 ≤ e.owner → e.share = 0) (hx : bits .andNot .u8 e.wait (bits .or .u8 e.share (Ax e.owner)) = 0) (hb : e.busy = 2) (hw : AK e.who = true) (ht : (e.wait == 0) = false) (w : World), Y 318 #[.agg e.cells.toArray] w fun r w' => r = Z (.bool true) ∧ Below w w w') ∧
  (∀ (e : Ent) (hh : e.here = true) (ho : (AK e.owner || e.owner == -1) = true) (hs : 0 ≤ e.owner → e.share = 0) (hx : bits .andNot .u8 e.wait (bits .or .u8 e.share (Ax e.owner)) = 0) (hb : e.busy = 4) (hw : AK e.who = true) (w : World), Y 318 #[.agg e.cells.toArray] w fun r w' => r = Z (.bool true) ∧ Below w w w') := by
 refine ⟨?m0, ?m1, ?m2, ?m3⟩
 case' m0 =>
  intro e hh ho hs hx hb hw ht w
  have mk_0 := trivial
 case' m1 =>
  intro e hh ho hs hx hb hw ht w
  have mk_1 := trivial
 case' m2 =>
  intro e hh ho hs hx hb hw ht w
  have mk_2 := trivial
 case' m3 =>
  intro e hh ho hs hx hb hw w
  have mk_3 := trivial
 all_goals
  have hbit := Cu e.owner ho
  have ho1 : ¬ e.owner < -1 := by simp [AK] at ho; omega
  have ho2 : ¬ 8 ≤ e.owner := by simp [AK] at ho; omega
  obtain ⟨here, dirty, data, owner, share, busy, who, wait⟩ := e
  first
   | guard_hyp mk_3
     simp only at hh ho hs hx hbit ho1 ho2 hb hw
   | simp only at hh ho hs hx hbit ho1 ho2 hb hw ht
  subst hh
  first
   | guard_hyp mk_0
     subst hb hw ht
   | subst hb
  have fin : ∀ o : Obj, Below w w (w.alloc o) := fun o => AC w o
  first
   | guard_hyp mk_1
     show Y 318 #[.agg #[true, dirty, data.a, data.b, data.c, data.d, data.e, data.f, data.g, data.h, I owner, .int .u8 share, I 1, I who, .int .u8 wait]] w _
     have hI1 := AE w (.cells #[true, dirty, data.a, data.b, data.c, data.d, data.e, data.f, data.g, data.h, I owner, .int .u8 share, I 1, I who, .int .u8 wait] 114)
     have hb1 := AC w (.cells #[true, dirty, data.a, data.b, data.c, data.d, data.e, data.f, data.g, data.h, I owner, .int .u8 share, I 1, I who, .int .u8 wait] 114)
     obtain ⟨W1, hE⟩ := ex_ (w.alloc (.cells #[true, dirty, data.a, data.b, data.c, data.d, data.e, data.f, data.g, data.h, I owner, .int .u8 share, I 1, I who, .int .u8 wait] 114))
   | guard_hyp mk_2
     show Y 318 #[.agg #[true, dirty, data.a, data.b, data.c, data.d, data.e, data.f, data.g, data.h, I owner, .int .u8 share, I 2, I who, .int .u8 wait]] w _
     have hI1 := AE w (.cells #[true, dirty, data.a, data.b, data.c, data.d, data.e, data.f, data.g, data.h, I owner, .int .u8 share, I 2, I who, .int .u8 wait] 114)
     have hb1 := AC w (.cells #[true, dirty, data.a, data.b, data.c, data.d, data.e, data.f, data.g, data.h, I owner, .int .u8 share, I 2, I who, .int .u8 wait] 114)
     obtain ⟨W1, hE⟩ := ex_ (w.alloc (.cells #[true, dirty, data.a, data.b, data.c, data.d, data.e, data.f, data.g, data.h, I owner, .int .u8 share, I 2, I who, .int .u8 wait] 114))
   | guard_hyp mk_3
     show Y 318 #[.agg #[true, dirty, data.a, data.b, data.c, data.d, data.e, data.f, data.g, data.h, I owner, .int .u8 share, I 4, I who, .int .u8 wait]] w _
     have hI1 := AE w (.cells #[true, dirty, data.a, data.b, data.c, data.d, data.e, data.f, data.g, data.h, I owner, .int .u8 share, I 4, I who, .int .u8 wait] 114)
     have hb1 := AC w (.cells #[true, dirty, data.a, data.b, data.c, data.d, data.e, data.f, data.g, data.h, I owner, .int .u8 share, I 4, I who, .int .u8 wait] 114)
     obtain ⟨W1, hE⟩ := ex_ (w.alloc (.cells #[true, dirty, data.a, data.b, data.c, data.d, data.e, data.f, data.g, data.h, I owner, .int .u8 share, I 4, I who, .int .u8 wait] 114))
   | show Y 318 #[.agg #[true, dirty, data.a, data.b, data.c, data.d, data.e, data.f, data.g, data.h, I owner, .int .u8 share, I 0, I 0, .int .u8 0]] w _
     have hI1 := AE w (.cells #[true, dirty, data.a, data.b, data.c, data.d, data.e, data.f, data.g, data.h, I owner, .int .u8 share, I 0, I 0, .int .u8 0] 114)
     have hb1 := AC w (.cells #[true, dirty, data.a, data.b, data.c, data.d, data.e, data.f, data.g, data.h, I owner, .int .u8 share, I 0, I 0, .int .u8 0] 114)
     obtain ⟨W1, hE⟩ := ex_ (w.alloc (.cells #[true, dirty, data.a, data.b, data.c, data.d, data.e, data.f, data.g, data.h, I owner, .int .u8 share, I 0, I 0, .int .u8 0] 114))
  rw [hE] at hI1 hb1
  have HB := Vw hb1
  have c := AA hI1
  first
   | guard_hyp mk_0
     have hx0 : 0 ≤ owner → bits .andNot .u8 0 (bits .or .u8 0 (Ax owner)) = 0 := fun h => by have := hs h; subst this; exact hx
   | have hx0 : 0 ≤ owner → bits .andNot .u8 wait (bits .or .u8 0 (Ax owner)) = 0 := fun h => by have := hs h; subst this; exact hx
  clear hb1 hI1 fin
  go_enter func318, ntmps318
  go_wp2_with fail
  all_goals
   go_quiet (first | (go_at_call 325; refine (hbit _).mono ?_; rintro r w1 ⟨rfl, rfl⟩; exact ⟨rfl, _, rfl⟩))
   go_wp2_with fail
   first
    | guard_hyp mk_0
    | refine (GK who hw _).mono ?_
      rintro r w2 ⟨rfl, rfl⟩
      go_wp2_with fail
   go_ret
   first
    | guard_hyp mk_0
      exact ⟨rfl, EN HB.out nq⟩
    | guard_hyp mk_3
      exact ⟨rfl, EN HB.out nq⟩
    | exact ⟨by simp [bne, *] <;> rfl, EN HB.out nq⟩
theorem Gx (e : Ent) (h : e.good = true) (w : World) : Y 318 #[.agg e.cells.toArray] w fun r w' => r = Z (.bool true) ∧ Below w w w' := by
 obtain ⟨h1, h2, h3, h4, h5⟩ := Ee h
 rcases h5 with ⟨b, c, d⟩ | ⟨b | b, c, d⟩ | ⟨b, c⟩
 · exact dgoodX.1 e h1 h2 h3 h4 b c d w
 · exact dgoodX.2.1 e h1 h2 h3 h4 b c d w
 · exact dgoodX.2.2.1 e h1 h2 h3 h4 b c d w
 · exact dgoodX.2.2.2 e h1 h2 h3 h4 b c w
theorem Gv {l : Ln} (h : l.eqz = true) : l = Ln.zero := by
 obtain ⟨a, b, c, d, e, f, g, i⟩ := l
 simp [Ln.eqz] at h
 obtain ⟨⟨⟨⟨⟨⟨⟨rfl, rfl⟩, rfl⟩, rfl⟩, rfl⟩, rfl⟩, rfl⟩, rfl⟩ := h
 rfl
theorem Jm {e : Ent} (h : e.isEmpty = true) : e = Ent.empty := by
 obtain ⟨here, dirty, data, owner, share, busy, who, wait⟩ := e
 simp only [Ent.isEmpty, Bool.and_eq_true, Bool.not_eq_true', beq_iff_eq] at h
 obtain ⟨⟨⟨⟨⟨⟨⟨rfl, rfl⟩, hd⟩, rfl⟩, rfl⟩, rfl⟩, rfl⟩, rfl⟩ := h
 rw [Gv hd]
 rfl
theorem PO (w : World) : Y 318 #[.agg Ent.empty.cells.toArray] w fun r w' => r = Z (.bool true) ∧ Below w w w' := by
 have hbit := Cu (-1) (by decide)
 have hbits : bits .andNot .u8 0 (bits .or .u8 0 0) = 0 := by kernel_rfl
 have hbits1 : bits .or .u8 0 0 = 0 := by kernel_rfl
 have hbits2 : bits .andNot .u8 0 0 = 0 := by kernel_rfl
 have hz := MP
 simp only [zL] at hz
 have hb0 : Ax (-1) = 0 := rfl
 rw [hb0] at hbit
 show Y 318 #[.agg KG] w _
 have hI1 := AE w (.cells KG 114)
 have hb1 := AC w (.cells KG 114)
 obtain ⟨W1, hE⟩ := ex_ (w.alloc (.cells KG 114))
 rw [hE] at hI1 hb1
 have HB := Vw hb1
 have c := AA hI1
 clear hb1 hI1
 go_enter func318, ntmps318
 go_wp2_with fail
 go_quiet (first | (go_at_call 325; refine (hbit _).mono ?_; rintro r w1 ⟨rfl, rfl⟩; exact ⟨rfl, _, rfl⟩))
 go_wp2_with fail
 go_ret
 exact ⟨rfl, EN HB.out nq⟩
theorem Nf (e : Ent) (h : (e.good || e.isEmpty) = true) (w : World) : Y 318 #[.agg e.cells.toArray] w fun r w' => r = Z (.bool true) ∧ Below w w w' := by
 cases hg : e.good
 · rw [hg] at h
   rw [Jm (e := e) (by simpa using h)]
   exact PO w
 · exact Gx e hg w
theorem VY {e : Ent} (h : (e.good || e.isEmpty) = true) : ¬ e.busy = 5 := by
 intro h5
 cases hg : e.good
 · rw [hg] at h
   rw [Jm (e := e) (by simpa using h)] at h5
   simp [Ent.empty] at h5
 · obtain ⟨_, _, _, _, hb⟩ := Ee hg
   omega
theorem Fm (e : Ent) (h : (e.good || e.isEmpty) = true) (w : World) : Y 275 #[.agg e.cells.toArray] w fun r w' => r = Z (.bool (De e)) ∧ Below w w w' := by
 have h5 := VY h
 have hg := Nf e h
 simp only [Ent.cells] at hg
 show Y 275 #[.agg e] w _
 have hI1 := AE w (.cells e 114)
 have hb1 := AC w (.cells e 114)
 obtain ⟨W1, hE⟩ := ex_ (w.alloc (.cells e 114))
 rw [hE] at hI1 hb1
 have HB := Vw hb1
 have HI := Vw hI1
 have c := AA hI1
 clear hb1 hI1
 go_enter func275, ntmps275
 go_wp2_with fail
 refine (hg _).mono ?_
 rintro r w2 ⟨rfl, hb2⟩
 replace c := AA (AB hb2 HI.out)
 replace HB := Vw (HB.out.trans (hb2.mono HB.out.size))
 clear hE hb2
 go_wp2_with fail
 all_goals
  go_ret
  exact ⟨by simp [De, *] <;> rfl, HB.out⟩
theorem Nh (w : World) : Y 322 #[] w fun r w' => r = Z (.agg #[.nilFunc, .func (.func 378) #[] #[], .func (.func 379) #[] #[], .func (.func 380) #[] #[], .func (.func 381) #[] #[], .func (.func 382) #[] #[]]) ∧ Below w w w' := by
 go_enter func322, ntmps322
 go_wp2_with fail
 refine bodyPost_ret (v := .agg #[.nilFunc, .func (.func 378) #[] #[], .func (.func 379) #[] #[], .func (.func 380) #[] #[], .func (.func 381) #[] #[], .func (.func 382) #[] #[]]) (by simp [results, results322, go_sem]) rfl ⟨rfl, AC _ _⟩
theorem CB (m : Msg) (h : BJ m = true) (w : World) : Y 320 #[.agg m.cells] w fun e w' => e = Z (.bool true) ∧ Below w w w' := by
 obtain ⟨k, l, dd, kp, dat⟩ := m
 simp only [BJ, Bool.and_eq_true, decide_eq_true_eq] at h
 obtain ⟨⟨h0, h1⟩, h2⟩ := h
 by_cases a1 : (k == 1 || k == 2 || k == 4 || k == 11 || k == 12 || k == 13 || k == 14) = true
 · rw [if_pos a1] at h2
   simp at h2 a1
   obtain ⟨⟨rfl, rfl⟩, h3⟩ := h2
   rw [Gv h3]
   exact Oj k l (by omega) h0 h1 w
 · rw [if_neg a1] at h2
   by_cases a2 : (k == 3 || k == 6) = true
   · rw [if_pos a2] at h2
     simp at h2 a2
     obtain ⟨rfl, h3⟩ := h2
     cases dd
     · simp at h3
       rw [Gv h3]
       exact NU k l a2 h0 h1 w
     · exact NT k l a2 dat h0 h1 w
   · rw [if_neg a2] at h2
     by_cases a3 : (k == 7) = true
     · rw [if_pos a3] at h2
       simp at h2 a3
       cases dd
       · simp at h2
         rw [Gv h2]
         exact QI k l kp a3 h0 h1 w
       · exact RX k l kp a3 dat h0 h1 w
     · rw [if_neg a3] at h2
       simp at h2
       obtain ⟨⟨h3, rfl⟩, rfl⟩ := h2
       exact Ok k l (by omega) dat h0 h1 w
theorem As {b : Bool} {α : Type} {f : Unit → Option α} {r : α} (h : (BK b).bind f = some r) : b = true ∧ f () = some r := by
 unfold BK at h
 cases b
 · simp at h
 · exact ⟨rfl, by simpa using h⟩
theorem Mv.bel {w0 : World} {mb : Nat} {e : Ent} {line : Int} {out : List Send} {w : World} (h : Mv w0 mb e line out w) : Below w0 w0 w := by
 obtain ⟨_, _, _, _, _, h⟩ := h
 exact h
theorem Ox (m n : Int) (hm : LH m = true) (hn : AK n = true) (w : World) : Y 324 #[.int .u8 m, I n] w fun e w' => e = Z (.bool (MJ m n)) ∧ w = w' := by
 simp only [LH, Bool.or_eq_true, beq_iff_eq] at hm
 simp only [AK, Bool.or_eq_true, beq_iff_eq] at hn
 exact Ke m n (by omega) (by omega) (by omega) w
end Go.Proofs.YtkoplblbeapfgaaGreatDoor
