/-
Parts of the walk of TopEnds. Conditions stand in each statement.
-/
import Derived.RangeFuncBound
import Derived.RangeFuncCalls
import Derived.RangeFuncLeaves
import Derived.RangeFuncFrom
import Derived.Shelf.Abstract
import Derived.Test.YtkoplblbeapfgaaGreatDoorX10
import Derived.Test.YtkoplblbeapfgaaGreatDoorX11
import Derived.Test.YtkoplblbeapfgaaGreatDoorX46
namespace Go.Proofs.YtkoplblbeapfgaaGreatDoor
open Go.RowKit
open Tryz
set_option linter.all false
set_option maxRecDepth 100000
set_option maxHeartbeats 8000000
def qo (i : Int) (f : Nat) : Nat := (if (i == 0) = true then 0 else 4) + f
def Node.q (n : Node) : Nat → List Msg
 | 1 => n.up
 | 2 => n.ans
 | _ => n.down
def Node.setq (n : Node) (l : List Msg) : Nat → Node
 | 1 => { n with up := l }
 | 2 => { n with ans := l }
 | _ => { n with down := l }
def Sys.q (s : Sys) (i : Int) (f : Nat) : List Msg := (s.node i).q f
def Sys.setq (s : Sys) (i : Int) (f : Nat) (l : List Msg) : Sys := s.setNode i ((s.node i).setq l f)
def Sys.setArr (s : Sys) (i : Int) (a : Arr) : Sys := s.setNode i { s.node i with arr := a }
def SL.g (L : SL) (i : Int) : Nat := if (i == 0) = true then L.g0 else L.g1
theorem Aa {i : Int} (h : AK i = true) : i = 0 ∨ i = 1 := by
 unfold AK at h
 simpa using h
theorem Ew {f : Nat} (h : 1 ≤ f ∧ f ≤ 3) : f = 1 ∨ f = 2 ∨ f = 3 := by omega
theorem CG {w : World} {v v' : Value} (h : v'.ownBlock = v.ownBlock) : Bf w v v' := .inl h
theorem JS (T0 : Nat → Nat) (w0 : World) (L : SL) (s : Sys) (i : Int) (f : Nat) (m : Msg) (hi : AK i = true) (hf : 1 ≤ f ∧ f ≤ 3) (hm : BJ m = true) (hl : (s.q i f).length < 1000) (w : World) (h : Sy T0 w0 L s w) :
 Y 274 #[.pointer (some ⟨L.nb, qo i f, none⟩), .agg m.cells] w fun e w' => e = Z (I 0) ∧ Sy T0 w0 L (s.setq i f (s.q i f ++ [m])) w' := by
 obtain ⟨T, V, h, hb, hc⟩ := h
 rcases Aa hi with rfl | rfl <;> rcases Ew hf with rfl | rfl | rfl
 · refine (DW L.nb 1 (BB L V) 183 V.u0 m s.n0.up w ⟨h.nodes, rfl, h.ru0, by decide⟩ hl (fun w => CB m hm w)).mono ?_
   rintro e w' ⟨rfl, v', hq, hmv, hp⟩
   have hp' : Ad (fun n => n == 2 || n == 13) T w w' := hp.mono fun k hk ha => by
    simp only [Bool.or_eq_false_iff, beq_eq_false_iff_ne] at ha
    exact ⟨fun e => ha.1 (by rw [e]; exact h.tnb), fun e => ha.2 (h.tu0 k e.symm)⟩
   exact ⟨rfl, Sy.step (s := s) (s' := s.setq 0 1 (s.n0.up ++ [m])) hb hc (h.set_u0 hp' (hq.1.trans (by kernel_rfl)) (by simpa using hq.2.2.1) hmv) (fun k hk => BA hmv h.tu0 h.low hk) hp' (fun n hn => by simp only [Bool.or_eq_true, beq_iff_eq] at hn; rcases hn with rfl | rfl <;> rfl)⟩
 · refine (DW L.nb 2 (BB L V) 183 V.s0 m s.n0.ans w ⟨h.nodes, rfl, h.rs0, by decide⟩ hl (fun w => CB m hm w)).mono ?_
   rintro e w' ⟨rfl, v', hq, hmv, hp⟩
   have hp' : Ad (fun n => n == 2 || n == 14) T w w' := hp.mono fun k hk ha => by
    simp only [Bool.or_eq_false_iff, beq_eq_false_iff_ne] at ha
    exact ⟨fun e => ha.1 (by rw [e]; exact h.tnb), fun e => ha.2 (h.ts0 k e.symm)⟩
   exact ⟨rfl, Sy.step (s := s) (s' := s.setq 0 2 (s.n0.ans ++ [m])) hb hc (h.set_s0 hp' (hq.1.trans (by kernel_rfl)) (by simpa using hq.2.2.1) hmv) (fun k hk => BA hmv h.ts0 h.low hk) hp' (fun n hn => by simp only [Bool.or_eq_true, beq_iff_eq] at hn; rcases hn with rfl | rfl <;> rfl)⟩
 · refine (DW L.nb 3 (BB L V) 183 V.d0 m s.n0.down w ⟨h.nodes, rfl, h.rd0, by decide⟩ hl (fun w => CB m hm w)).mono ?_
   rintro e w' ⟨rfl, v', hq, hmv, hp⟩
   have hp' : Ad (fun n => n == 2 || n == 15) T w w' := hp.mono fun k hk ha => by
    simp only [Bool.or_eq_false_iff, beq_eq_false_iff_ne] at ha
    exact ⟨fun e => ha.1 (by rw [e]; exact h.tnb), fun e => ha.2 (h.td0 k e.symm)⟩
   exact ⟨rfl, Sy.step (s := s) (s' := s.setq 0 3 (s.n0.down ++ [m])) hb hc (h.set_d0 hp' (hq.1.trans (by kernel_rfl)) (by simpa using hq.2.2.1) hmv) (fun k hk => BA hmv h.td0 h.low hk) hp' (fun n hn => by simp only [Bool.or_eq_true, beq_iff_eq] at hn; rcases hn with rfl | rfl <;> rfl)⟩
 · refine (DW L.nb 5 (BB L V) 183 V.u1 m s.n1.up w ⟨h.nodes, rfl, h.ru1, by decide⟩ hl (fun w => CB m hm w)).mono ?_
   rintro e w' ⟨rfl, v', hq, hmv, hp⟩
   have hp' : Ad (fun n => n == 2 || n == 16) T w w' := hp.mono fun k hk ha => by
    simp only [Bool.or_eq_false_iff, beq_eq_false_iff_ne] at ha
    exact ⟨fun e => ha.1 (by rw [e]; exact h.tnb), fun e => ha.2 (h.tu1 k e.symm)⟩
   exact ⟨rfl, Sy.step (s := s) (s' := s.setq 1 1 (s.n1.up ++ [m])) hb hc (h.set_u1 hp' (hq.1.trans (by kernel_rfl)) (by simpa using hq.2.2.1) hmv) (fun k hk => BA hmv h.tu1 h.low hk) hp' (fun n hn => by simp only [Bool.or_eq_true, beq_iff_eq] at hn; rcases hn with rfl | rfl <;> rfl)⟩
 · refine (DW L.nb 6 (BB L V) 183 V.s1 m s.n1.ans w ⟨h.nodes, rfl, h.rs1, by decide⟩ hl (fun w => CB m hm w)).mono ?_
   rintro e w' ⟨rfl, v', hq, hmv, hp⟩
   have hp' : Ad (fun n => n == 2 || n == 17) T w w' := hp.mono fun k hk ha => by
    simp only [Bool.or_eq_false_iff, beq_eq_false_iff_ne] at ha
    exact ⟨fun e => ha.1 (by rw [e]; exact h.tnb), fun e => ha.2 (h.ts1 k e.symm)⟩
   exact ⟨rfl, Sy.step (s := s) (s' := s.setq 1 2 (s.n1.ans ++ [m])) hb hc (h.set_s1 hp' (hq.1.trans (by kernel_rfl)) (by simpa using hq.2.2.1) hmv) (fun k hk => BA hmv h.ts1 h.low hk) hp' (fun n hn => by simp only [Bool.or_eq_true, beq_iff_eq] at hn; rcases hn with rfl | rfl <;> rfl)⟩
 · refine (DW L.nb 7 (BB L V) 183 V.d1 m s.n1.down w ⟨h.nodes, rfl, h.rd1, by decide⟩ hl (fun w => CB m hm w)).mono ?_
   rintro e w' ⟨rfl, v', hq, hmv, hp⟩
   have hp' : Ad (fun n => n == 2 || n == 18) T w w' := hp.mono fun k hk ha => by
    simp only [Bool.or_eq_false_iff, beq_eq_false_iff_ne] at ha
    exact ⟨fun e => ha.1 (by rw [e]; exact h.tnb), fun e => ha.2 (h.td1 k e.symm)⟩
   exact ⟨rfl, Sy.step (s := s) (s' := s.setq 1 3 (s.n1.down ++ [m])) hb hc (h.set_d1 hp' (hq.1.trans (by kernel_rfl)) (by simpa using hq.2.2.1) hmv) (fun k hk => BA hmv h.td1 h.low hk) hp' (fun n hn => by simp only [Bool.or_eq_true, beq_iff_eq] at hn; rcases hn with rfl | rfl <;> rfl)⟩
theorem OR (T0 : Nat → Nat) (w0 : World) (L : SL) (s : Sys) (i : Int) (f : Nat) (m : Msg) (l : List Msg) (hi : AK i = true) (hf : 1 ≤ f ∧ f ≤ 3) (hl : s.q i f = m :: l) (w : World) (h : Sy T0 w0 L s w) :
 Y 270 #[.pointer (some ⟨L.nb, qo i f, none⟩)] w fun e w' => e = Z (.tuple #[.agg m.cells, true]) ∧ Sy T0 w0 L (s.setq i f l) w' := by
 obtain ⟨T, V, h, hb, hc⟩ := h
 rcases Aa hi with rfl | rfl <;> rcases Ew hf with rfl | rfl | rfl
 · change s.n0.up = m :: l at hl
   refine (EQ L.nb 1 (BB L V) 183 V.u0 m l w ⟨h.nodes, rfl, hl ▸ h.ru0, by decide⟩).mono ?_
   rintro e w' ⟨rfl, v', hq, hmv, hp⟩
   have hp' : Ad (fun n => n == 2 || n == 13) T w w' := hp.mono fun k hk ha => by
    simp only [Bool.or_eq_false_iff, beq_eq_false_iff_ne] at ha
    exact fun e => ha.1 (by rw [e]; exact h.tnb)
   exact ⟨rfl, Sy.step (s := s) (s' := s.setq 0 1 l) hb hc (h.set_u0 hp' (hq.1.trans (by kernel_rfl)) hq.2.2.1 (CG hmv)) (fun k hk => BA (CG hmv) h.tu0 h.low hk) hp' (fun n hn => by simp only [Bool.or_eq_true, beq_iff_eq] at hn; rcases hn with rfl | rfl <;> rfl)⟩
 · change s.n0.ans = m :: l at hl
   refine (EQ L.nb 2 (BB L V) 183 V.s0 m l w ⟨h.nodes, rfl, hl ▸ h.rs0, by decide⟩).mono ?_
   rintro e w' ⟨rfl, v', hq, hmv, hp⟩
   have hp' : Ad (fun n => n == 2 || n == 14) T w w' := hp.mono fun k hk ha => by
    simp only [Bool.or_eq_false_iff, beq_eq_false_iff_ne] at ha
    exact fun e => ha.1 (by rw [e]; exact h.tnb)
   exact ⟨rfl, Sy.step (s := s) (s' := s.setq 0 2 l) hb hc (h.set_s0 hp' (hq.1.trans (by kernel_rfl)) hq.2.2.1 (CG hmv)) (fun k hk => BA (CG hmv) h.ts0 h.low hk) hp' (fun n hn => by simp only [Bool.or_eq_true, beq_iff_eq] at hn; rcases hn with rfl | rfl <;> rfl)⟩
 · change s.n0.down = m :: l at hl
   refine (EQ L.nb 3 (BB L V) 183 V.d0 m l w ⟨h.nodes, rfl, hl ▸ h.rd0, by decide⟩).mono ?_
   rintro e w' ⟨rfl, v', hq, hmv, hp⟩
   have hp' : Ad (fun n => n == 2 || n == 15) T w w' := hp.mono fun k hk ha => by
    simp only [Bool.or_eq_false_iff, beq_eq_false_iff_ne] at ha
    exact fun e => ha.1 (by rw [e]; exact h.tnb)
   exact ⟨rfl, Sy.step (s := s) (s' := s.setq 0 3 l) hb hc (h.set_d0 hp' (hq.1.trans (by kernel_rfl)) hq.2.2.1 (CG hmv)) (fun k hk => BA (CG hmv) h.td0 h.low hk) hp' (fun n hn => by simp only [Bool.or_eq_true, beq_iff_eq] at hn; rcases hn with rfl | rfl <;> rfl)⟩
 · change s.n1.up = m :: l at hl
   refine (EQ L.nb 5 (BB L V) 183 V.u1 m l w ⟨h.nodes, rfl, hl ▸ h.ru1, by decide⟩).mono ?_
   rintro e w' ⟨rfl, v', hq, hmv, hp⟩
   have hp' : Ad (fun n => n == 2 || n == 16) T w w' := hp.mono fun k hk ha => by
    simp only [Bool.or_eq_false_iff, beq_eq_false_iff_ne] at ha
    exact fun e => ha.1 (by rw [e]; exact h.tnb)
   exact ⟨rfl, Sy.step (s := s) (s' := s.setq 1 1 l) hb hc (h.set_u1 hp' (hq.1.trans (by kernel_rfl)) hq.2.2.1 (CG hmv)) (fun k hk => BA (CG hmv) h.tu1 h.low hk) hp' (fun n hn => by simp only [Bool.or_eq_true, beq_iff_eq] at hn; rcases hn with rfl | rfl <;> rfl)⟩
 · change s.n1.ans = m :: l at hl
   refine (EQ L.nb 6 (BB L V) 183 V.s1 m l w ⟨h.nodes, rfl, hl ▸ h.rs1, by decide⟩).mono ?_
   rintro e w' ⟨rfl, v', hq, hmv, hp⟩
   have hp' : Ad (fun n => n == 2 || n == 17) T w w' := hp.mono fun k hk ha => by
    simp only [Bool.or_eq_false_iff, beq_eq_false_iff_ne] at ha
    exact fun e => ha.1 (by rw [e]; exact h.tnb)
   exact ⟨rfl, Sy.step (s := s) (s' := s.setq 1 2 l) hb hc (h.set_s1 hp' (hq.1.trans (by kernel_rfl)) hq.2.2.1 (CG hmv)) (fun k hk => BA (CG hmv) h.ts1 h.low hk) hp' (fun n hn => by simp only [Bool.or_eq_true, beq_iff_eq] at hn; rcases hn with rfl | rfl <;> rfl)⟩
 · change s.n1.down = m :: l at hl
   refine (EQ L.nb 7 (BB L V) 183 V.d1 m l w ⟨h.nodes, rfl, hl ▸ h.rd1, by decide⟩).mono ?_
   rintro e w' ⟨rfl, v', hq, hmv, hp⟩
   have hp' : Ad (fun n => n == 2 || n == 18) T w w' := hp.mono fun k hk ha => by
    simp only [Bool.or_eq_false_iff, beq_eq_false_iff_ne] at ha
    exact fun e => ha.1 (by rw [e]; exact h.tnb)
   exact ⟨rfl, Sy.step (s := s) (s' := s.setq 1 3 l) hb hc (h.set_d1 hp' (hq.1.trans (by kernel_rfl)) hq.2.2.1 (CG hmv)) (fun k hk => BA (CG hmv) h.td1 h.low hk) hp' (fun n hn => by simp only [Bool.or_eq_true, beq_iff_eq] at hn; rcases hn with rfl | rfl <;> rfl)⟩
theorem JT (T0 : Nat → Nat) (w0 : World) (L : SL) (s : Sys) (i : Int) (f : Nat) (hi : AK i = true) (hf : 1 ≤ f ∧ f ≤ 3) (hl : s.q i f = []) (w : World) (h : Sy T0 w0 L s w) :
 Y 270 #[.pointer (some ⟨L.nb, qo i f, none⟩)] w fun e w' => e = Z (.tuple #[.agg (Msg.mk 0 0 false false Ln.zero).cells, false]) ∧ Sy T0 w0 L s w' := by
 have H := h
 obtain ⟨T, V, h, hb, hc⟩ := h
 rcases Aa hi with rfl | rfl <;> rcases Ew hf with rfl | rfl | rfl
 · change s.n0.up = [] at hl
   refine (EP L.nb 1 (BB L V) 183 V.u0 w ⟨h.nodes, rfl, hl ▸ h.ru0, by decide⟩).mono ?_
   rintro e w' ⟨rfl, hb⟩
   exact ⟨rfl, H.below hb⟩
 · change s.n0.ans = [] at hl
   refine (EP L.nb 2 (BB L V) 183 V.s0 w ⟨h.nodes, rfl, hl ▸ h.rs0, by decide⟩).mono ?_
   rintro e w' ⟨rfl, hb⟩
   exact ⟨rfl, H.below hb⟩
 · change s.n0.down = [] at hl
   refine (EP L.nb 3 (BB L V) 183 V.d0 w ⟨h.nodes, rfl, hl ▸ h.rd0, by decide⟩).mono ?_
   rintro e w' ⟨rfl, hb⟩
   exact ⟨rfl, H.below hb⟩
 · change s.n1.up = [] at hl
   refine (EP L.nb 5 (BB L V) 183 V.u1 w ⟨h.nodes, rfl, hl ▸ h.ru1, by decide⟩).mono ?_
   rintro e w' ⟨rfl, hb⟩
   exact ⟨rfl, H.below hb⟩
 · change s.n1.ans = [] at hl
   refine (EP L.nb 6 (BB L V) 183 V.s1 w ⟨h.nodes, rfl, hl ▸ h.rs1, by decide⟩).mono ?_
   rintro e w' ⟨rfl, hb⟩
   exact ⟨rfl, H.below hb⟩
 · change s.n1.down = [] at hl
   refine (EP L.nb 7 (BB L V) 183 V.d1 w ⟨h.nodes, rfl, hl ▸ h.rd1, by decide⟩).mono ?_
   rintro e w' ⟨rfl, hb⟩
   exact ⟨rfl, H.below hb⟩
theorem NF (T0 : Nat → Nat) (w0 : World) (L : SL) (s : Sys) (i : Int) (f : Nat) (hi : AK i = true) (hf : 1 ≤ f ∧ f ≤ 3) (hl : s.q i f = []) (w : World) (h : Sy T0 w0 L s w) :
 Y 267 #[.pointer (some ⟨L.nb, qo i f, none⟩)] w fun e w' => e = Z (.tuple #[.agg (Msg.mk 0 0 false false Ln.zero).cells, false]) ∧ Sy T0 w0 L s w' := by
 have H := h
 obtain ⟨T, V, h, hb, hc⟩ := h
 rcases Aa hi with rfl | rfl <;> rcases Ew hf with rfl | rfl | rfl
 · change s.n0.up = [] at hl
   refine (DO L.nb 1 (BB L V) 183 V.u0 w ⟨h.nodes, rfl, hl ▸ h.ru0, by decide⟩).mono ?_
   rintro e w' ⟨rfl, hb⟩
   exact ⟨rfl, H.below hb⟩
 · change s.n0.ans = [] at hl
   refine (DO L.nb 2 (BB L V) 183 V.s0 w ⟨h.nodes, rfl, hl ▸ h.rs0, by decide⟩).mono ?_
   rintro e w' ⟨rfl, hb⟩
   exact ⟨rfl, H.below hb⟩
 · change s.n0.down = [] at hl
   refine (DO L.nb 3 (BB L V) 183 V.d0 w ⟨h.nodes, rfl, hl ▸ h.rd0, by decide⟩).mono ?_
   rintro e w' ⟨rfl, hb⟩
   exact ⟨rfl, H.below hb⟩
 · change s.n1.up = [] at hl
   refine (DO L.nb 5 (BB L V) 183 V.u1 w ⟨h.nodes, rfl, hl ▸ h.ru1, by decide⟩).mono ?_
   rintro e w' ⟨rfl, hb⟩
   exact ⟨rfl, H.below hb⟩
 · change s.n1.ans = [] at hl
   refine (DO L.nb 6 (BB L V) 183 V.s1 w ⟨h.nodes, rfl, hl ▸ h.rs1, by decide⟩).mono ?_
   rintro e w' ⟨rfl, hb⟩
   exact ⟨rfl, H.below hb⟩
 · change s.n1.down = [] at hl
   refine (DO L.nb 7 (BB L V) 183 V.d1 w ⟨h.nodes, rfl, hl ▸ h.rd1, by decide⟩).mono ?_
   rintro e w' ⟨rfl, hb⟩
   exact ⟨rfl, H.below hb⟩
theorem Pp (T0 : Nat → Nat) (w0 : World) (L : SL) (s : Sys) (i : Int) (f : Nat) (m : Msg) (l : List Msg) (hi : AK i = true) (hf : 1 ≤ f ∧ f ≤ 3) (hl : s.q i f = m :: l) (w : World) (h : Sy T0 w0 L s w) :
 Y 267 #[.pointer (some ⟨L.nb, qo i f, none⟩)] w fun e w' => e = Z (.tuple #[.agg m.cells, true]) ∧ Sy T0 w0 L s w' := by
 have H := h
 obtain ⟨T, V, h, hb, hc⟩ := h
 rcases Aa hi with rfl | rfl <;> rcases Ew hf with rfl | rfl | rfl
 · change s.n0.up = m :: l at hl
   refine (DP L.nb 1 (BB L V) 183 V.u0 m l w ⟨h.nodes, rfl, hl ▸ h.ru0, by decide⟩).mono ?_
   rintro e w' ⟨rfl, hb⟩
   exact ⟨rfl, H.below hb⟩
 · change s.n0.ans = m :: l at hl
   refine (DP L.nb 2 (BB L V) 183 V.s0 m l w ⟨h.nodes, rfl, hl ▸ h.rs0, by decide⟩).mono ?_
   rintro e w' ⟨rfl, hb⟩
   exact ⟨rfl, H.below hb⟩
 · change s.n0.down = m :: l at hl
   refine (DP L.nb 3 (BB L V) 183 V.d0 m l w ⟨h.nodes, rfl, hl ▸ h.rd0, by decide⟩).mono ?_
   rintro e w' ⟨rfl, hb⟩
   exact ⟨rfl, H.below hb⟩
 · change s.n1.up = m :: l at hl
   refine (DP L.nb 5 (BB L V) 183 V.u1 m l w ⟨h.nodes, rfl, hl ▸ h.ru1, by decide⟩).mono ?_
   rintro e w' ⟨rfl, hb⟩
   exact ⟨rfl, H.below hb⟩
 · change s.n1.ans = m :: l at hl
   refine (DP L.nb 6 (BB L V) 183 V.s1 m l w ⟨h.nodes, rfl, hl ▸ h.rs1, by decide⟩).mono ?_
   rintro e w' ⟨rfl, hb⟩
   exact ⟨rfl, H.below hb⟩
 · change s.n1.down = m :: l at hl
   refine (DP L.nb 7 (BB L V) 183 V.d1 m l w ⟨h.nodes, rfl, hl ▸ h.rd1, by decide⟩).mono ?_
   rintro e w' ⟨rfl, hb⟩
   exact ⟨rfl, H.below hb⟩
theorem OT (T0 : Nat → Nat) (w0 : World) (L : SL) (s : Sys) (i : Int) (f : Nat) (hi : AK i = true) (hf : 1 ≤ f ∧ f ≤ 3) (hl : (s.q i f).length < 1000) (w : World) (h : Sy T0 w0 L s w) :
 Y 72 #[.pointer (some ⟨L.nb, qo i f, none⟩)] w fun e w' => ∃ S, e = Z S ∧ AH w' 253 12 S (s.q i f).length (Ao (s.q i f)) ∧ (∀ k, S.ownBlock = some k → w.heap.size ≤ k) ∧ Below w w w' := by
 obtain ⟨T, V, h, hb, hc⟩ := h
 rcases Aa hi with rfl | rfl <;> rcases Ew hf with rfl | rfl | rfl
 · exact Dm L.nb 1 (BB L V) 183 V.u0 s.n0.up hl w ⟨h.nodes, rfl, h.ru0, by decide⟩
 · exact Dm L.nb 2 (BB L V) 183 V.s0 s.n0.ans hl w ⟨h.nodes, rfl, h.rs0, by decide⟩
 · exact Dm L.nb 3 (BB L V) 183 V.d0 s.n0.down hl w ⟨h.nodes, rfl, h.rd0, by decide⟩
 · exact Dm L.nb 5 (BB L V) 183 V.u1 s.n1.up hl w ⟨h.nodes, rfl, h.ru1, by decide⟩
 · exact Dm L.nb 6 (BB L V) 183 V.s1 s.n1.ans hl w ⟨h.nodes, rfl, h.rs1, by decide⟩
 · exact Dm L.nb 7 (BB L V) 183 V.d1 s.n1.down hl w ⟨h.nodes, rfl, h.rd1, by decide⟩
theorem To (T0 : Nat → Nat) (w0 : World) (L : SL) (s : Sys) (i : Int) (hi : AK i = true) (line word : Int) (h0 : 0 ≤ line) (h1 : line < 64) (k0 : 0 ≤ word) (k1 : word < 8) (a' : Arr) (v : Int) (hit : Bool) (l : List Msg) (hr : IN (s.node i).arr line word = some (a', v, hit, l)) (w : World) (h : Sy T0 w0 L s w) :
 Y 398 #[.pointer (some ⟨L.g i, 0, none⟩), I line, I word] w fun e w' => ∃ S, e = Z (.tuple #[v, hit, S]) ∧ AH w' 253 12 S l.length (Ao l) ∧ Sy T0 w0 L (s.setArr i a') w' := by
 obtain ⟨T, V, h, hb, hc⟩ := h
 rcases Aa hi with rfl | rfl
 · refine (Ik L.g0 L.a0 L.l0 s.n0.arr line word h0 h1 k0 k1 a' v hit l hr w ⟨h.ag0, h.arr0⟩).mono ?_
   rintro e w' ⟨S, rfl, hr1, hr2, hr3, hp⟩
   have hp' : Ad (fun n => n == 9 || n == 11) T w w' := hp.mono fun k hk ha => by
    simp only [Bool.or_eq_false_iff, beq_eq_false_iff_ne] at ha
    exact ⟨fun e => ha.1 (by rw [e]; exact h.ta0), fun e => ha.2 (by rw [e]; exact h.tl0)⟩
   exact ⟨S, rfl, hr1, Sy.step (s := s) (s' := s.setArr 0 a') hb hc (h.setArr0 hp' hr3.2) (fun _ _ => rfl) hp' (fun n hn => by simp only [Bool.or_eq_true, beq_iff_eq] at hn; rcases hn with rfl | rfl <;> rfl)⟩
 · refine (Ik L.g1 L.a1 L.l1 s.n1.arr line word h0 h1 k0 k1 a' v hit l hr w ⟨h.ag1, h.arr1⟩).mono ?_
   rintro e w' ⟨S, rfl, hr1, hr2, hr3, hp⟩
   have hp' : Ad (fun n => n == 10 || n == 12) T w w' := hp.mono fun k hk ha => by
    simp only [Bool.or_eq_false_iff, beq_eq_false_iff_ne] at ha
    exact ⟨fun e => ha.1 (by rw [e]; exact h.ta1), fun e => ha.2 (by rw [e]; exact h.tl1)⟩
   exact ⟨S, rfl, hr1, Sy.step (s := s) (s' := s.setArr 1 a') hb hc (h.setArr1 hp' hr3.2) (fun _ _ => rfl) hp' (fun n hn => by simp only [Bool.or_eq_true, beq_iff_eq] at hn; rcases hn with rfl | rfl <;> rfl)⟩
theorem Sl (T0 : Nat → Nat) (w0 : World) (L : SL) (s : Sys) (i : Int) (hi : AK i = true) (line word v : Int) (h0 : 0 ≤ line) (h1 : line < 64) (k0 : 0 ≤ word) (k1 : word < 8) (a' : Arr) (hit : Bool) (l : List Msg) (hr : GQ (s.node i).arr line word v = some (a', hit, l)) (w : World) (h : Sy T0 w0 L s w) :
 Y 314 #[.pointer (some ⟨L.g i, 0, none⟩), I line, I word, v] w fun e w' => ∃ S, e = Z (.tuple #[hit, S]) ∧ AH w' 253 12 S l.length (Ao l) ∧ Sy T0 w0 L (s.setArr i a') w' := by
 obtain ⟨T, V, h, hb, hc⟩ := h
 rcases Aa hi with rfl | rfl
 · refine (IF L.g0 L.a0 L.l0 s.n0.arr line word v h0 h1 k0 k1 a' hit l hr w ⟨h.ag0, h.arr0⟩).mono ?_
   rintro e w' ⟨S, rfl, hr1, hr2, hr3, hp⟩
   have hp' : Ad (fun n => n == 9 || n == 11) T w w' := hp.mono fun k hk ha => by
    simp only [Bool.or_eq_false_iff, beq_eq_false_iff_ne] at ha
    exact ⟨fun e => ha.1 (by rw [e]; exact h.ta0), fun e => ha.2 (by rw [e]; exact h.tl0)⟩
   exact ⟨S, rfl, hr1, Sy.step (s := s) (s' := s.setArr 0 a') hb hc (h.setArr0 hp' hr3.2) (fun _ _ => rfl) hp' (fun n hn => by simp only [Bool.or_eq_true, beq_iff_eq] at hn; rcases hn with rfl | rfl <;> rfl)⟩
 · refine (IF L.g1 L.a1 L.l1 s.n1.arr line word v h0 h1 k0 k1 a' hit l hr w ⟨h.ag1, h.arr1⟩).mono ?_
   rintro e w' ⟨S, rfl, hr1, hr2, hr3, hp⟩
   have hp' : Ad (fun n => n == 10 || n == 12) T w w' := hp.mono fun k hk ha => by
    simp only [Bool.or_eq_false_iff, beq_eq_false_iff_ne] at ha
    exact ⟨fun e => ha.1 (by rw [e]; exact h.ta1), fun e => ha.2 (by rw [e]; exact h.tl1)⟩
   exact ⟨S, rfl, hr1, Sy.step (s := s) (s' := s.setArr 1 a') hb hc (h.setArr1 hp' hr3.2) (fun _ _ => rfl) hp' (fun n hn => by simp only [Bool.or_eq_true, beq_iff_eq] at hn; rcases hn with rfl | rfl <;> rfl)⟩
theorem Sm (T0 : Nat → Nat) (w0 : World) (L : SL) (s : Sys) (i : Int) (hi : AK i = true) (line : Int) (h0 : 0 ≤ line) (h1 : line < 64) (a' : Arr) (l : List Msg) (hr : FJ (s.node i).arr line = some (a', l)) (w : World) (h : Sy T0 w0 L s w) :
 Y 374 #[.pointer (some ⟨L.g i, 0, none⟩), I line] w fun e w' => ∃ S, e = Z S ∧ AH w' 253 12 S l.length (Ao l) ∧ Sy T0 w0 L (s.setArr i a') w' := by
 obtain ⟨T, V, h, hb, hc⟩ := h
 rcases Aa hi with rfl | rfl
 · refine (Fl L.g0 L.a0 L.l0 s.n0.arr line h0 h1 (a', l) hr w ⟨h.ag0, h.arr0⟩).mono ?_
   rintro e w' ⟨S, rfl, hr1, hr2, hr3, hp⟩
   have hp' : Ad (fun n => n == 9 || n == 11) T w w' := hp.mono fun k hk ha => by
    simp only [Bool.or_eq_false_iff, beq_eq_false_iff_ne] at ha
    exact ⟨fun e => ha.1 (by rw [e]; exact h.ta0), fun e => ha.2 (by rw [e]; exact h.tl0)⟩
   exact ⟨S, rfl, hr1, Sy.step (s := s) (s' := s.setArr 0 a') hb hc (h.setArr0 hp' hr3.2) (fun _ _ => rfl) hp' (fun n hn => by simp only [Bool.or_eq_true, beq_iff_eq] at hn; rcases hn with rfl | rfl <;> rfl)⟩
 · refine (Fl L.g1 L.a1 L.l1 s.n1.arr line h0 h1 (a', l) hr w ⟨h.ag1, h.arr1⟩).mono ?_
   rintro e w' ⟨S, rfl, hr1, hr2, hr3, hp⟩
   have hp' : Ad (fun n => n == 10 || n == 12) T w w' := hp.mono fun k hk ha => by
    simp only [Bool.or_eq_false_iff, beq_eq_false_iff_ne] at ha
    exact ⟨fun e => ha.1 (by rw [e]; exact h.ta1), fun e => ha.2 (by rw [e]; exact h.tl1)⟩
   exact ⟨S, rfl, hr1, Sy.step (s := s) (s' := s.setArr 1 a') hb hc (h.setArr1 hp' hr3.2) (fun _ _ => rfl) hp' (fun n hn => by simp only [Bool.or_eq_true, beq_iff_eq] at hn; rcases hn with rfl | rfl <;> rfl)⟩
theorem Tn (T0 : Nat → Nat) (w0 : World) (L : SL) (s : Sys) (i : Int) (hi : AK i = true) (line : Int) (h0 : 0 ≤ line) (w : World) (h : Sy T0 w0 L s w) :
 Y 373 #[.pointer (some ⟨L.g i, 0, none⟩), I line] w fun e w' => e = Z (.bool ((s.node i).arr.owns line)) ∧ Sy T0 w0 L s w' := by
 have H := h
 obtain ⟨T, V, h, hb, hc⟩ := h
 rcases Aa hi with rfl | rfl
 · refine (Cw L.g0 L.a0 L.l0 s.n0.arr line h0 w ⟨h.ag0, h.arr0⟩).mono ?_
   rintro e w' ⟨rfl, hb⟩
   exact ⟨rfl, H.below hb⟩
 · refine (Cw L.g1 L.a1 L.l1 s.n1.arr line h0 w ⟨h.ag1, h.arr1⟩).mono ?_
   rintro e w' ⟨rfl, hb⟩
   exact ⟨rfl, H.below hb⟩
theorem Sy.agent {T0 : Nat → Nat} {w0 w : World} {L : SL} {s : Sys} (h : Sy T0 w0 L s w) {i : Int} (hi : AK i = true) : w.cell? ⟨L.nb, qo i 0, none⟩ = some (.pointer (some ⟨L.g i, 0, none⟩)) := by
 obtain ⟨T, V, h, hb, hc⟩ := h
 rcases Aa hi with rfl | rfl
 · exact AD h.nodes 0 rfl
 · exact AD h.nodes 4 rfl
theorem Sy.dirp {T0 : Nat → Nat} {w0 w : World} {L : SL} {s : Sys} (h : Sy T0 w0 L s w) : w.cell? ⟨L.sb, 8, none⟩ = some (.slice (some L.db) 5 5) ∧ w.cell? ⟨L.sb, 9, none⟩ = some (.pointer (some L.qb)) := by
 obtain ⟨T, V, h, hb, hc⟩ := h
 exact ⟨AD h.sys 8 rfl, AD h.sys 9 rfl⟩
theorem Gi {α : Type} (d : α) : ∀ (l : List α) (n : Nat), n < l.length → l[n]? = some (BO d l n)
 | [], _, h => absurd h (by simp)
 | x :: l, 0, _ => rfl
 | x :: l, n + 1, h => by
   rw [List.getElem?_cons_succ]
   exact Gi d l n (by simpa using h)
theorem KQ {T : Nat → Nat} {w : World} {L : SL} {V : SV} {s : Sys} (h : SysAt T w L V s) {k : Int} (hk : BQ k = true) : k.toNat < s.dir.length := by
 simp [BQ] at hk
 have := h.dlen
 omega
theorem BD {k : Int} (hk : BQ k = true) : 0 ≤ k ∧ k < 5 := by
 simpa [BQ] using hk
theorem Sy.ent_cell {T0 : Nat → Nat} {w0 w : World} {L : SL} {s : Sys} (h : Sy T0 w0 L s w) {k : Int} (hk : BQ k = true) (i : Nat) (u : Value) (hu : (s.ent k).cells[i]? = some u) : w.cell? ⟨L.db, k.toNat * 15 + i, none⟩ = some u := by
 obtain ⟨T, V, h, hb, hc⟩ := h
 have hi : i < 15 := (List.getElem?_eq_some_iff.1 hu).1
 refine AD h.dir _ ?_
 rw [List.getElem?_toArray, MQ, Eu Ent.cells 15 (fun _ => rfl) s.dir k.toNat (s.ent k) (Gi _ _ _ (KQ h hk)) i hi]
 exact hu
theorem Sy.free {T0 : Nat → Nat} {w0 w : World} {L : SL} {s : Sys} (h : Sy T0 w0 L s w) : (∀ k, w.frozen? ⟨L.db, k, none⟩ = false) ∧ (∀ k, w.frozen? ⟨L.sb, k, none⟩ = false) := by
 obtain ⟨T, V, h, hb, hc⟩ := h
 exact ⟨AJ h.dir, AJ h.sys⟩
theorem Na {α : Type} (f : α → List Value) (size : Nat) (hf : ∀ x, (f x).length = size) (l : List α) (j : Nat) (y : α) (hj : j < l.length) (o : Nat) (vs : List Value) (h1 : o + vs.length ≤ size) (old : α) (hold : l[j]? = some old) (hy : ∀ i, (f y)[i]? = if o ≤ i ∧ i < o + vs.length then vs[i - o]? else (f old)[i]?) :
 EB (l.flatMap f).toArray (j * size + o) vs = ((l.set j y).flatMap f).toArray := by
 have hlen := EM f size hf l
 have hlen2 := EM f size hf (l.set j y)
 have hb : (j + 1) * size ≤ l.length * size := Nat.mul_le_mul_right _ hj
 rw [Nat.succ_mul] at hb
 apply Array.ext_getElem?
 intro k
 rw [EZ _ _ _ _ (by rw [List.size_toArray, hlen]; omega), List.getElem?_toArray, List.getElem?_toArray]
 by_cases hk : j * size ≤ k ∧ k < j * size + size
 · obtain ⟨i, rfl⟩ : ∃ i, k = j * size + i := ⟨k - j * size, by omega⟩
   have hi : i < size := by omega
   rw [Eu f size hf (l.set j y) j y (by simp [hj]) i hi, hy i, Eu f size hf l j old hold i hi]
   by_cases hc : o ≤ i ∧ i < o + vs.length
   · rw [if_pos (by omega), if_pos hc]
     congr 1
     omega
   · rw [if_neg (by omega), if_neg hc]
 · rw [Gt f size hf l j y k hk, if_neg (by omega)]
theorem Sy.put_ent {T0 : Nat → Nat} {w0 w : World} {L : SL} {s : Sys} (h : Sy T0 w0 L s w) {k : Int} (hk : BQ k = true) (y : Ent) (o : Nat) (vs : List Value) (h1 : o + vs.length ≤ 15) (hy : ∀ i, y.cells[i]? = if o ≤ i ∧ i < o + vs.length then vs[i - o]? else (s.ent k).cells[i]?) : Sy T0 w0 L (s.setEnt k y) (w.setCells L.db (k.toNat * 15 + o) vs) := by
 obtain ⟨T, V, h, hb, hc⟩ := h
 have hp' : Ad (fun n => n == 3) T w (w.setCells L.db (k.toNat * 15 + o) vs) := Pres.setCells (g := L.db) (by rw [h.tdb]; simp) vs (Pres.refl _ w) _
 refine Sy.step (s := s) (s' := s.setEnt k y) hb hc (h.setDir hp' (AT vs h.dir _ _ ?_) (by simp [h.dlen])) (fun _ _ => rfl) hp' (fun n hn => by simp only [beq_iff_eq] at hn; subst hn; rfl)
 exact Na Ent.cells 15 (fun _ => rfl) s.dir k.toNat y (KQ h hk) o vs h1 (s.ent k) (Gi _ _ _ (KQ h hk)) hy
theorem Sy.put_all {T0 : Nat → Nat} {w0 w : World} {L : SL} {s : Sys} (h : Sy T0 w0 L s w) {k : Int} (hk : BQ k = true) (y : Ent) : Sy T0 w0 L (s.setEnt k y) (w.setCells L.db (k.toNat * 15) y.cells) := by
 refine h.put_ent hk y 0 y.cells (by simp [Ent.cells]) fun i => ?_
 by_cases hi : i < 15
 · rw [if_pos ⟨Nat.zero_le _, by simpa [Ent.cells] using hi⟩, Nat.sub_zero]
 · rw [if_neg (by simp [Ent.cells]; omega), List.getElem?_eq_none (by simp [Ent.cells]; omega), List.getElem?_eq_none (by simp [Ent.cells]; omega)]
theorem Bi (T0 : Nat → Nat) (w0 : World) (L : SL) (s : Sys) (i : Int) (hi : AK i = true) (w : World) (h : Sy T0 w0 L s w) : Y 71 #[L.sb, I i] w fun e w' => e = Z (.pointer (some ⟨L.nb, qo i 0, none⟩)) ∧ Sy T0 w0 L s w' := by
 obtain ⟨T, V, h, hb, hc⟩ := h
 suffices Y 71 #[L.sb, I i] w fun e w' => e = Z (.pointer (some ⟨L.nb, qo i 0, none⟩)) ∧ ∃ n, w'.heap[L.sb]? = some (.cells (JA L { V with steps := n }) 190) ∧ Pres (fun k => k ≠ L.sb) w w' by
  refine this.mono ?_
  rintro e w' ⟨rfl, n, hn, hp⟩
  have hp' : Ad (fun n => n == 1) T w w' := hp.mono fun k hk ha e => by
   rw [e, h.tsb] at ha
   cases ha
  exact ⟨rfl, Sy.step (s := s) (s' := s) hb hc (h.setSteps hp' hn) (fun _ _ => rfl) hp' (fun n hn => by simp only [beq_iff_eq] at hn; subst hn; rfl)⟩
 have hs := h.sys
 obtain ⟨n, hn⟩ := ex_ (IntKind.i64.wrap (V.steps + 1))
 have hcnt := Dh ⟨L.sb, 10, none⟩ V.steps 1 n hn w (AD hs 10 rfl) (Aq hs 10)
 have hs2 := AI hs 10 (I n)
 have hp := (Pres.refl (fun k => k ≠ L.sb) w).setCell (p := ⟨L.sb, 10, none⟩) (by simp) (I n)
 have c := AA hs
 unfold JA at c
 clear h hn hc hb
 rcases Aa hi with rfl | rfl
 · go_enter func71, ntmps71
   go_wp2_with fail
   refine hcnt.mono ?_
   rintro e w1 ⟨rfl, rfl⟩
   clear c hs hcnt
   generalize w.setCell ⟨L.sb, 10, none⟩ (I n) = W2 at *
   have c2 := AA hs2
   have HX := Vw (WA hs2 hp)
   clear hs2 hp
   simp only [JA] at c2
   have c3 : W2.cell? ⟨L.sb, 7, none⟩ = some (.slice (some L.nb) 2 2) := by rw [c2]; rfl
   clear c2
   go_wp2_with fail
   go_ret
   exact ⟨rfl, n, HX.out.1, HX.out.2⟩
 · go_enter func71, ntmps71
   go_wp2_with fail
   refine hcnt.mono ?_
   rintro e w1 ⟨rfl, rfl⟩
   clear c hs hcnt
   generalize w.setCell ⟨L.sb, 10, none⟩ (I n) = W2 at *
   have c2 := AA hs2
   have HX := Vw (WA hs2 hp)
   clear hs2 hp
   simp only [JA] at c2
   have c3 : W2.cell? ⟨L.sb, 7, none⟩ = some (.slice (some L.nb) 2 2) := by rw [c2]; rfl
   clear c2
   go_wp2_with fail
   go_ret
   exact ⟨rfl, n, HX.out.1, HX.out.2⟩
theorem Cd (T0 : Nat → Nat) (w0 : World) (L : SL) (s : Sys) (line : Int) (hk : BQ line = true) (w : World) (h : Sy T0 w0 L s w) : Y 75 #[L.sb, I line] w fun e w' => e = Z (.bool true) ∧ w = w' := by
 obtain ⟨h0, h1⟩ := BD hk
 have c := h.dirp.1
 clear h hk
 go_enter func75, ntmps75
 go_wp2_with fail
 go_ret
 exact ⟨by simp [h0, h1], rfl⟩
theorem Sy.drew {T0 : Nat → Nat} {w0 w : World} {L : SL} {s : Sys} (h : Sy T0 w0 L s w) : Sy T0 w0 L s w.drew := h.below (Below.refl _ _).drew
theorem RZ (T0 : Nat → Nat) (w0 : World) (L : SL) (s : Sys) (i : Int) (hi : AK i = true) (S : Value) (w : World) (hr : AH w 253 12 S 0 []) (h : Sy T0 w0 L s w) : Y 279 #[.pointer (some ⟨L.nb, qo i 0, none⟩), S] w fun e w' => e = Z (.tuple #[]) ∧ Sy T0 w0 L s w' := by
 obtain ⟨A, AV, rfl⟩ := hr.form
 generalize qo i 0 = o
 clear hr
 have H := Vw h
 clear h
 go_enter func279, ntmps279
 go_wp2_with fail
 refine wp_loop_rounds 1 ?_
 rw [rounds_succ]
 go_wp2_with fail
 go_end0
 exact ⟨rfl, H.out⟩
theorem RY (T0 : Nat → Nat) (w0 : World) (L : SL) (s : Sys) (i : Int) (hi : AK i = true) (m : Msg) (hm : BJ m = true) (hl : (s.q i 1).length < 1000) (S : Value) (w : World) (hr : AH w 253 12 S 1 (Ao [m])) (h : Sy T0 w0 L s w) : Y 279 #[.pointer (some ⟨L.nb, qo i 0, none⟩), S] w fun e w' => e = Z (.tuple #[]) ∧ Sy T0 w0 L (s.setq i 1 (s.q i 1 ++ [m])) w' := by
 obtain ⟨g, off, AV, rfl, hcap, r0, r1, r2, r3, r4, r5, r6, r7, r8, r9, r10, r11⟩ := Gr (l := []) hr
 have hc := Vw (fun w' h' => JS T0 w0 L s i 1 m hi (by decide) hm hl w' h')
 simp only [show qo i 1 = qo i 0 + 1 from rfl, Msg.cells] at hc
 obtain ⟨W1, hE, hb1, hI1⟩ := alloc_new w (.cells m 253)
 have H := Vw (h.below hb1).drew
 have c1 := AA hI1
 generalize qo i 0 = o at *
 clear h hr hI1 hb1
 go_enter func279, ntmps279
 go_wp2_with fail
 refine wp_loop_rounds 2 ?_
 rw [rounds_succ]
 go_wp2_with fail
 go_still_tail 4, (by kernel_rfl)
 change wpList _ _ _ _ _ W1.drew
 generalize W1.drew = W2 at *
 go_wp2_with fail
 refine (hc.out _ H.out).mono ?_
 rintro e w3 ⟨rfl, h3⟩
 have H3 := Vw h3
 clear h3 c1
 go_wp2_with fail
 rw [rounds_succ]
 go_wp2_with fail
 go_end0
 exact ⟨rfl, H3.out⟩
theorem KU (s : Sys) (i : Int) (f : Nat) (hi : AK i = true) (hf : 1 ≤ f ∧ f ≤ 3) : s.setq i f (s.q i f) = s := by
 rcases Aa hi with rfl | rfl <;> rcases Ew hf with rfl | rfl | rfl <;> rfl
theorem FE {q l r : List Msg} (h : Eb q l = some r) : Et l = true ∧ q.length < 900 ∧ r = q ++ l := by
 unfold Eb at h
 split at h
 · rename_i hc
   simp only [Bool.and_eq_true, decide_eq_true_eq] at hc
   simp only [Option.some.injEq] at h
   exact ⟨hc.1.1, hc.1.2, h.symm⟩
 · simp at h
theorem Gj (T0 : Nat → Nat) (w0 : World) (L : SL) (s : Sys) (i : Int) (hi : AK i = true) (l up : List Msg) (hl : l.length ≤ 1) (hp : Eb (s.q i 1) l = some up) (S : Value) (w : World) (hr : AH w 253 12 S l.length (Ao l)) (h : Sy T0 w0 L s w) : Y 279 #[.pointer (some ⟨L.nb, qo i 0, none⟩), S] w fun e w' => e = Z (.tuple #[]) ∧ Sy T0 w0 L (s.setq i 1 up) w' := by
 obtain ⟨h1, h2, rfl⟩ := FE hp
 match l, hl with
 | [], _ => rw [List.append_nil, KU s i 1 hi (by decide)]; exact RZ T0 w0 L s i hi S w hr h
 | [m], _ => exact RY T0 w0 L s i hi m (by simpa [Et] using h1) (by omega) S w hr h
 | _ :: _ :: _, hl => simp at hl
theorem RO {a : Arr} {x : Slot} {r : Arr × List Msg} (h : KL a x = some r) : r.2.length ≤ 1 := by
 unfold KL at h
 split at h <;> (simp only [Option.map_eq_some_iff] at h; obtain ⟨a', _, rfl⟩ := h; exact Nat.le_refl _)
theorem Mj {a : Arr} {line st kind : Int} {l : Ln} {r : Arr × List Msg} (h : GM a line st kind l = some r) : r.2.length ≤ 1 := by
 unfold GM at h
 repeat' split at h
 all_goals first
  | (simp only [Option.map_eq_some_iff] at h; obtain ⟨a', _, rfl⟩ := h; exact Nat.le_refl _)
  | (simp only [Option.some.injEq] at h; subst h; exact Nat.zero_le _)
  | exact RO h
  | simp at h
theorem JY {a : Arr} {line : Int} {r : Arr × List Msg} (h : FJ a line = some r) : r.2.length ≤ 1 := by
 unfold FJ at h
 repeat' split at h
 all_goals first
  | (simp only [Option.some.injEq] at h; subst h; exact Nat.zero_le _)
  | exact Mj h
theorem QO {a : Arr} {line word : Int} {r : Arr × Int × Bool × List Msg} (h : IN a line word = some r) : r.2.2.2.length ≤ 1 := by
 unfold IN at h
 repeat' split at h
 all_goals first
  | (simp only [Option.map_eq_some_iff] at h; obtain ⟨x, hx, rfl⟩ := h; exact Mj hx)
  | (simp only [Option.some.injEq] at h; subst h; exact Nat.zero_le _)
  | simp at h
theorem OQ {a : Arr} {line word v : Int} {r : Arr × Bool × List Msg} (h : GQ a line word v = some r) : r.2.2.length ≤ 1 := by
 unfold GQ at h
 repeat' split at h
 all_goals (simp only [Option.map_eq_some_iff] at h; obtain ⟨x, hx, rfl⟩ := h; first | exact Nat.zero_le _ | exact JY hx)
theorem GZ {k : Int} (hk : LE k = true) : 0 ≤ k ∧ k < 8 := by simpa [LE] using hk
theorem GD (s : Sys) (i : Int) (hi : AK i = true) (a : Arr) (l : List Msg) : (s.setArr i a).setq i 1 l = s.setNode i { s.node i with arr := a, up := l } := by
 rcases Aa hi with rfl | rfl <;> rfl
theorem JC (s : Sys) (i : Int) (hi : AK i = true) (a : Arr) : (s.setArr i a).q i 1 = (s.node i).up := by
 rcases Aa hi with rfl | rfl <;> rfl
theorem FF (T0 : Nat → Nat) (w0 : World) (L : SL) (s : Sys) (i : Int) (hi : AK i = true) (line word v : Int) (hit : Bool) (s' : Sys) (hr : s.load i line word = some (s', v, hit)) (w : World) (h : Sy T0 w0 L s w) : Y 366 #[L.sb, I i, I line, I word] w fun e w' => e = Z (.tuple #[v, hit]) ∧ Sy T0 w0 L s' w' := by
 obtain ⟨hg, hr⟩ := As hr
 simp only [Bool.and_eq_true] at hg
 obtain ⟨⟨_, hk⟩, hw⟩ := hg
 obtain ⟨⟨a', v', hit', l⟩, h1, hr⟩ := Option.bind_eq_some_iff.1 hr
 obtain ⟨up, hup, hr⟩ := Option.bind_eq_some_iff.1 hr
 simp only [Option.some.injEq, Prod.mk.injEq] at hr
 obtain ⟨rfl, rfl, rfl⟩ := hr
 have hat := Vw (Bi T0 w0 L s i hi)
 have hln := Vw (fun w h => Cd T0 w0 L s line hk w h)
 have hag := Vw (fun w h => To T0 w0 L s i hi line word (BD hk).1 (by have := (BD hk).2; omega) (GZ hw).1 (GZ hw).2 a' v' hit' l h1 w h)
 have hmk := Vw (fun S w hr h => Gj T0 w0 L (s.setArr i a') i hi l up (QO h1) (by rw [JC s i hi]; exact hup) S w hr h)
 rw [GD s i hi] at hmk
 have H := Vw h
 clear h
 generalize ho : qo i 0 = o at *
 go_enter func366, ntmps366
 go_wp2_with fail
 refine (hat.out _ H.out).mono ?_
 rintro e w1 ⟨rfl, h1⟩
 have H1 := Vw h1
 have c1 := h1.agent hi
 rw [ho] at c1
 clear h1
 go_wp2_with fail
 refine (hln.out _ H1.out).mono ?_
 rintro e w2 ⟨rfl, rfl⟩
 go_wp2_with fail
 refine (hag.out _ H1.out).mono ?_
 rintro e w3 ⟨S, rfl, hr3, h3⟩
 have H3 := Vw (WA hr3 h3)
 clear hr3 h3
 go_wp2_with fail
 refine (hmk.out _ _ H3.out.1 H3.out.2).mono ?_
 rintro e w4 ⟨rfl, h4⟩
 have H4 := Vw h4
 clear h4
 go_wp2_with fail
 go_ret2
 exact ⟨rfl, H4.out⟩
theorem Fe (T0 : Nat → Nat) (w0 : World) (L : SL) (s : Sys) (i : Int) (hi : AK i = true) (line word v : Int) (hit : Bool) (s' : Sys) (hr : s.store i line word v = some (s', hit)) (w : World) (h : Sy T0 w0 L s w) : Y 262 #[L.sb, I i, I line, I word, v] w fun e w' => e = Z (.bool hit) ∧ Sy T0 w0 L s' w' := by
 obtain ⟨hg, hr⟩ := As hr
 simp only [Bool.and_eq_true] at hg
 obtain ⟨⟨_, hk⟩, hw⟩ := hg
 obtain ⟨⟨a', hit', l⟩, h1, hr⟩ := Option.bind_eq_some_iff.1 hr
 obtain ⟨up, hup, hr⟩ := Option.bind_eq_some_iff.1 hr
 simp only [Option.some.injEq, Prod.mk.injEq] at hr
 obtain ⟨rfl, rfl⟩ := hr
 have hat := Vw (Bi T0 w0 L s i hi)
 have hln := Vw (fun w h => Cd T0 w0 L s line hk w h)
 have hag := Vw (fun w h => Sl T0 w0 L s i hi line word v (BD hk).1 (by have := (BD hk).2; omega) (GZ hw).1 (GZ hw).2 a' hit' l h1 w h)
 have hmk := Vw (fun S w hr h => Gj T0 w0 L (s.setArr i a') i hi l up (OQ h1) (by rw [JC s i hi]; exact hup) S w hr h)
 rw [GD s i hi] at hmk
 have H := Vw h
 clear h
 generalize ho : qo i 0 = o at *
 go_enter func262, ntmps262
 go_wp2_with fail
 refine (hat.out _ H.out).mono ?_
 rintro e w1 ⟨rfl, h1⟩
 have H1 := Vw h1
 have c1 := h1.agent hi
 rw [ho] at c1
 clear h1
 go_wp2_with fail
 refine (hln.out _ H1.out).mono ?_
 rintro e w2 ⟨rfl, rfl⟩
 go_wp2_with fail
 refine (hag.out _ H1.out).mono ?_
 rintro e w3 ⟨S, rfl, hr3, h3⟩
 have H3 := Vw (WA hr3 h3)
 clear hr3 h3
 go_wp2_with fail
 refine (hmk.out _ _ H3.out.1 H3.out.2).mono ?_
 rintro e w4 ⟨rfl, h4⟩
 have H4 := Vw h4
 clear h4
 go_wp2_with fail
 go_ret
 exact ⟨rfl, H4.out⟩
theorem Fg (T0 : Nat → Nat) (w0 : World) (L : SL) (s : Sys) (i : Int) (hi : AK i = true) (line : Int) (hit : Bool) (s' : Sys) (hr : s.reach i line = some (s', hit)) (w : World) (h : Sy T0 w0 L s w) : Y 369 #[L.sb, I i, I line] w fun e w' => e = Z (.bool hit) ∧ Sy T0 w0 L s' w' := by
 obtain ⟨hg, hr⟩ := As hr
 simp only [Bool.and_eq_true] at hg
 obtain ⟨_, hk⟩ := hg
 obtain ⟨⟨a', l⟩, h1, hr⟩ := Option.bind_eq_some_iff.1 hr
 obtain ⟨up, hup, hr⟩ := Option.bind_eq_some_iff.1 hr
 simp only [Option.some.injEq, Prod.mk.injEq] at hr
 obtain ⟨rfl, rfl⟩ := hr
 have how := Vw (fun w h => Tn T0 w0 L (s.setNode i { s.node i with arr := a', up := up }) i hi line (BD hk).1 w h)
 rw [show ((s.setNode i { s.node i with arr := a', up := up }).node i).arr = a' by rcases Aa hi with rfl | rfl <;> rfl] at how
 have hat := Vw (Bi T0 w0 L s i hi)
 have hln := Vw (fun w h => Cd T0 w0 L s line hk w h)
 have hag := Vw (fun w h => Sm T0 w0 L s i hi line (BD hk).1 (by have := (BD hk).2; omega) a' l h1 w h)
 have hmk := Vw (fun S w hr h => Gj T0 w0 L (s.setArr i a') i hi l up (JY h1) (by rw [JC s i hi]; exact hup) S w hr h)
 rw [GD s i hi] at hmk
 have H := Vw h
 clear h
 generalize ho : qo i 0 = o at *
 go_enter func369, ntmps369
 go_wp2_with fail
 refine (hat.out _ H.out).mono ?_
 rintro e w1 ⟨rfl, h1⟩
 have H1 := Vw h1
 have c1 := h1.agent hi
 rw [ho] at c1
 clear h1
 go_wp2_with fail
 refine (hln.out _ H1.out).mono ?_
 rintro e w2 ⟨rfl, rfl⟩
 go_wp2_with fail
 refine (hag.out _ H1.out).mono ?_
 rintro e w3 ⟨S, rfl, hr3, h3⟩
 have H3 := Vw (WA hr3 h3)
 clear hr3 h3
 go_wp2_with fail
 refine (hmk.out _ _ H3.out.1 H3.out.2).mono ?_
 rintro e w4 ⟨rfl, h4⟩
 have H4 := Vw h4
 clear h4
 have c4 := H4.out.agent hi
 rw [ho] at c4
 go_wp2_with fail
 refine (how.out _ H4.out).mono ?_
 rintro e w5 ⟨rfl, h5⟩
 replace H4 := Vw h5
 go_wp2_with fail
 go_ret
 exact ⟨rfl, H4.out⟩
theorem Lw (T0 : Nat → Nat) (w0 : World) (L : SL) (s : Sys) (i : Int) (hi : AK i = true) (line : Int) (s' : Sys) (hr : s.flush i line = some s') (w : World) (h : Sy T0 w0 L s w) : Y 315 #[L.sb, I i, I line, I 4] w fun e w' => e = Z (I 0) ∧ Sy T0 w0 L s' w' := by
 obtain ⟨hg, hr⟩ := As hr
 simp only [Bool.and_eq_true] at hg
 obtain ⟨_, hk⟩ := hg
 obtain ⟨up, hup, hr⟩ := Option.bind_eq_some_iff.1 hr
 simp only [Option.some.injEq] at hr
 subst hr
 obtain ⟨hm, hl, rfl⟩ := FE hup
 have hat := Vw (Bi T0 w0 L s i hi)
 have hln := Vw (fun w h => Cd T0 w0 L s line hk w h)
 have hpu := Vw (fun w h => JS T0 w0 L s i 1 (Bu 4 line) hi (by decide) (by simpa [Et] using hm) (show (s.node i).up.length < 1000 by omega) w h)
 simp only [show qo i 1 = qo i 0 + 1 from rfl, Msg.cells, Bu, Ln.zero] at hpu
 have H := Vw h
 clear h
 generalize ho : qo i 0 = o at *
 go_enter func315, ntmps315
 go_wp2_with fail
 refine (hat.out _ H.out).mono ?_
 rintro e w1 ⟨rfl, h1⟩
 have H1 := Vw h1
 clear h1
 go_wp2_with fail
 refine (hln.out _ H1.out).mono ?_
 rintro e w2 ⟨rfl, rfl⟩
 go_wp2_with fail
 refine (hpu.out _ H1.out).mono ?_
 rintro e w3 ⟨rfl, h3⟩
 have H3 := Vw h3
 clear h3
 go_wp2_with fail
 go_ret
 refine ⟨rfl, ?_⟩
 have := H3.out
 rcases Aa hi with rfl | rfl <;> exact this
theorem Sy.fresh {T0 : Nat → Nat} {w0 w w2 : World} {L : SL} {s : Sys} (h : Sy T0 w0 L s w) (hb2 : Below w w w2) : ∃ T, Sy T w2 L s w2 ∧ (∀ k, w.heap.size ≤ k → T k = 0) ∧ (∀ k, k < w0.heap.size → T k = T0 k) ∧ (∀ s' w', Sy T w2 L s' w' → Sy T0 w0 L s' w') := by
 obtain ⟨T, V, h, hb, hc⟩ := h
 refine ⟨T, Sy.start (h.below hb2), fun k hk => ?_, hb, fun s' w' h' => Sy.trans hb (hc.trans (Pres.of_below hb2)) h'⟩
 by_cases h0 : T k = 0
 · exact h0
 · exact absurd (h.low k h0) (by omega)
theorem Sy.stays {T0 : Nat → Nat} {w0 w : World} {L : SL} {s : Sys} (h : Sy T0 w0 L s w) {k : Nat} {o : Obj} (h0 : T0 k = 0) (hk : w0.heap[k]? = some o) : w.heap[k]? = some o := by
 obtain ⟨T, V, h, hb, hc⟩ := h
 exact (hc.block k (AF hk) (by simp [h0])).trans hk
theorem OW {w : World} {v : Value} {x : Send} {l : List Send} (h : AH w 428 13 v (l.length + 1) (BM (x :: l))) : ∃ g off AV, v = .slice (some ⟨g, off, none⟩) (l.length + 1) AV ∧ ∀ j u, x.l[j]? = some u → w.cell? ⟨g, off + j, none⟩ = some u := by
 obtain ⟨g, off, AV, cs, rfl, hg, hc1, hc2, hc3⟩ := h.lies (by omega)
 exact ⟨g, off, AV, rfl, fun j u hu => AD hg _ (hc3 j u (by
  simp only [BM, List.flatMap_cons]
  rw [List.getElem?_append_left (List.getElem?_eq_some_iff.1 hu).1]
  exact hu))⟩
theorem Og (T0 : Nat → Nat) (w0 : World) (L : SL) (s : Sys) (line : Int) (S : Value) (w : World) (hr : AH w 428 13 S 0 []) (h : Sy T0 w0 L s w) : Y 271 #[L.sb, S, I line] w fun e w' => e = Z (.tuple #[]) ∧ Sy T0 w0 L s w' := by
 obtain ⟨A, AV, rfl⟩ := hr.form
 clear hr
 have H := Vw h
 clear h
 go_enter func271, ntmps271
 go_wp2_with fail
 refine wp_loop_rounds 1 ?_
 rw [rounds_succ]
 go_wp2_with fail
 go_end0
 exact ⟨rfl, H.out⟩
theorem Oe (T0 : Nat → Nat) (w0 : World) (L : SL) (s : Sys) (line : Int) (x : Send) (hi : AK x.to = true) (hm : BJ { x.m with line := line } = true) (hl : (s.q x.to 3).length < 1000) (S : Value) (w : World) (hr : AH w 428 13 S 1 (BM [x])) (h : Sy T0 w0 L s w) : Y 271 #[L.sb, S, I line] w fun e w' => e = Z (.tuple #[]) ∧ Sy T0 w0 L (s.setq x.to 3 (s.q x.to 3 ++ [{ x.m with line := line }])) w' := by
 obtain ⟨g, off, AV, rfl, hcs⟩ := OW (l := []) hr
 have e0 : w.cell? ⟨g, off, none⟩ = I x.to := hcs 0 _ rfl
 have e1 : w.cell? ⟨g, off + 1, none⟩ = I x.m.kind := hcs 1 _ rfl
 have e2 : w.cell? ⟨g, off + 2, none⟩ = I x.m.line := hcs 2 _ rfl
 have e3 : w.cell? ⟨g, off + 3, none⟩ = x.m.dirty := hcs 3 _ rfl
 have e4 : w.cell? ⟨g, off + 4, none⟩ = x.m.kept := hcs 4 _ rfl
 have e5 : w.cell? ⟨g, off + 5, none⟩ = U x.m.data.a := hcs 5 _ rfl
 have e6 : w.cell? ⟨g, off + 6, none⟩ = U x.m.data.b := hcs 6 _ rfl
 have e7 : w.cell? ⟨g, off + 7, none⟩ = U x.m.data.c := hcs 7 _ rfl
 have e8 : w.cell? ⟨g, off + 8, none⟩ = U x.m.data.d := hcs 8 _ rfl
 have e9 : w.cell? ⟨g, off + 9, none⟩ = U x.m.data.e := hcs 9 _ rfl
 have e10 : w.cell? ⟨g, off + 10, none⟩ = U x.m.data.f := hcs 10 _ rfl
 have e11 : w.cell? ⟨g, off + 11, none⟩ = U x.m.data.g := hcs 11 _ rfl
 have e12 : w.cell? ⟨g, off + 12, none⟩ = U x.m.data.h := hcs 12 _ rfl
 have hat := Vw (fun T0 w0 w h => Bi T0 w0 L s x.to hi w h)
 have hc := Vw (fun T0 w0 w' h' => JS T0 w0 L s x.to 3 { x.m with line := line } hi (by decide) hm hl w' h')
 simp only [show qo x.to 3 = qo x.to 0 + 3 from rfl, Msg.cells] at hc
 obtain ⟨W1, hE, hb1, hI1⟩ := alloc_new w (.cells #[I x.to, I x.m.kind, I x.m.line, x.m.dirty, x.m.kept, x.m.data.a, x.m.data.b, x.m.data.c, x.m.data.d, x.m.data.e, x.m.data.f, x.m.data.g, x.m.data.h] 428)
 have hI2 := AI hI1 2 (I line)
 obtain ⟨T, hS, hfr, _, hback⟩ := h.fresh (hb1.setCell (p := ⟨w, 2, none⟩) (Nat.le_refl _) (I line))
 have H := Vw hS
 have HK := Vw hback
 have hT := hfr w.heap.size (Nat.le_refl _)
 have HI := Vw hI2
 have c1 := AA hI1
 have f1 := AJ hI1
 generalize hq : qo x.to 0 = o at *
 clear h hr hI1 hb1 hI2 hcs hS hback hfr
 go_enter func271, ntmps271
 go_wp2_with fail
 refine wp_loop_rounds 2 ?_
 rw [rounds_succ]
 go_wp2_with fail
 generalize W1.setCell ⟨w, 2, none⟩ (I line) = W2 at *
 replace c1 := AA HI.out
 go_wp2_with fail
 refine (hat.out _ _ _ H.out).mono ?_
 rintro e w3 ⟨rfl, h3⟩
 have H3 := Vw h3.drew
 have c3 := AA (h3.stays hT HI.out)
 clear h3 c1 f1
 go_wp2_with fail
 go_still_tail 5, (by kernel_rfl)
 change wpList _ _ _ _ _ w3.drew
 generalize w3.drew = W4 at *
 go_wp2_with fail
 refine (hc.out _ _ _ H3.out).mono ?_
 rintro e w5 ⟨rfl, h5⟩
 have H5 := Vw h5
 clear h5 c3
 go_wp2_with fail
 rw [rounds_succ]
 go_wp2_with fail
 go_end0
 exact ⟨rfl, HK.out _ _ H5.out⟩
theorem SysAt.setMQ {T : Nat → Nat} {w w' : World} {L : SL} {V : SV} {s : Sys} (h : SysAt T w L V s) {v : Value} {l : List (Int × Ln)} {r q : Int} {m : List Ln} (hp : Ad (fun n => n == 4 || n == 5 || n == 6 || n == 19) T w w') (hd : Bh w' L.dv L.mb r q m) (hn : w'.heap[L.qb]? = some (.cells #[L.dv, I 2, v] 295)) (hr : AH w' 304 9 v l.length (ST l)) (hm : Bf w V.q v) : SysAt (relab T v 19) w' L { V with q := v, rd := r, wr := q } { s with wq := l, mem := m } :=
 have hsame : ∀ b, b < w.heap.size → relab T v 19 b = T b := fun b hb => BA hm h.tq h.low hb
 ⟨AM hp h.sys h.tsb rfl, AM hp h.nodes h.tnb rfl, AM hp h.ag0 h.tg0 rfl, AM hp h.ag1 h.tg1 rfl, BC hp h.arr0 h.ta0 rfl h.tl0 rfl, BC hp h.arr1 h.ta1 rfl h.tl1 rfl, AQ hp h.ru0 h.tu0 rfl, AQ hp h.rs0 h.ts0 rfl, AQ hp h.rd0 h.td0 rfl, AQ hp h.ru1 h.tu1 rfl, AQ hp h.rs1 h.ts1 rfl, AQ hp h.rd1 h.td1 rfl, AM hp h.dir h.tdb rfl, h.dlen, hn, hr, hd, (hsame _ (h.low _ (by rw [h.tsb]; decide))).trans h.tsb, (hsame _ (h.low _ (by rw [h.tnb]; decide))).trans h.tnb, (hsame _ (h.low _ (by rw [h.tdb]; decide))).trans h.tdb, (hsame _ (h.low _ (by rw [h.tqb]; decide))).trans h.tqb, (hsame _ (h.low _ (by rw [h.tdv]; decide))).trans h.tdv, (hsame _ (h.low _ (by rw [h.tmb]; decide))).trans h.tmb, (hsame _ (h.low _ (by rw [h.tg0]; decide))).trans h.tg0, (hsame _ (h.low _ (by rw [h.tg1]; decide))).trans h.tg1, (hsame _ (h.low _ (by rw [h.ta0]; decide))).trans h.ta0, (hsame _ (h.low _ (by rw [h.ta1]; decide))).trans h.ta1, (hsame _ (h.low _ (by rw [h.tl0]; decide))).trans h.tl0, (hsame _ (h.low _ (by rw [h.tl1]; decide))).trans h.tl1, fun k hk => (hsame _ (h.ru0.lt k hk)).trans (h.tu0 k hk), fun k hk => (hsame _ (h.rs0.lt k hk)).trans (h.ts0 k hk), fun k hk => (hsame _ (h.rd0.lt k hk)).trans (h.td0 k hk), fun k hk => (hsame _ (h.ru1.lt k hk)).trans (h.tu1 k hk), fun k hk => (hsame _ (h.rs1.lt k hk)).trans (h.ts1 k hk), fun k hk => (hsame _ (h.rd1.lt k hk)).trans (h.td1 k hk), Dd, Dc h.low hp.size hr.lt⟩
theorem Tl (T0 : Nat → Nat) (w0 : World) (L : SL) (s : Sys) (line : Int) (hk : BQ line = true) (l : Ln) (hq : s.wq = []) (w : World) (h : Sy T0 w0 L s w) :
 Y 336 #[L.qb, I line, .agg l] w fun e w' => e = Z (I 0) ∧ Sy T0 w0 L { s with wq := [(line, l)] } w' := by
 obtain ⟨T, V, h, hb, hc⟩ := h
 obtain ⟨A, AV, hV⟩ := h.rq.form
 rw [hq] at hV
 have hwq := h.wq
 rw [hV] at hwq
 refine (My L.qb L.dv L.mb V.rd V.wr line (BD hk).1 (BD hk).2 s.mem l A AV w h.mem hwq).mono ?_
 rintro e w' ⟨rfl, r', g, g1, g2, g3, g4, hp⟩
 have hp' : Ad (fun n => n == 4 || n == 5 || n == 6 || n == 19) T w w' := hp.mono fun k hk ha => by
  simp only [Bool.or_eq_false_iff, beq_eq_false_iff_ne] at ha
  exact ⟨fun e => ha.1.1.2 (by rw [e]; exact h.tdv), fun e => ha.1.1.1 (by rw [e]; exact h.tqb)⟩
 have hm : Bf w V.q (.slice (some g) 1 1) := .inr ⟨g, rfl, g4⟩
 exact ⟨rfl, Sy.step (s := s) (s' := { s with wq := [(line, l)] }) hb hc (h.setMQ (l := [(line, l)]) hp' g1 g2 (AH.made (size := 9) (m := 1) g3 rfl) hm) (fun k hk => BA hm h.tq h.low hk) hp' (fun n hn => by simp only [Bool.or_eq_true, beq_iff_eq] at hn; rcases hn with ((rfl | rfl) | rfl) | rfl <;> rfl)⟩
theorem LW (T0 : Nat → Nat) (w0 : World) (L : SL) (s : Sys) (line : Int) (hq : s.wq = []) (w : World) (h : Sy T0 w0 L s w) :
 Y 280 #[L.qb, I line] w fun e w' => e = Z (I 14) ∧ Sy T0 w0 L s w' := by
 have H := h
 obtain ⟨T, V, h, hb, hc⟩ := h
 obtain ⟨A, AV, hV⟩ := h.rq.form
 rw [hq] at hV
 have hwq := h.wq
 rw [hV] at hwq
 refine (NB L.qb L.dv line A AV w hwq).mono ?_
 rintro e w' ⟨rfl, hb⟩
 exact ⟨rfl, H.below hb⟩
theorem Km (T0 : Nat → Nat) (w0 : World) (L : SL) (s : Sys) (k line : Int) (x : Ln) (hk : (k == line) = false) (hq : s.wq = [(k, x)]) (w : World) (h : Sy T0 w0 L s w) :
 Y 280 #[L.qb, I line] w fun e w' => e = Z (I 14) ∧ Sy T0 w0 L s w' := by
 have H := h
 obtain ⟨T, V, h, hb, hc⟩ := h
 have hr := h.rq
 rw [hq] at hr
 obtain ⟨g, off, AV, cs, hV, hg, hc1, hc2, hc3⟩ := hr.lies (by simp)
 have hwq := h.wq
 rw [hV] at hwq
 refine (LP L.qb L.dv g off AV k line x hk w hwq (fun i u hu => AD hg _ (hc3 i u hu)) (AF hg)).mono ?_
 rintro e w' ⟨rfl, hb⟩
 exact ⟨rfl, H.below hb⟩
theorem NE (T0 : Nat → Nat) (w0 : World) (L : SL) (s : Sys) (line : Int) (hl : BQ line = true) (x : Ln) (hq : s.wq = [(line, x)]) (w : World) (h : Sy T0 w0 L s w) :
 Y 280 #[L.qb, I line] w fun e w' => e = Z (I 0) ∧ Sy T0 w0 L { s with wq := [], mem := s.mem.set line.toNat x } w' := by
 obtain ⟨T, V, h, hb, hc⟩ := h
 have hr := h.rq
 rw [hq] at hr
 obtain ⟨g, off, AV, cs, hV, hg, hc1, hc2, hc3⟩ := hr.lies (by simp)
 have hwq := h.wq
 rw [hV] at hwq hr
 have hlab := h.tq
 rw [hV] at hlab
 have hcall : Y 280 #[L.qb, I line] w fun e w' => e = Z (I 0) ∧ ∃ s', Bh w' L.dv L.mb V.rd s' (s.mem.set line.toNat x) ∧ w'.heap[L.qb]? = some (.cells #[L.dv, I 2, .slice (some ⟨g, off, none⟩) 0 AV] 295) ∧ AH w' 304 9 (.slice (some ⟨g, off, none⟩) 0 AV) 0 [] ∧ Pres (fun k => k ≠ L.dv ∧ k ≠ L.mb ∧ k ≠ L.qb ∧ k ≠ g) w w' := by
  rcases Nat.lt_or_ge 1 AV with h1 | h1
  · exact wdrainX.2 L.qb L.dv L.mb g off AV h1 V.rd V.wr line (BD hl).1 (BD hl).2 s.mem x w h.mem hwq hr
  · exact wdrainX.1 L.qb L.dv L.mb g off AV (Nat.le_antisymm h1 hc1) V.rd V.wr line (BD hl).1 (BD hl).2 s.mem x w h.mem hwq hr
 refine hcall.mono ?_
 rintro e w' ⟨rfl, r', g1, g2, g3, hp⟩
 have hp' : Ad (fun n => n == 4 || n == 5 || n == 6 || n == 19) T w w' := hp.mono fun k hk ha => by
  simp only [Bool.or_eq_false_iff, beq_eq_false_iff_ne] at ha
  exact ⟨fun e => ha.1.1.2 (by rw [e]; exact h.tdv), fun e => ha.1.2 (by rw [e]; exact h.tmb), fun e => ha.1.1.1 (by rw [e]; exact h.tqb), fun e => ha.2 (by rw [e]; exact hlab g rfl)⟩
 have hm : Bf w V.q (.slice (some ⟨g, off, none⟩) 0 AV) := .inl (by rw [hV]; rfl)
 exact ⟨rfl, Sy.step (s := s) (s' := { s with wq := [], mem := s.mem.set line.toNat x }) hb hc (h.setMQ (l := []) hp' g1 g2 g3 hm) (fun k hk => BA hm h.tq h.low hk) hp' (fun n hn => by simp only [Bool.or_eq_true, beq_iff_eq] at hn; rcases hn with ((rfl | rfl) | rfl) | rfl <;> rfl)⟩
theorem Ly (T0 : Nat → Nat) (w0 : World) (L : SL) (s : Sys) (line : Int) (s' : Sys) (hr : s.drain line = some s') (w : World) (h : Sy T0 w0 L s w) : Y 233 #[L.sb, I line] w fun e w' => (∃ r, e = Z (I r)) ∧ Sy T0 w0 L s' w' := by
 obtain ⟨hk, hr⟩ := As hr
 have hd : ∀ w, Sy T0 w0 L s w → Y 280 #[L.qb, I line] w fun e w' => (∃ r, e = Z (I r)) ∧ Sy T0 w0 L s' w' := by
  intro w h
  match hq : s.wq with
  | [] =>
    simp only [hq, Option.some.injEq] at hr
    subst hr
    exact (LW T0 w0 L s line hq w h).mono fun e w' h => ⟨⟨_, h.1⟩, h.2⟩
  | [(k, x)] =>
    simp only [hq] at hr
    cases hc : (k == line)
    · simp only [hc, Bool.false_eq_true, if_false, Option.some.injEq] at hr
      subst hr
      exact (Km T0 w0 L s k line x hc hq w h).mono fun e w' h => ⟨⟨_, h.1⟩, h.2⟩
    · simp only [hc, if_true, Option.some.injEq] at hr
      subst hr
      simp only [beq_iff_eq] at hc
      subst hc
      exact (NE T0 w0 L s k hk x hq w h).mono fun e w' h => ⟨⟨_, h.1⟩, h.2⟩
  | _ :: _ :: _ => simp [hq] at hr
 have HD := Vw hd
 have hln := Vw (fun w h => Cd T0 w0 L s line hk w h)
 have H := Vw h
 have c := h.dirp.2
 clear h hd hr
 go_enter func233, ntmps233
 go_wp2_with fail
 refine (hln.out _ H.out).mono ?_
 rintro e w2 ⟨rfl, rfl⟩
 go_wp2_with fail
 refine (HD.out _ H.out).mono ?_
 rintro e w3 ⟨⟨r, rfl⟩, h3⟩
 have H3 := Vw h3
 clear h3 c
 go_wp2_with fail
 go_ret
 exact ⟨⟨_, rfl⟩, H3.out⟩
theorem Lu (T0 : Nat → Nat) (w0 : World) (L : SL) (s : Sys) (line : Int) (hk : BQ line = true) (hq : s.wq = []) (hd : (s.ent line).dirty = true) (w : World) (h : Sy T0 w0 L s w) : Y 276 #[L.sb, I line] w fun e w' => e = Z (I 0) ∧ Sy T0 w0 L { s with wq := [(line, (s.ent line).data)] } w' := by
 have HP := Vw (fun w h => Tl T0 w0 L s line hk (s.ent line).data hq w h)
 have H := Vw h
 have H2 := Vw h.drew
 obtain ⟨c8, c9⟩ := h.dirp
 obtain ⟨c8', c9'⟩ := h.drew.dirp
 have e1 : w.cell? ⟨L.db, line.toNat * 15 + 1, none⟩ = some (.bool true) := by rw [← hd]; exact h.ent_cell hk 1 _ rfl
 have e2 : w.cell? ⟨L.db, line.toNat * 15 + 2, none⟩ = some (U (s.ent line).data.a) := h.ent_cell hk 2 _ rfl
 have e3 : w.cell? ⟨L.db, line.toNat * 15 + 3, none⟩ = some (U (s.ent line).data.b) := h.ent_cell hk 3 _ rfl
 have e4 : w.cell? ⟨L.db, line.toNat * 15 + 4, none⟩ = some (U (s.ent line).data.c) := h.ent_cell hk 4 _ rfl
 have e5 : w.cell? ⟨L.db, line.toNat * 15 + 5, none⟩ = some (U (s.ent line).data.d) := h.ent_cell hk 5 _ rfl
 have e6 : w.cell? ⟨L.db, line.toNat * 15 + 6, none⟩ = some (U (s.ent line).data.e) := h.ent_cell hk 6 _ rfl
 have e7 : w.cell? ⟨L.db, line.toNat * 15 + 7, none⟩ = some (U (s.ent line).data.f) := h.ent_cell hk 7 _ rfl
 have e8 : w.cell? ⟨L.db, line.toNat * 15 + 8, none⟩ = some (U (s.ent line).data.g) := h.ent_cell hk 8 _ rfl
 have e9 : w.cell? ⟨L.db, line.toNat * 15 + 9, none⟩ = some (U (s.ent line).data.h) := h.ent_cell hk 9 _ rfl
 obtain ⟨h0, h1⟩ := BD hk
 clear h hd
 go_enter func276, ntmps276
 go_wp2_with fail
 go_still_tail 13, (by kernel_rfl)
 change wpList _ _ _ _ _ w.drew
 generalize w.drew = W2 at *
 go_wp2_with fail
 refine (HP.out _ H2.out).mono ?_
 rintro e w3 ⟨rfl, h3⟩
 have H3 := Vw h3
 clear h3
 go_wp2_with fail
 go_ret
 exact ⟨rfl, H3.out⟩
theorem Px (A : Option Addr) (AV : Nat) (w : World) : Y 375 #[.slice A 0 AV] w fun e w' => e = Z (.func (.func 402) #[] #[w.heap.size]) ∧ w.alloc (.cells #[.slice A 0 AV] 293) = w' := by
 go_enter func375, ntmps375
 go_wp2_with fail
 go_ret
 exact ⟨rfl, rfl⟩
theorem Pw (n p : Nat) (A : Option Addr) (AV : Nat) (Kp : World → World → Prop) (w0 : World) (hp : w0.heap[p]? = some (.cells #[.slice A 0 AV] 293)) : SeqStopsK (α := Empty) Fence.wide n prog 402 #[p] (fun _ => #[undef, undef]) Kp (fun _ => True) (fun _ => False) 0 w0 := by
 intro l J Jx W hW hJ hJx hY h0
 refine callsIn_wide.2 ?_
 show Y 402 #[.func (.yield l) #[] #[], p] W _
 have c := AA (AB hW hp)
 clear hW hp hJ hJx hY
 have H0 := Vw h0
 clear h0
 go_enter func402, ntmps402
 go_wp2_with fail
 refine wp_loop_rounds 1 ?_
 rw [rounds_succ]
 go_wp2_with fail
 go_end0
 exact ⟨⟨_, rfl⟩, .inl ⟨[], trivial, H0.out⟩⟩
theorem NM (qb dv mb : Nat) (r s line : Int) (h0 : 0 ≤ line) (h1 : line < 5) (L : List Ln) (A : Option Addr) (AV : Nat) (w : World) (h : Bh w dv mb r s L) (hq : w.heap[qb]? = some (.cells #[dv, I 2, .slice A 0 AV] 295)) :
 Y 317 #[qb, I line] w fun e w' => e = Z (.tuple #[.agg (BO Ln.zero L line.toNat).cells.toArray, I 0]) ∧ (∃ r', Bh w' dv mb r' s L) ∧ Pres (fun k => k ≠ dv) w w' := by
 generalize hX : BO Ln.zero L line.toNat = X
 obtain ⟨W1, hE1, b1, -⟩ := alloc_new w (.cells #[I line] 3)
 obtain ⟨W2, hE2⟩ := ex_ (W1.alloc (.cells KD 109))
 obtain ⟨W3, hE3⟩ := ex_ (W2.alloc (.cells #[I 0] 35))
 obtain ⟨W4, hE4⟩ := ex_ (W3.alloc (.cells #[.slice A 0 AV] 293))
 have b2 : Below W1 W1 W2 := hE2 ▸ AC W1 _
 have b3 : Below W2 W2 W3 := hE3 ▸ AC W2 _
 have b4 : Below W3 W3 W4 := hE4 ▸ AC W3 _
 have i1 : W4.heap[w.heap.size]? = some (.cells #[I line] 3) := AB b4 (AB b3 (AB b2 (hE1 ▸ AE w _)))
 have i2 : W4.heap[W1.heap.size]? = some (.cells KD 109) := AB b4 (AB b3 (hE2 ▸ AE W1 _))
 have i3 : W4.heap[W2.heap.size]? = some (.cells #[I 0] 35) := AB b4 (hE3 ▸ AE W2 _)
 have i4 : W4.heap[W3.heap.size]? = some (.cells #[.slice A 0 AV] 293) := hE4 ▸ AE W3 _
 have hb : Below w w W4 := ((b1.trans (b2.mono b1.size)).trans (b3.mono (Vx b1.size b2.size))).trans (b4.mono (Vx b1.size (Vx b2.size b3.size)))
 have hst := Pw 5 W3.heap.size A AV (fun _ _ => True) W4 i4
 have c := AA (AB (b1.trans (b2.mono b1.size) |>.trans (b3.mono (Vx b1.size b2.size))) hq)
 have s1 := b1.size
 have s2 := b2.size
 have s3 := b3.size
 have s4 := b4.size
 refine (callsIn_wide (n := 6)).1 (callsIn_of_wp_marks func317 rfl trivial ?_)
 refine (wpIn_wide (n := 6)).2 ?_
 simp only [ntmps317, List.size_toArray, List.length_cons, List.length_nil, Nat.reduceAdd, Nat.reduceSub, Array.replicate_succ, Array.replicate_zero, List.push_toArray, List.append_toArray, List.nil_append, List.cons_append]
 go_wp2_with (go_at_call 375; refine (Px _ _ _).mono ?_; rintro e w1 ⟨rfl, rfl⟩)
 refine (wpIn_wide (n := 6)).1 ?_
 refine wpIn_rangeFunc_ownF (α := Empty) rfl (by decide) (gf := 402) (lb := #[W3.heap.size]) rfl trivial (Go.Proofs.enters_of func402 (by kernel_rfl) rfl) hst (fun _ _ => trivial) (fun _ _ _ _ _ _ _ _ => trivial) (Below.refl _ _) (fun x => x.elim) (fun _ W => Below W4 W4 W) (fun _ _ _ => False) (ownFrom_below (Nat.le_refl _) (Nat.le_refl _)) (fun _ _ _ _ _ hs _ _ => hs) (Below.refl _ _) (fun x => x.elim) ?assign ?body ?done ?stop
 case assign => intro l x; exact x.elim
 case body => intro l pre x; exact x.elim
 case stop => intro D c pre W _ _ h; exact h.elim
 case done =>
  rintro D xs W hD _ hI hK
  have HI := Vw (WA hI hK)
  clear hI hK
  go_wp2_with fail
  have HCQ := Vw (AD (AB HI.out.1 (AB hb hq)) 0 rfl)
  have HC1 := Vw (AD (AB HI.out.1 i1) 0 rfl)
  have HFin := Vw (hb.trans (HI.out.1.mono hb.size))
  have HLT := Vw (WA (Nat.ne_of_gt (Vy (AF h.1) s1)) (Nat.ne_of_gt (Vy (AF h.1) (Vx s1 s2))))
  have cq := HCQ.out
  have c1 := HC1.out
  have hd' : Bh W.drew dv mb r s L := ⟨AB (hb.trans (HI.out.1.mono hb.size)).drew h.1, AB (hb.trans (HI.out.1.mono hb.size)).drew h.2.1, h.2.2⟩
  have hrd := If dv mb r s line h0 h1 L W.drew hd'
  rw [hX] at hrd
  simp only [Ln.cells] at hrd
  have hk2 := Vw (AB HI.out.1.drew i2)
  have hk3 := Vw (AB HI.out.1.drew i3)
  clear c
  have n12 : W1.heap.size ≠ W2.heap.size := AG i2 i3 (by decide)
  have n21 := Ne.symm n12
  have HDn := Vw (show D ≠ dv ∧ D ≠ W1.heap.size ∧ D ≠ W2.heap.size from ⟨Nat.ne_of_gt (Vy (AF (AB hb h.1)) hD), Nat.ne_of_gt (Vy (AF i2) hD), Nat.ne_of_gt (Vy (AF i3) hD)⟩)
  have HPp := Vw (show mb ≠ W1.heap.size ∧ mb ≠ W2.heap.size ∧ w.heap.size ≤ D ∧ w.heap.size ≤ W1.heap.size ∧ w.heap.size ≤ W2.heap.size from ⟨Nat.ne_of_lt (Vy (AF h.2.1) s1), Nat.ne_of_lt (Vy (AF h.2.1) (Vx s1 s2)), Vx hb.size hD, s1, Vx s1 s2⟩)
  clear hst i1 i2 i3 i4 hE1 hE2 hE3 hE4 b1 b2 b3 b4
  clear hq h s3 s4 hb cq c1
  have cq := HCQ.out
  have c1 := HC1.out
  generalize W3.heap.size = p3 at *
  generalize W2.heap.size = p2 at *
  generalize W1.heap.size = p1 at *
  clear s1 s2
  refine wp_region_noPanic ?_
  go_region_with
   (first | (go_at_call 376; refine hrd.mono ?_; rintro e w5 ⟨rfl, hd5, hp5⟩; have z2 := (hp5.block _ (AF hk2.out) HLT.out.1).trans hk2.out; have z3 := (hp5.block _ (AF hk3.out) HLT.out.2).trans hk3.out; have c2 := AA z2; have f2 := AJ z2; have c3 := AA z3; have f3 := AJ z3; have HP := Vw (WA z2 (WA z3 (WA hd5 hp5))); clear z2 z3 hd5 hp5))
  all_goals
   refine NoPanic.normal ?_
   have HV := Vw (show ∀ k, k ≠ p1 → k ≠ p2 → ((w5.setCells p1 0 [U X.a, U X.b, U X.c, U X.d, U X.e, U X.f, U X.g, U X.h]).setCell p2 (I 0)).heap[k]? = w5.heap[k]? from fun k k1 k2 => (Vz _ _ _ _ k2).trans (AR k1 [U X.a, U X.b, U X.c, U X.d, U X.e, U X.f, U X.g, U X.h] w5 0))
   have HV1 := Vw (show ((w5.setCells p1 0 [U X.a, U X.b, U X.c, U X.d, U X.e, U X.f, U X.g, U X.h]).setCell p2 (I 0)).heap[p1]? = some (.cells X 109) from (Vz _ _ _ _ n12).trans (AT [U X.a, U X.b, U X.c, U X.d, U X.e, U X.f, U X.g, U X.h] HP.out.1 0 _ (by kernel_rfl)))
   have HV2 := Vw (show ((w5.setCells p1 0 [U X.a, U X.b, U X.c, U X.d, U X.e, U X.f, U X.g, U X.h]).setCell p2 (I 0)).heap[p2]? = some (.cells #[I 0] 35) from AI ((AR n21 [U X.a, U X.b, U X.c, U X.d, U X.e, U X.f, U X.g, U X.h] w5 0).trans HP.out.2.1) 0 _)
   have HVP := Vw (show Pres (fun k => k ≠ dv ∧ k ≠ p1 ∧ k ≠ p2) W.drew ((w5.setCells p1 0 [U X.a, U X.b, U X.c, U X.d, U X.e, U X.f, U X.g, U X.h]).setCell p2 (I 0)) from (Pres.setCells (g := p1) (by simp) [U X.a, U X.b, U X.c, U X.d, U X.e, U X.f, U X.g, U X.h] (HP.out.2.2.2.mono fun k _ hk => hk.1) 0).setCell (p := p2) (by simp) _)
   change Exit.then _ _ _ _ ((w5.setCells p1 0 [U X.a, U X.b, U X.c, U X.d, U X.e, U X.f, U X.g, U X.h]).setCell p2 (I 0))
   generalize (w5.setCells p1 0 [U X.a, U X.b, U X.c, U X.d, U X.e, U X.f, U X.g, U X.h]).setCell p2 (I 0) = W9 at *
   clear c2 f2 c3 f3 cq c1
   go_wp2_with fail
   have hK9 : W9.heap[D]? = some (.deferred (some [])) := (HVP.out.block D (AF HI.out.2) HDn.out).trans HI.out.2
   have q1 := AA HV1.out
   have q2 := AA HV2.out
   have hfin := HFin.out
   refine ⟨by simp, .inl ⟨_, _, rfl, run_takeDeferred hK9, ?_⟩⟩
   obtain ⟨z2, z3, ⟨r', hd1, hd2, hd3⟩, hp5⟩ := HP.out
   have hput : ∀ k, k ≠ D → (W9.putObj D (.deferred none)).heap[k]? = W9.heap[k]? := fun k hk => World.putObj_heap_other hk
   have e1 := fun k => (World.cell?_of_block (w := W9) (a := ⟨p1, k, none⟩) (hput p1 (Ne.symm HDn.out.2.1))).trans (q1 k)
   have e2 := fun k => (World.cell?_of_block (w := W9) (a := ⟨p2, k, none⟩) (hput p2 (Ne.symm HDn.out.2.2))).trans (q2 k)
   have hdp1 : dv ≠ p1 := AG hd1 z2 (by decide)
   have hdp2 : dv ≠ p2 := AG hd1 z3 (by decide)
   have hmp1 := HPp.out.1
   have hmp2 := HPp.out.2.1
   have hmD : mb ≠ D := fun e => by
    have hK5 := HV.out D HDn.out.2.1 HDn.out.2.2
    rw [hK9, ← e, hd2] at hK5
    cases hK5
   refine ⟨.tuple #[.agg X, I 0], by simp [results, results317, go_sem, e1, e2], rfl, ⟨r', (hput dv (Ne.symm HDn.out.1)).trans ((HV.out dv hdp1 hdp2).trans hd1), (hput mb hmD).trans ((HV.out mb hmp1 hmp2).trans hd2), hd3⟩, ?_⟩
   exact ⟨HVP.out.os.trans hfin.os, HVP.out.tape.trans hfin.tape, HVP.out.output.trans hfin.output, by simpa using Vx hfin.size HVP.out.size, fun k hk ha => (hput k (Nat.ne_of_lt (Vy hk HPp.out.2.2.1))).trans ((HVP.out.block k (Vy hk hfin.size) ⟨ha, Nat.ne_of_lt (Vy hk HPp.out.2.2.2.1), Nat.ne_of_lt (Vy hk HPp.out.2.2.2.2)⟩).trans (hfin.block k hk))⟩
theorem Tj (T0 : Nat → Nat) (w0 : World) (L : SL) (s : Sys) (line : Int) (hk : BQ line = true) (hq : s.wq = []) (w : World) (h : Sy T0 w0 L s w) :
 Y 317 #[L.qb, I line] w fun e w' => e = Z (.tuple #[.agg (BO Ln.zero s.mem line.toNat).cells.toArray, I 0]) ∧ Sy T0 w0 L s w' := by
 obtain ⟨T, V, h, hb, hc⟩ := h
 obtain ⟨A, AV, hV⟩ := h.rq.form
 rw [hq] at hV
 have hwq := h.wq
 rw [hV] at hwq
 refine (NM L.qb L.dv L.mb V.rd V.wr line (BD hk).1 (BD hk).2 s.mem A AV w h.mem hwq).mono ?_
 rintro e w' ⟨rfl, ⟨r', hm⟩, hp⟩
 have hp' : Ad (fun n => n == 5 || n == 6) T w w' := hp.mono fun k hk ha => fun e => by
  rw [e, h.tdv] at ha
  cases ha
 exact ⟨rfl, Sy.step (s := s) (s' := s) hb hc (h.setMem hp' hm) (fun k hk => rfl) hp' (fun n hn => by simp only [Bool.or_eq_true, beq_iff_eq] at hn; rcases hn with rfl | rfl <;> rfl)⟩
end Go.Proofs.YtkoplblbeapfgaaGreatDoor
