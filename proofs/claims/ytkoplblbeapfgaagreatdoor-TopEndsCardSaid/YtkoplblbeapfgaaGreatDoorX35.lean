/-
Parts of the walk of TopEnds. Conditions stand in each statement.
-/
import Derived.Test.YtkoplblbeapfgaaGreatDoorX51
import Derived.Test.YtkoplblbeapfgaaGreatDoorX32
import Derived.Test.YtkoplblbeapfgaaGreatDoorX33
import Derived.Test.YtkoplblbeapfgaaGreatDoorX34
namespace Go.Proofs.YtkoplblbeapfgaaGreatDoor
open Go.RowKit
open Tryz
set_option linter.all false
set_option maxRecDepth 100000
set_option maxHeartbeats 8000000
theorem Va {c k : Nat} (hc : c ≤ 3) (hk : k ≤ 2) (v : Int) : Dt (if k = 0 then 104 else if k = 1 then 103 else 102) (Bl 2000 (Du c k v) []) = true := by
 have h1 : c = 0 ∨ c = 1 ∨ c = 2 ∨ c = 3 := by omega
 have h2 : k = 0 ∨ k = 1 ∨ k = 2 := by omega
 rcases h1 with rfl | rfl | rfl | rfl <;> rcases h2 with rfl | rfl | rfl
 · exact Vu v
 · exact Vt v
 · exact Vs v
 · exact Vr v
 · exact Vq v
 · exact UO v
 · exact Vp v
 · exact Vo v
 · exact Vn v
 · exact Vm v
 · exact Vl v
 · exact Vk v
theorem Ui {c k : Nat} (hc : c ≤ 3) (hk : k ≤ 2) (v : Int) (hv : 0 ≤ v ∧ v < 256) : Bk (BE [AU c k v]) = true ∧ Bm (Ae (AU c k v)) = true ∧ decide (0 < (Ae (AU c k v)).l.length ∧ (Ae (AU c k v)).l.length ≤ 4096 ∧ (Ae (AU c k v)).jumps.length ≤ 4096 ∧ (Ae (AU c k v)).marks.length ≤ 4096) = true ∧ decide ((Dq ⟨[], [], []⟩ (AU c k v)).l.length ≤ 4096) = true := by
 have h1 : c = 0 ∨ c = 1 ∨ c = 2 ∨ c = 3 := by omega
 have h2 : k = 0 ∨ k = 1 ∨ k = 2 := by omega
 rcases h1 with rfl | rfl | rfl | rfl <;> rcases h2 with rfl | rfl | rfl
 · exact VX v hv
 · exact VW v hv
 · exact VV v hv
 · exact VU v hv
 · exact VT v hv
 · exact VS v hv
 · exact VR v hv
 · exact VQ v hv
 · exact VP v hv
 · exact VO v hv
 · exact VN v hv
 · exact VM v hv
theorem Qo {c k : Nat} (hc : c ≤ 3) (hk : k ≤ 2) (v : Int) (hv : 0 ≤ v ∧ v < 256) : (∀ o ∈ (AU c k v).ops, IL o = true) ∧ DE (AU c k v).ops = true ∧ (AU c k v).ops.length ≤ 16 ∧ 0 < (AU c k v).ops.length ∧ ((AU c k v).abort = true ∨ Ay (AU c k v).ops ≠ []) := by
 obtain ⟨h3, h4⟩ := hv
 have h1 : c = 0 ∨ c = 1 ∨ c = 2 ∨ c = 3 := by omega
 have h2 : k = 0 ∨ k = 1 ∨ k = 2 := by omega
 rcases h1 with rfl | rfl | rfl | rfl <;> rcases h2 with rfl | rfl | rfl <;>
  (refine ⟨?_, ?_, by simp [AU, BW, EH], by simp [AU, BW, EH], by simp [AU, BW, EH, Ay]⟩
   · intro o ho
     simp [AU, BW, EH] at ho
     have hd : decide (8 ≤ 8 + v) = true := by simp; omega
     rcases ho with ho
     simp [IL]
     (first | (rcases ho with rfl | rfl | rfl <;> simp <;> omega) | (rcases ho with rfl | rfl | rfl | rfl <;> simp <;> omega) | (rcases ho with rfl | rfl | rfl | rfl | rfl <;> simp <;> omega) | (rcases ho with rfl | rfl | rfl | rfl | rfl | rfl <;> simp <;> omega) | (rcases ho with rfl | rfl | rfl | rfl | rfl | rfl | rfl <;> simp <;> omega))
   · simp [DE, AU, BW, EH, DG]
     try omega)
theorem IR {c k : Nat} (hc : c ≤ 3) (hk : k ≤ 2) (v : Int) (hv : 0 ≤ v ∧ v < 256) (w0 : World) (OPS : Value) (hO : AH w0 33 3 OPS (AU c k v).ops.length (BI (AU c k v).ops)) : Jz w0 OPS (AU c k v) := by
 obtain ⟨h1, _, h2, h3, h4⟩ := Qo hc hk v hv
 exact Ix (AU c k v).ops (AU c k v).abort w0 OPS hO h3 h1 (by omega) h4
theorem Gc : ∀ (n : Nat) (m : Mach) (l : List Ev) {m' : Mach} {evs : List Ev}, Co n m l = some (m', evs) → m'.okQ = true ∧ m'.okW = true ∧ m'.quiet = true
 | 0, m, l, m', evs, h => by cases h
 | n + 1, m, l, m', evs, h => by
   unfold Co at h
   split at h
   · rename_i hok
     simp only [Bool.and_eq_true] at hok
     split at h
     · rename_i hq
       simp only [Option.some.injEq, Prod.mk.injEq] at h
       obtain ⟨rfl, rfl⟩ := h
       exact ⟨hok.1, hok.2, hq⟩
     · cases ha : Eh Cj m l with
       | none => simp [ha] at h
       | some r =>
         simp only [ha, Option.bind_some] at h
         exact Gc n r.1 r.2 h
   · cases h
theorem Nw {a b : Ln} (h : KP a b = true) : a = b := by
 obtain ⟨a1, a2, a3, a4, a5, a6, a7, a8⟩ := a
 obtain ⟨b1, b2, b3, b4, b5, b6, b7, b8⟩ := b
 simp only [KP, Bool.and_eq_true, beq_iff_eq] at h
 obtain ⟨⟨⟨⟨⟨⟨⟨rfl, rfl⟩, rfl⟩, rfl⟩, rfl⟩, rfl⟩, rfl⟩, rfl⟩ := h
 rfl
theorem RnAt.mem5 {T : Nat → Nat} {w : World} {L : SL} {V : SV} {C : CC} {mb : Nat} {CS R : Value} {rb : Nat} {LV : Value} {m : Mach} {evs : List Ev} (h : RnAt T w L V C mb CS R rb LV m evs) : ∃ x0 x1 x2 x3, m.s.mem = [x0, x1, x2, x3, m.s.words] := by
 have hl : m.s.mem.length = 5 := h.mch.mc.sys.mem.2.2
 unfold Sys.words
 match hm : m.s.mem, hl with
 | [a, b, c, d, e], _ => exact ⟨a, b, c, d, rfl⟩
theorem Hp {T : Nat → Nat} {w : World} {L : SL} {V : SV} {C : CC} {mb : Nat} {CS R : Value} {rb : Nat} {LV : Value} {m : Mach} {evs : List Ev} (hq : m.okQ = true) (hw : m.okW = true) (h : RnAt T w L V C mb CS R rb LV m evs) : Y 12 #[mb] w fun e w' => e = Z (.bool m.quiet) ∧ ∃ T' V', RnAt T' w' L V' C mb CS R rb LV m evs ∧ Rs rb T w LV T' w' LV :=
 (IA T w L C mb CS R m (QB hq) (fun i hi => MX hw hi) w h.start).mono fun e w' k => ⟨k.1, h.step k.2⟩
end Go.Proofs.YtkoplblbeapfgaaGreatDoor
