/-
Parts of the walk of TopEnds. Conditions stand in each statement.
-/
import Derived.Test.YtkoplblbeapfgaaGreatDoorX15
import Derived.Test.YtkoplblbeapfgaaGreatDoorX16
namespace Go.Proofs.YtkoplblbeapfgaaGreatDoor
open Go.RowKit
open Tryz
set_option linter.all false
set_option maxRecDepth 100000
set_option maxHeartbeats 8000000
theorem QF (T0 : Nat → Nat) (w0 : World) (L : SL) (s : Sys) (i : Int) (hi : AK i = true) (s' : Sys) (hr : s.up i = some s') (w : World) (h : Sy T0 w0 L s w) : Y 225 #[L.sb, I i] w fun e w' => (∃ r, e = Z (I r)) ∧ Sy T0 w0 L s' w' := by
 obtain ⟨_, hr⟩ := As hr
 cases hq : (s.node i).up with
 | nil =>
   simp only [hq, Option.some.injEq] at hr
   subst hr
   exact RR T0 w0 L s i hi hq w h
 | cons m l =>
   simp only [hq] at hr
   obtain ⟨hk, hr⟩ := As hr
   cases hb : ((s.ent m.line).busy != 0)
   · simp only [hb, Bool.false_eq_true, if_false] at hr
     obtain ⟨s1, h1, hr⟩ := Option.bind_eq_some_iff.1 hr
     obtain ⟨⟨e2, out⟩, h2, hr⟩ := Option.bind_eq_some_iff.1 hr
     exact RQ T0 w0 L s i hi m l hq hk hb s1 h1 e2 out h2 s' hr w h
   · simp only [hb, if_true, Option.some.injEq] at hr
     subst hr
     exact RS T0 w0 L s i hi m l hq hk hb w h
theorem Ol (T0 : Nat → Nat) (w0 : World) (L : SL) (s : Sys) (i : Int) (hi : AK i = true) (s' : Sys) (hr : s.answer i = some s') (w : World) (h : Sy T0 w0 L s w) : Y 226 #[L.sb, I i] w fun e w' => (∃ r, e = Z (I r)) ∧ Sy T0 w0 L s' w' := by
 obtain ⟨_, hr⟩ := As hr
 cases hq : (s.node i).ans with
 | nil =>
   simp only [hq, Option.some.injEq] at hr
   subst hr
   exact QL T0 w0 L s i hi hq w h
 | cons m l =>
   simp only [hq] at hr
   obtain ⟨hk, hr⟩ := As hr
   simp only [Bool.and_eq_true] at hk
   obtain ⟨⟨e2, out⟩, h2, hr⟩ := Option.bind_eq_some_iff.1 hr
   have he := Aw s hi 2 l m.line
   exact QK T0 w0 L s i hi m l hq hk.1 _ rfl e2 out (by rw [he]; exact h2) (by rw [he]; exact hk.2) s' hr w h
theorem CZ {w : World} {g k : Nat} {cs : Array Value} {e : TypeId} {v : Value} (h : w.heap[g]? = some (.cells cs e (0, 0))) (hk : cs[k]? = some v) : w.setCell ⟨g, k, none⟩ v = w := by
 have h1 : (w.setCell ⟨g, k, none⟩ v).heap = w.heap := by
  apply Array.ext_getElem?
  intro i
  by_cases hi : i = g
  · subst hi
    rw [AI h k v, h]
    have : cs.setIfInBounds k v = cs := by
     apply Array.ext_getElem?
     intro j
     by_cases hj : k = j
     · subst hj
       rw [hk, Array.getElem?_setIfInBounds_self_of_lt (Array.getElem?_eq_some_iff.1 hk).1]
     · rw [Array.getElem?_setIfInBounds_ne hj]
    rw [this]
  · exact Vz _ _ _ _ hi
 have h2 : w.setCell ⟨g, k, none⟩ v = { w with heap := (w.setCell ⟨g, k, none⟩ v).heap } := rfl
 rw [h2, h1]
theorem RT (T0 : Nat → Nat) (w0 : World) (L : SL) (s : Sys) (line : Int) (hk : BQ line = true) (hg : ((s.ent line).good || (s.ent line).isEmpty) = true) (hrd : De (s.ent line) = false) (w : World) (h : Sy T0 w0 L s w) : Y 229 #[L.sb, I line] w fun e w' => e = Z (I 16) ∧ Sy T0 w0 L s w' := by
 have hln := Vw (Cd T0 w0 L s line hk w h)
 have hry := Vw (fun w => Fm (s.ent line) hg w)
 rw [hrd] at hry
 simp only [Ent.cells] at hry
 have c8 := h.dirp.1
 obtain ⟨k0, k1⟩ := BD hk
 have e0 : w.cell? ⟨L.db, line.toNat * 15, none⟩ = some (.bool (s.ent line).here) := h.ent_cell hk 0 _ rfl
 have e1 : w.cell? ⟨L.db, line.toNat * 15 + 1, none⟩ = some (.bool (s.ent line).dirty) := h.ent_cell hk 1 _ rfl
 have e2 : w.cell? ⟨L.db, line.toNat * 15 + 2, none⟩ = some (U (s.ent line).data.a) := h.ent_cell hk 2 _ rfl
 have e3 : w.cell? ⟨L.db, line.toNat * 15 + 3, none⟩ = some (U (s.ent line).data.b) := h.ent_cell hk 3 _ rfl
 have e4 : w.cell? ⟨L.db, line.toNat * 15 + 4, none⟩ = some (U (s.ent line).data.c) := h.ent_cell hk 4 _ rfl
 have e5 : w.cell? ⟨L.db, line.toNat * 15 + 5, none⟩ = some (U (s.ent line).data.d) := h.ent_cell hk 5 _ rfl
 have e6 : w.cell? ⟨L.db, line.toNat * 15 + 6, none⟩ = some (U (s.ent line).data.e) := h.ent_cell hk 6 _ rfl
 have e7 : w.cell? ⟨L.db, line.toNat * 15 + 7, none⟩ = some (U (s.ent line).data.f) := h.ent_cell hk 7 _ rfl
 have e8 : w.cell? ⟨L.db, line.toNat * 15 + 8, none⟩ = some (U (s.ent line).data.g) := h.ent_cell hk 8 _ rfl
 have e9 : w.cell? ⟨L.db, line.toNat * 15 + 9, none⟩ = some (U (s.ent line).data.h) := h.ent_cell hk 9 _ rfl
 have e10 : w.cell? ⟨L.db, line.toNat * 15 + 10, none⟩ = some (I (s.ent line).owner) := h.ent_cell hk 10 _ rfl
 have e11 : w.cell? ⟨L.db, line.toNat * 15 + 11, none⟩ = some (.int .u8 (s.ent line).share) := h.ent_cell hk 11 _ rfl
 have e12 : w.cell? ⟨L.db, line.toNat * 15 + 12, none⟩ = some (I (s.ent line).busy) := h.ent_cell hk 12 _ rfl
 have e13 : w.cell? ⟨L.db, line.toNat * 15 + 13, none⟩ = some (I (s.ent line).who) := h.ent_cell hk 13 _ rfl
 have e14 : w.cell? ⟨L.db, line.toNat * 15 + 14, none⟩ = some (.int .u8 (s.ent line).wait) := h.ent_cell hk 14 _ rfl
 have H := Vw h
 clear h hg hrd
 go_enter func229, ntmps229
 go_wp2_with fail
 refine hln.out.mono ?_
 rintro e w1 ⟨rfl, rfl⟩
 go_wp2_with fail
 refine (hry.out _).mono ?_
 rintro e w1 ⟨rfl, hb⟩
 have H1 := Vw (H.out.below hb)
 clear hb
 go_wp2_with fail
 go_ret
 exact ⟨rfl, H1.out⟩
theorem QG (T0 : Nat → Nat) (w0 : World) (L : SL) (s : Sys) (line : Int) (hk : BQ line = true) (hg : (s.ent line).good = true) (hrd : De (s.ent line) = true) (hd : (s.ent line).dirty = true) (hq : s.wq = []) (s' : Sys) (hr : (({ s with wq := [(line, (s.ent line).data)] } : Sys).setEnt line (FX (s.ent line))).sends line [⟨(s.ent line).who, Bu 14 0⟩] = some s') (w : World) (h : Sy T0 w0 L s w) : Y 229 #[L.sb, I line] w fun e w' => e = Z (I 0) ∧ Sy T0 w0 L s' w' := by
 have hln := Vw (Cd T0 w0 L s line hk w h)
 have hry := Vw (fun w => Fm (s.ent line) (by rw [hg]; rfl) w)
 rw [hrd] at hry
 have hwr := Vw (fun w h => Lu T0 w0 L s line hk hq hd w h)
 have hpu := Vw (fun w => Ky (s.ent line) hg hrd w)
 have hsd := Vw (fun T0 w0 S w hrow h => Ff T0 w0 L _ line [⟨(s.ent line).who, Bu 14 0⟩] s' hr S w hrow h)
 have HM := Vw (show ∀ (T0 : Nat → Nat) (w0 w : World), Sy T0 w0 L ({ s with wq := [(line, (s.ent line).data)] } : Sys) w → Sy T0 w0 L (({ s with wq := [(line, (s.ent line).data)] } : Sys).setEnt line (FX (s.ent line))) (w.setCells L.db (line.toNat * 15) (FX (s.ent line)).cells) from fun T0 w0 w h => h.put_all hk _)
 simp only [Ent.cells, FX] at hry hpu
 have c8 := h.dirp.1
 obtain ⟨k0, k1⟩ := BD hk
 have e0 : w.cell? ⟨L.db, line.toNat * 15, none⟩ = some (.bool (s.ent line).here) := h.ent_cell hk 0 _ rfl
 have e1 : w.cell? ⟨L.db, line.toNat * 15 + 1, none⟩ = some (.bool (s.ent line).dirty) := h.ent_cell hk 1 _ rfl
 have e2 : w.cell? ⟨L.db, line.toNat * 15 + 2, none⟩ = some (U (s.ent line).data.a) := h.ent_cell hk 2 _ rfl
 have e3 : w.cell? ⟨L.db, line.toNat * 15 + 3, none⟩ = some (U (s.ent line).data.b) := h.ent_cell hk 3 _ rfl
 have e4 : w.cell? ⟨L.db, line.toNat * 15 + 4, none⟩ = some (U (s.ent line).data.c) := h.ent_cell hk 4 _ rfl
 have e5 : w.cell? ⟨L.db, line.toNat * 15 + 5, none⟩ = some (U (s.ent line).data.d) := h.ent_cell hk 5 _ rfl
 have e6 : w.cell? ⟨L.db, line.toNat * 15 + 6, none⟩ = some (U (s.ent line).data.e) := h.ent_cell hk 6 _ rfl
 have e7 : w.cell? ⟨L.db, line.toNat * 15 + 7, none⟩ = some (U (s.ent line).data.f) := h.ent_cell hk 7 _ rfl
 have e8 : w.cell? ⟨L.db, line.toNat * 15 + 8, none⟩ = some (U (s.ent line).data.g) := h.ent_cell hk 8 _ rfl
 have e9 : w.cell? ⟨L.db, line.toNat * 15 + 9, none⟩ = some (U (s.ent line).data.h) := h.ent_cell hk 9 _ rfl
 have e10 : w.cell? ⟨L.db, line.toNat * 15 + 10, none⟩ = some (I (s.ent line).owner) := h.ent_cell hk 10 _ rfl
 have e11 : w.cell? ⟨L.db, line.toNat * 15 + 11, none⟩ = some (.int .u8 (s.ent line).share) := h.ent_cell hk 11 _ rfl
 have e12 : w.cell? ⟨L.db, line.toNat * 15 + 12, none⟩ = some (I (s.ent line).busy) := h.ent_cell hk 12 _ rfl
 have e13 : w.cell? ⟨L.db, line.toNat * 15 + 13, none⟩ = some (I (s.ent line).who) := h.ent_cell hk 13 _ rfl
 have e14 : w.cell? ⟨L.db, line.toNat * 15 + 14, none⟩ = some (.int .u8 (s.ent line).wait) := h.ent_cell hk 14 _ rfl
 have H := Vw h
 clear h hg hrd hd hr hq
 go_enter func229, ntmps229
 go_wp2_with fail
 refine hln.out.mono ?_
 rintro e w1 ⟨rfl, rfl⟩
 go_wp2_with fail
 refine (hry.out _).mono ?_
 rintro e w1 ⟨rfl, hb⟩
 have H1 := Vw (H.out.below hb)
 clear hb
 go_wp2_with fail
 refine (hwr.out _ H1.out).mono ?_
 rintro e w2 ⟨rfl, h2⟩
 have H2 := Vw h2
 clear e0 e1 e2 e3 e4 e5 e6 e7 e8 e9 e10 e11 e12 e13 e14 c8
 have c8 := h2.dirp.1
 have e0 : w2.cell? ⟨L.db, line.toNat * 15, none⟩ = some (.bool (s.ent line).here) := h2.ent_cell hk 0 _ rfl
 have e1 : w2.cell? ⟨L.db, line.toNat * 15 + 1, none⟩ = some (.bool (s.ent line).dirty) := h2.ent_cell hk 1 _ rfl
 have e2 : w2.cell? ⟨L.db, line.toNat * 15 + 2, none⟩ = some (U (s.ent line).data.a) := h2.ent_cell hk 2 _ rfl
 have e3 : w2.cell? ⟨L.db, line.toNat * 15 + 3, none⟩ = some (U (s.ent line).data.b) := h2.ent_cell hk 3 _ rfl
 have e4 : w2.cell? ⟨L.db, line.toNat * 15 + 4, none⟩ = some (U (s.ent line).data.c) := h2.ent_cell hk 4 _ rfl
 have e5 : w2.cell? ⟨L.db, line.toNat * 15 + 5, none⟩ = some (U (s.ent line).data.d) := h2.ent_cell hk 5 _ rfl
 have e6 : w2.cell? ⟨L.db, line.toNat * 15 + 6, none⟩ = some (U (s.ent line).data.e) := h2.ent_cell hk 6 _ rfl
 have e7 : w2.cell? ⟨L.db, line.toNat * 15 + 7, none⟩ = some (U (s.ent line).data.f) := h2.ent_cell hk 7 _ rfl
 have e8 : w2.cell? ⟨L.db, line.toNat * 15 + 8, none⟩ = some (U (s.ent line).data.g) := h2.ent_cell hk 8 _ rfl
 have e9 : w2.cell? ⟨L.db, line.toNat * 15 + 9, none⟩ = some (U (s.ent line).data.h) := h2.ent_cell hk 9 _ rfl
 have e10 : w2.cell? ⟨L.db, line.toNat * 15 + 10, none⟩ = some (I (s.ent line).owner) := h2.ent_cell hk 10 _ rfl
 have e11 : w2.cell? ⟨L.db, line.toNat * 15 + 11, none⟩ = some (.int .u8 (s.ent line).share) := h2.ent_cell hk 11 _ rfl
 have e12 : w2.cell? ⟨L.db, line.toNat * 15 + 12, none⟩ = some (I (s.ent line).busy) := h2.ent_cell hk 12 _ rfl
 have e13 : w2.cell? ⟨L.db, line.toNat * 15 + 13, none⟩ = some (I (s.ent line).who) := h2.ent_cell hk 13 _ rfl
 have e14 : w2.cell? ⟨L.db, line.toNat * 15 + 14, none⟩ = some (.int .u8 (s.ent line).wait) := h2.ent_cell hk 14 _ rfl
 clear h2
 go_wp2_with fail
 refine (hpu.out _).mono ?_
 rintro e w3 ⟨S, rfl, hr3, hS3, hb3⟩
 obtain ⟨W8, hE, -, hI8⟩ := alloc_new w3 (.cells #[.bool (s.ent line).here, false, U (s.ent line).data.a, U (s.ent line).data.b, U (s.ent line).data.c, U (s.ent line).data.d, U (s.ent line).data.e, U (s.ent line).data.f, U (s.ent line).data.g, U (s.ent line).data.h, I (s.ent line).owner, .int .u8 (s.ent line).share, I 0, I 0, .int .u8 0] 114)
 have hb8 : Below w2 w2 W8 := hb3.trans ((hE ▸ AC w3 _ : Below w3 w3 W8).mono hb3.size)
 have hr8 := hr3.below (hE ▸ AC w3 _ : Below w3 w3 W8)
 obtain ⟨T8, hS8, hfr8, hk8, hback8⟩ := H2.out.fresh hb8
 have HT8 := Vw (show T8 w3.heap.size = 0 ∧ (∀ k, S.ownBlock = some k → T8 k = 0) from ⟨hfr8 _ hb3.size, fun k hk => hfr8 _ (hS3 k hk)⟩)
 have HI8 := Vw (WA hI8 hr8)
 have H8 := Vw hS8
 have HK8 := Vw hback8
 obtain ⟨A8, cq8, rfl⟩ := hr8.form
 have hN : w3.heap.size ≠ L.db := fun e => by
  obtain ⟨T', V', h', _, _⟩ := H2.out
  have q1 := AF h'.dir
  have q2 := hb3.size
  rw [e] at q2
  exact absurd q1 (Nat.not_lt.2 q2)
 have d8 := hS8.dirp.1
 have f8 := hS8.free.1
 have c9 := AA hI8
 have f9 := AJ hI8
 have UO := CZ hI8 (k := 12) (v := I 0) rfl
 have g13 := CZ hI8 (k := 13) (v := I 0) rfl
 have g14 := CZ hI8 (k := 14) (v := .int .u8 0) rfl
 have y0 : W8.cell? ⟨L.db, line.toNat * 15, none⟩ = some (.bool (s.ent line).here) := hS8.ent_cell hk 0 _ rfl
 have y1 : W8.cell? ⟨L.db, line.toNat * 15 + 1, none⟩ = some (.bool (s.ent line).dirty) := hS8.ent_cell hk 1 _ rfl
 have y2 : W8.cell? ⟨L.db, line.toNat * 15 + 2, none⟩ = some (U (s.ent line).data.a) := hS8.ent_cell hk 2 _ rfl
 have y3 : W8.cell? ⟨L.db, line.toNat * 15 + 3, none⟩ = some (U (s.ent line).data.b) := hS8.ent_cell hk 3 _ rfl
 have y4 : W8.cell? ⟨L.db, line.toNat * 15 + 4, none⟩ = some (U (s.ent line).data.c) := hS8.ent_cell hk 4 _ rfl
 have y5 : W8.cell? ⟨L.db, line.toNat * 15 + 5, none⟩ = some (U (s.ent line).data.d) := hS8.ent_cell hk 5 _ rfl
 have y6 : W8.cell? ⟨L.db, line.toNat * 15 + 6, none⟩ = some (U (s.ent line).data.e) := hS8.ent_cell hk 6 _ rfl
 have y7 : W8.cell? ⟨L.db, line.toNat * 15 + 7, none⟩ = some (U (s.ent line).data.f) := hS8.ent_cell hk 7 _ rfl
 have y8 : W8.cell? ⟨L.db, line.toNat * 15 + 8, none⟩ = some (U (s.ent line).data.g) := hS8.ent_cell hk 8 _ rfl
 have y9 : W8.cell? ⟨L.db, line.toNat * 15 + 9, none⟩ = some (U (s.ent line).data.h) := hS8.ent_cell hk 9 _ rfl
 have y10 : W8.cell? ⟨L.db, line.toNat * 15 + 10, none⟩ = some (I (s.ent line).owner) := hS8.ent_cell hk 10 _ rfl
 have y11 : W8.cell? ⟨L.db, line.toNat * 15 + 11, none⟩ = some (.int .u8 (s.ent line).share) := hS8.ent_cell hk 11 _ rfl
 have y12 : W8.cell? ⟨L.db, line.toNat * 15 + 12, none⟩ = some (I (s.ent line).busy) := hS8.ent_cell hk 12 _ rfl
 have y13 : W8.cell? ⟨L.db, line.toNat * 15 + 13, none⟩ = some (I (s.ent line).who) := hS8.ent_cell hk 13 _ rfl
 have y14 : W8.cell? ⟨L.db, line.toNat * 15 + 14, none⟩ = some (.int .u8 (s.ent line).wait) := hS8.ent_cell hk 14 _ rfl
 clear hI8 hb8 hr8 hS8 hfr8 hk8 hback8 hr3 hS3 hb3
 clear e0 e1 e2 e3 e4 e5 e6 e7 e8 e9 e10 e11 e12 e13 e14 c8
 go_wp2_with fail
 try rw [UO, g13, g14]
 go_still_tail 7, (by kernel_rfl)
 change wpList _ _ _ _ _ W8.drew
 go_wp2_with fail
 generalize hW : World.setCell _ ⟨L.db, line.toNat * 15 + 14, none⟩ _ = W11
 have h11 := Vw (show Sy T8 W8 L _ W11.drew from Sy.drew (by rw [← hW]; exact HM.out _ _ _ H8.out))
 clear hW
 refine (hsd.out _ _ _ _ (HI8.out.2.kept fun k hk => ?_) h11.out).mono ?_
 · obtain ⟨T', V', h', hb', hc'⟩ := h11.out
   exact hc'.block k (HI8.out.2.lt k hk) (by simp [HT8.out.2 k hk])
 rintro e w12 ⟨rfl, h12⟩
 have H12 := Vw h12
 clear h12
 go_wp2_with fail
 go_ret
 exact ⟨rfl, HK8.out _ _ H12.out⟩
theorem Kx {e : Ent} (h : (e.good || e.isEmpty) = true) (hr : De e = true) : e.good = true := by
 cases hg : e.good
 · rw [hg, Bool.false_or] at h
   simp only [Ent.isEmpty, Bool.and_eq_true, beq_iff_eq] at h
   simp only [De, Bool.and_eq_true, beq_iff_eq] at hr
   omega
 · rfl
theorem NP (T0 : Nat → Nat) (w0 : World) (L : SL) (s : Sys) (line : Int) (s' : Sys) (b : Bool) (hr : s.push line = some (s', b)) (w : World) (h : Sy T0 w0 L s w) : Y 229 #[L.sb, I line] w fun e w' => e = Z (I (if b = true then 0 else 16)) ∧ Sy T0 w0 L s' w' := by
 obtain ⟨hk, hr⟩ := As hr
 obtain ⟨hg, hr⟩ := As hr
 cases hy : De (s.ent line)
 · simp only [hy, Bool.false_eq_true, if_false, Option.some.injEq, Prod.mk.injEq] at hr
   obtain ⟨rfl, rfl⟩ := hr
   exact RT T0 w0 L s line hk hg hy w h
 · simp only [hy, if_true] at hr
   obtain ⟨hd, hr⟩ := As hr
   simp only [Bool.and_eq_true, List.isEmpty_iff] at hd
   obtain ⟨s1, h1, hr⟩ := Option.bind_eq_some_iff.1 hr
   simp only [Option.some.injEq, Prod.mk.injEq] at hr
   obtain ⟨rfl, rfl⟩ := hr
   exact QG T0 w0 L s line hk (Kx hg hy) hy hd.1 hd.2 _ h1 w h
theorem Tz (g room : Nat) (L : List Sb.Ent) (w : World) (h : Sb.SQ w g room L) : Y 126 #[g] w fun e w' => e = Z (I L.length) ∧ w = w' := by
 obtain ⟨es, first, hb, _⟩ := h
 exact Sb.len_some g es room first L.length w hb
theorem Fn (T0 : Nat → Nat) (w0 : World) (L : SL) (C : CC) (m : Mach) (i : Int) (hi : AK i = true) (xb : Nat) (x : Ins) (c : Core) (s : Sys) (evs : List Ev) (w : World) (h : Sp T0 w0 L C m i xb x c s evs w) : Y 368 #[xb] w fun e w' => e = Z (.bool c.still) ∧ w = w' := by
 obtain ⟨S, hx⟩ := h.cells
 have hc := h.coreAt hi
 unfold FR at hx
 have c1 := AA hx
 have hh := hc.head
 unfold BY at hh
 have c2 := AA hh
 have hl := Vw (Tz _ _ _ w hc.buf)
 have hs : c.still = (c.buf.isEmpty && c.waits == 0) := rfl
 rw [hs]
 rw [List.length_map] at hl
 clear h hx hh hc hs
 cases hb : c.buf with
 | nil =>
   rw [hb] at hl
   go_enter func368, ntmps368
   go_wp2_with fail
   refine hl.out.mono ?_
   rintro e w1 ⟨rfl, rfl⟩
   go_wp2_with fail
   go_ret
   exact ⟨rfl, rfl⟩
 | cons e l =>
   rw [hb] at hl
   have hne : ¬ (((e :: l).length : Nat) : Int) = 0 := by simp; omega
   generalize (((e :: l).length : Nat) : Int) = n at *
   go_enter func368, ntmps368
   go_wp2_with fail
   refine hl.out.mono ?_
   rintro e w1 ⟨rfl, rfl⟩
   go_wp2_with fail
   go_ret
   exact ⟨rfl, rfl⟩
theorem JK {a : Int} (h : Cv a = true) : 0 ≤ a ∧ a < 320 ∧ a % 8 = 0 := by
 simp only [Cv, Bool.and_eq_true, decide_eq_true_eq, beq_iff_eq] at h
 exact ⟨h.1.1, h.1.2, h.2⟩
theorem Fz (T0 : Nat → Nat) (w0 : World) (L : SL) (C : CC) (m : Mach) (i : Int) (hi : AK i = true) (xb : Nat) (x : Ins) (c : Core) (s : Sys) (evs : List Ev) (hrb : BH x.b = true) (ha : Cv (AL c x) = true) (w : World) (h : Sp T0 w0 L C m i xb x c s evs w) : Y 364 #[xb] w fun e w' => e = Z (.tuple #[I (AL c x / 64), I (AL c x % 64 / 8), true]) ∧ Sp T0 w0 L C m i xb x c s evs w' := by
 obtain ⟨a0, a1, a8⟩ := JK ha
 obtain ⟨r0, r1⟩ := Ch hrb
 have hsum := Vw (fun w => Po (c.reg x.b) x.imm w)
 have hA : (c.reg x.b + x.imm) % 18446744073709551616 = AL c x := rfl
 rw [hA] at hsum
 clear hA
 have hat := Vw (fun w => Mm 5 (AL c x) rfl a0 a1 a8 w)
 have hcf := Vw (show ∀ w, Sp T0 w0 L C m i xb x c s evs w → Y 40 #[L.sb] w fun e w' => e = Z Dv ∧ Sp T0 w0 L C m i xb x c s evs w' ∧ Below w.heap.size w w' from fun w h => by
  obtain ⟨T, hs, _⟩ := h.sy
  exact (Jd T w L s w hs).mono fun e w' k => ⟨k.1, h.below k.2, k.2⟩)
 unfold Dv at hcf
 have hfld : ∀ w : World, (Instr.field 23 (.agg KE) 1).run prog w = .ok (I 5) w := fun w => by kernel_rfl
 generalize AL c x = A at *
 have HS := Vw (show ∀ w' : World, Sp T0 w0 L C m i xb x c s evs w' → w'.cell? xb = some (.pointer (some ⟨(C.at i).cb, 0, none⟩)) ∧ w'.cell? ⟨xb, 1, none⟩ = some (.pointer (some L.sb)) ∧ w'.cell? ⟨xb, 4, none⟩ = some (I x.b) ∧ w'.cell? ⟨xb, 6, none⟩ = some (I x.imm) ∧ w'.cell? ⟨(C.at i).cb, 1 + x.b.toNat, none⟩ = some (U (c.reg x.b)) from fun w' h => by
  obtain ⟨S, hx⟩ := h.cells
  have hc := h.coreAt hi
  exact ⟨AD hx 0 rfl, AD hx 1 rfl, AD hx 4 rfl, AD hx 6 rfl, hc.reg hrb⟩)
 obtain ⟨q0, q1, q4, q6, qr⟩ := HS.out _ h
 have H := Vw h
 have HD := Vw h.drew
 clear h
 go_enter func364, ntmps364
 go_wp2_with fail
 go_region_held3 (fun w' => w'.cell? xb = some (.pointer (some ⟨(C.at i).cb, 0, none⟩)) ∧ w'.cell? ⟨xb, 1, none⟩ = some (.pointer (some L.sb)) ∧ w'.cell? ⟨xb, 4, none⟩ = some (I x.b) ∧ w'.cell? ⟨xb, 6, none⟩ = some (I x.imm) ∧ w'.cell? ⟨(C.at i).cb, 1 + x.b.toNat, none⟩ = some (U (c.reg x.b))) (first | with_reducible exact HS.out _ HD.out | with_reducible exact HS.out _ hk6)
  (first
   | (go_at_call 40; refine (hcf.out _ HD.out).mono ?_; rintro e w6 ⟨rfl, hk6, hb6⟩)
   | (go_at_call 397; refine (hsum.out _).mono ?_; rintro e w7 ⟨rfl, rfl⟩)
   | (go_at_call 396; refine (hat.out _).mono ?_; rintro e w7 ⟨rfl, rfl⟩))
 all_goals
  go_wp2_with fail
  go_ret3
  exact ⟨rfl, hk6⟩
theorem Im (line word : Int) : ∀ (l : List SE) (v : Option Int), Js line word v l = (Sb.found (l.map SE.ent) line word).or v
 | [], v => by simp [Js, Sb.found]
 | e :: l, v => by
   rw [Js, Im line word l]
   simp only [Sb.found, List.map_cons, List.reverse_cons, List.find?_append, List.find?_cons, List.find?_nil]
   cases (List.find? (Sb.hit line word) (List.map SE.ent l).reverse) with
   | some q => simp
   | none =>
     have : Sb.hit line word e.ent = (e.kind == 9 && e.line == line && e.word == word) := rfl
     rw [this]
     cases (e.kind == 9 && e.line == line && e.word == word) <;> simp [SE.ent]
theorem Sp.setReg {T0 : Nat → Nat} {w0 : World} {L : SL} {C : CC} {m : Mach} {i : Int} {xb : Nat} {x : Ins} {c : Core} {s : Sys} {evs : List Ev} {w : World} (hi : AK i = true) (h : Sp T0 w0 L C m i xb x c s evs w) {a : Int} (ha : BH a = true) (v : Int) : Sp T0 w0 L C m i xb x (c.setReg a v) s evs (w.setCell ⟨(C.at i).cb, 1 + a.toNat, none⟩ (U v)) := by
 have hc := h.coreAt hi
 exact h.setCore hi ((Pres.refl _ w).setCell (p := ⟨(C.at i).cb, 1 + a.toNat, none⟩) (by simp) _) (hc.set _ _ (VE _ _ _ hc.len a ha v) (by simp [Core.setReg, hc.len]) rfl rfl)
theorem Sp.x {T0 : Nat → Nat} {w0 : World} {L : SL} {C : CC} {m : Mach} {i : Int} {xb : Nat} {x : Ins} {c : Core} {s : Sys} {evs : List Ev} {w : World} (h : Sp T0 w0 L C m i xb x c s evs w) : w.cell? xb = some (.pointer (some ⟨(C.at i).cb, 0, none⟩)) ∧ w.cell? ⟨xb, 1, none⟩ = some (.pointer (some L.sb)) ∧ w.cell? ⟨xb, 2, none⟩ = I x.op ∧ w.cell? ⟨xb, 3, none⟩ = I x.a ∧ w.cell? ⟨xb, 4, none⟩ = I x.b ∧ w.cell? ⟨xb, 5, none⟩ = I x.c ∧ w.cell? ⟨xb, 6, none⟩ = I x.imm := by
 obtain ⟨S, hx⟩ := h.cells
 exact ⟨AD hx 0 rfl, AD hx 1 rfl, AD hx 2 rfl, AD hx 3 rfl, AD hx 4 rfl, AD hx 5 rfl, AD hx 6 rfl⟩
theorem Sp.id {T0 : Nat → Nat} {w0 : World} {L : SL} {C : CC} {m : Mach} {i : Int} {xb : Nat} {x : Ins} {c : Core} {s : Sys} {evs : List Ev} {w : World} (hi : AK i = true) (h : Sp T0 w0 L C m i xb x c s evs w) : w.cell? ⟨(C.at i).cb, 0, none⟩ = I i ∧ w.cell? ⟨(C.at i).cb, 11, none⟩ = some (.pointer (some ⟨(C.at i).gb, 0, none⟩)) ∧ w.cell? ⟨(C.at i).cb, 12, none⟩ = I c.waits ∧ w.cell? ⟨(C.at i).cb, 13, none⟩ = c.runs ∧ (∀ k, w.frozen? ⟨(C.at i).cb, k, none⟩ = false) := by
 have hc := (h.coreAt hi).head
 exact ⟨AD hc 0 rfl, AD hc 11 rfl, AD hc 12 rfl, AD hc 13 rfl, AJ hc⟩
theorem PV (T0 : Nat → Nat) (w0 : World) (L : SL) (C : CC) (m : Mach) (i : Int) (hi : AK i = true) (xb : Nat) (x : Ins) (c : Core) (s : Sys) (evs : List Ev) (hs : c.still = true) (h0 : 0 ≤ c.place) (h1 : c.place < 1000000) (hl : evs.length < 900) (w : World) (h : Sp T0 w0 L C m i xb x c s evs w) : Y 311 #[xb] w fun e w' => e = Z (.tuple #[]) ∧ Sp T0 w0 L C m i xb x c.next s (evs ++ [⟨7, i, 0, 0, 0⟩]) w' := by
 have hst := Vw (Fn T0 w0 L C m i hi xb x c s evs w h)
 rw [hs] at hst
 have hev := Vw (fun w h => BU T0 w0 L C m i hi xb x c s evs 7 0 0 0 (by omega) w h)
 have hnx := Vw (fun w h => CK T0 w0 L C m i hi xb x c s (evs ++ [⟨7, i, 0, 0, 0⟩]) h0 h1 w h)
 have H := Vw h
 clear h
 go_enter func311, ntmps311
 go_wp2_with fail
 refine hst.out.mono ?_
 rintro e w1 ⟨rfl, rfl⟩
 go_wp2_with fail
 refine (hev.out _ H.out).mono ?_
 rintro e w1 ⟨rfl, h1⟩
 have H1 := Vw h1
 clear h1
 go_wp2_with fail
 refine (hnx.out _ H1.out).mono ?_
 rintro e w2 ⟨rfl, h2⟩
 have H2 := Vw h2
 clear h2
 go_wp2_with fail
 go_end0
 exact ⟨rfl, H2.out⟩
theorem Qt (T0 : Nat → Nat) (w0 : World) (L : SL) (C : CC) (m : Mach) (i : Int) (hi : AK i = true) (xb : Nat) (x : Ins) (c : Core) (s : Sys) (evs : List Ev) (hs : c.still = false) (w : World) (h : Sp T0 w0 L C m i xb x c s evs w) : Y 311 #[xb] w fun e w' => e = Z (.tuple #[]) ∧ Sp T0 w0 L C m i xb x c s evs w' := by
 have hst := Vw (Fn T0 w0 L C m i hi xb x c s evs w h)
 rw [hs] at hst
 have H := Vw h
 clear h
 go_enter func311, ntmps311
 go_wp2_with fail
 refine hst.out.mono ?_
 rintro e w1 ⟨rfl, rfl⟩
 go_wp2_with fail
 go_end0
 exact ⟨rfl, H.out⟩
theorem cloadX :
  (∀ (T0 : Nat → Nat) (w0 : World) (L : SL) (C : CC) (m : Mach) (i : Int) (hi : AK i = true) (xb : Nat) (x : Ins) (c : Core) (s : Sys) (evs : List Ev) (hrb : BH x.b = true) (hra : BH x.a = true) (ha : Cv (AL c x) = true) (h0 : 0 ≤ c.place) (h1 : c.place < 1000000) (hl : evs.length < 900) (v0 : Option Int) (hv0 : v0 = none) (hf : Sb.found (c.buf.map SE.ent) (AL c x / 64) (AL c x % 64 / 8) = v0) (s1 : Sys) (v : Int) (hs : s.load i (AL c x / 64) (AL c x % 64 / 8) = some (s1, v, true)) (w : World) (h : Sp T0 w0 L C m i xb x c s evs w), Y 309 #[xb] w fun e w' => e = Z (.tuple #[]) ∧ Sp T0 w0 L C m i xb x (c.setReg x.a v).next s1 (evs ++ [⟨1, i, AL c x / 64, AL c x % 64 / 8, v⟩]) w') ∧
  (∀ (T0 : Nat → Nat) (w0 : World) (L : SL) (C : CC) (m : Mach) (i : Int) (hi : AK i = true) (xb : Nat) (x : Ins) (c : Core) (s : Sys) (evs : List Ev) (hrb : BH x.b = true) (ha : Cv (AL c x) = true) (v0 : Option Int) (hv0 : v0 = none) (hf : Sb.found (c.buf.map SE.ent) (AL c x / 64) (AL c x % 64 / 8) = v0) (s1 : Sys) (v : Int) (hs : s.load i (AL c x / 64) (AL c x % 64 / 8) = some (s1, v, false)) (w : World) (h : Sp T0 w0 L C m i xb x c s evs w), Y 309 #[xb] w fun e w' => e = Z (.tuple #[]) ∧ Sp T0 w0 L C m i xb x c s1 evs w') ∧
  (∀ (T0 : Nat → Nat) (w0 : World) (L : SL) (C : CC) (m : Mach) (i : Int) (hi : AK i = true) (xb : Nat) (x : Ins) (c : Core) (s : Sys) (evs : List Ev) (hrb : BH x.b = true) (hra : BH x.a = true) (ha : Cv (AL c x) = true) (h0 : 0 ≤ c.place) (h1 : c.place < 1000000) (hl : evs.length < 900) (v0 : Option Int) (v : Int) (hv0 : v0 = some v) (hf : Sb.found (c.buf.map SE.ent) (AL c x / 64) (AL c x % 64 / 8) = v0) (w : World) (h : Sp T0 w0 L C m i xb x c s evs w), Y 309 #[xb] w fun e w' => e = Z (.tuple #[]) ∧ Sp T0 w0 L C m i xb x (c.setReg x.a v).next s (evs ++ [⟨2, i, AL c x / 64, AL c x % 64 / 8, v⟩]) w') := by
 refine ⟨?m0, ?m1, ?m2⟩
 case' m0 =>
  intro T0 w0 L C m i hi xb x c s evs hrb hra ha h0 h1 hl v0 hv0 hf s1 v hs w h
  have mk_0 := trivial
 case' m1 =>
  intro T0 w0 L C m i hi xb x c s evs hrb ha v0 hv0 hf s1 v hs w h
  have mk_1 := trivial
 case' m2 =>
  intro T0 w0 L C m i hi xb x c s evs hrb hra ha h0 h1 hl v0 v hv0 hf w h
  have mk_2 := trivial
 all_goals
  have hrb := hrb
  have hat := Vw (fun w h => Fz T0 w0 L C m i hi xb x c s evs hrb ha w h)
  have hfd := Vw (show ∀ w, Sp T0 w0 L C m i xb x c s evs w → Y 365 #[.pointer (some ⟨(C.at i).gb, 0, none⟩), I (AL c x / 64), I (AL c x % 64 / 8)] w fun e w' => e = Z (.tuple #[U (v0.getD 0), v0.isSome]) ∧ Sp T0 w0 L C m i xb x c s evs w' from fun w h => by
   have := Sb.find_some _ _ _ (AL c x / 64) (AL c x % 64 / 8) w (h.coreAt hi).buf
   rw [hf] at this
   exact this.mono fun e w' k => ⟨k.1, h.below k.2⟩)
  subst hv0
  first
   | guard_hyp mk_1
     have hld := Vw (show ∀ w, Sp T0 w0 L C m i xb x c s evs w → Y 366 #[L.sb, I i, I (AL c x / 64), I (AL c x % 64 / 8)] w fun e w' => e = Z (.tuple #[v, false]) ∧ Sp T0 w0 L C m i xb x c s1 evs w' from fun w h => by
      obtain ⟨T, hsy, hb⟩ := h.sy
      exact (FF T w L s i hi _ _ v false s1 hs w hsy).mono fun e w' k => ⟨k.1, hb _ _ k.2⟩)
     have HS := Vw (show ∀ (s : Sys) (w' : World), Sp T0 w0 L C m i xb x c s evs w' → w'.cell? xb = some (.pointer (some ⟨(C.at i).cb, 0, none⟩)) ∧ w'.cell? ⟨xb, 1, none⟩ = some (.pointer (some L.sb)) ∧ w'.cell? ⟨(C.at i).cb, 0, none⟩ = some (I i) from fun s w' h => ⟨h.x.1, h.x.2.1, (h.id hi).1⟩)
   | guard_hyp mk_2
     have hev := Vw (fun w h => BU T0 w0 L C m i hi xb x c s evs 2 (AL c x / 64) (AL c x % 64 / 8) v (by omega) w h)
     have hnx := Vw (fun w h => CK T0 w0 L C m i hi xb x (c.setReg x.a v) s (evs ++ [⟨2, i, AL c x / 64, AL c x % 64 / 8, v⟩]) h0 h1 w h)
   | have hld := Vw (show ∀ w, Sp T0 w0 L C m i xb x c s evs w → Y 366 #[L.sb, I i, I (AL c x / 64), I (AL c x % 64 / 8)] w fun e w' => e = Z (.tuple #[v, true]) ∧ Sp T0 w0 L C m i xb x c s1 evs w' from fun w h => by
      obtain ⟨T, hsy, hb⟩ := h.sy
      exact (FF T w L s i hi _ _ v true s1 hs w hsy).mono fun e w' k => ⟨k.1, hb _ _ k.2⟩)
     have hev := Vw (fun w h => BU T0 w0 L C m i hi xb x c s1 evs 1 (AL c x / 64) (AL c x % 64 / 8) v (by omega) w h)
     have hnx := Vw (fun w h => CK T0 w0 L C m i hi xb x (c.setReg x.a v) s1 (evs ++ [⟨1, i, AL c x / 64, AL c x % 64 / 8, v⟩]) h0 h1 w h)
     have HS := Vw (show ∀ (s : Sys) (w' : World), Sp T0 w0 L C m i xb x c s evs w' → w'.cell? xb = some (.pointer (some ⟨(C.at i).cb, 0, none⟩)) ∧ w'.cell? ⟨xb, 1, none⟩ = some (.pointer (some L.sb)) ∧ w'.cell? ⟨(C.at i).cb, 0, none⟩ = some (I i) from fun s w' h => ⟨h.x.1, h.x.2.1, (h.id hi).1⟩)
  have H := Vw h
  first
   | guard_hyp mk_2
     clear h hf ha
   | clear h hf hs ha
  generalize AL c x / 64 = ln at *
  generalize AL c x % 64 / 8 = wd at *
  go_enter func309, ntmps309
  go_wp2_with fail
  refine (hat.out _ H.out).mono ?_
  rintro e w1 ⟨rfl, h1⟩
  have H1 := Vw h1
  have x0 := h1.x.1
  have x11 := (h1.id hi).2.1
  clear h1
  go_wp2_with fail
  refine (hfd.out _ H1.out).mono ?_
  rintro e w2 ⟨rfl, h2⟩
  have H2 := Vw h2
  first
   | guard_hyp mk_2
   | have HD := Vw h2.drew
     obtain ⟨q0, q1, qi⟩ := HS.out _ _ h2
  clear h2 x0 x11
  go_wp2_with fail
  first
   | guard_hyp mk_2
     refine (hev.out _ H2.out).mono ?_
     rintro e w4 ⟨rfl, h4⟩
     have H4 := Vw h4
     obtain ⟨x0, _, _, x3, _, _, _⟩ := h4.x
     have xr := (h4.coreAt hi).reg hra
     have f4 := (h4.id hi).2.2.2.2
     obtain ⟨a0, a1⟩ := Ch hra
     clear h4
   | go_region_held3 (fun w' => w'.cell? xb = some (.pointer (some ⟨(C.at i).cb, 0, none⟩)) ∧ w'.cell? ⟨xb, 1, none⟩ = some (.pointer (some L.sb)) ∧ w'.cell? ⟨(C.at i).cb, 0, none⟩ = some (I i)) (first | with_reducible exact HS.out _ _ HD.out | with_reducible exact HS.out _ _ hk6)
      (first
       | (go_at_call 366; refine (hld.out _ HD.out).mono ?_; rintro e w3 ⟨rfl, hk6⟩))
     have H3 := Vw hk6
     clear hk6 q0 q1 qi
  go_wp2_with fail
  first
   | guard_hyp mk_1
     refine bodyPost_ret (results_none rfl _ _ _) rfl ?_
     exact ⟨rfl, H3.out⟩
   | guard_hyp mk_2
     go_still_tail 13, (by kernel_rfl)
     change wpList _ _ _ _ _ w4.drew
     go_wp2_with fail
     refine (hnx.out _ (H4.out.setReg hi hra v).drew).mono ?_
     rintro e w5 ⟨rfl, h5⟩
     have H5 := Vw h5
     clear h5
     go_wp2_with fail
     go_end0
     exact ⟨rfl, H5.out⟩
   | refine (hev.out _ H3.out).mono ?_
     rintro e w4 ⟨rfl, h4⟩
     have H4 := Vw h4
     obtain ⟨x0, _, _, x3, _, _, _⟩ := h4.x
     have xr := (h4.coreAt hi).reg hra
     have f4 := (h4.id hi).2.2.2.2
     obtain ⟨a0, a1⟩ := Ch hra
     clear h4
     go_wp2_with fail
     go_still_tail 13, (by kernel_rfl)
     change wpList _ _ _ _ _ w4.drew
     go_wp2_with fail
     refine (hnx.out _ (H4.out.setReg hi hra v).drew).mono ?_
     rintro e w5 ⟨rfl, h5⟩
     have H5 := Vw h5
     clear h5
     go_wp2_with fail
     go_end0
     exact ⟨rfl, H5.out⟩
end Go.Proofs.YtkoplblbeapfgaaGreatDoor
