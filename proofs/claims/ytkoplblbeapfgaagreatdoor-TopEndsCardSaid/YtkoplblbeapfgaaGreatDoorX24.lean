/-
Parts of the walk of TopEnds. Conditions stand in each statement.
-/
import Derived.Test.YtkoplblbeapfgaaGreatDoorX19
import Derived.Test.YtkoplblbeapfgaaGreatDoorX20
import Derived.Test.YtkoplblbeapfgaaGreatDoorX21
import Derived.Test.YtkoplblbeapfgaaGreatDoorX23
namespace Go.Proofs.YtkoplblbeapfgaaGreatDoor
open Go.RowKit
open Tryz
set_option linter.all false
set_option maxRecDepth 100000
set_option maxHeartbeats 8000000
def Core.doI (c : Core) (s : Sys) (k : Int) (i : Ins) : Option (Core × Sys × List Ev) :=
 if (i.op == 1) = true then some ((c.setReg i.a (Gz i.imm)).next, s, [])
 else if (i.op == 8) = true then c.load s k i
 else if (i.op == 9 || i.op == 12) = true then (c.put k i).map fun r => (r.1, s, r.2)
 else if (i.op == 15) = true then (if c.still = true then some (c.next, s, [⟨7, k, 0, 0, 0⟩]) else some (c, s, []))
 else if (i.op == 10) = true then c.locked s k i
 else if (i.op == 21) = true then some (c.next, s, [⟨8, k, 0, 0, c.reg i.a⟩])
 else if (i.op == 22) = true then some ({ c with runs := false }, s, [⟨9, k, 0, 0, 0⟩])
 else if (i.op == 2 || i.op == 3 || i.op == 6) = true then
  (KS i.op (c.reg i.b) (c.reg i.c)).bind fun v => some ((c.next).setReg i.a v, s, [])
 else (BK (i.op == 17 || i.op == 18 || i.op == 19)).bind fun _ =>
  some ((if LJ i.op (c.reg i.a) (c.reg i.b) = true then { c with place := i.imm } else c.next), s, [])
theorem Kf {c : Core} {s : Sys} {k : Int} {r : Core × Sys × List Ev} (h : c.runs = true) (hr : c.exec s k = some r) : ∃ x, c.prog[c.place.toNat]? = some x ∧ 0 ≤ c.place ∧ c.place < c.prog.length ∧ BH x.a = true ∧ BH x.b = true ∧ BH x.c = true ∧ c.doI s k x = some r := by
 unfold Core.exec at hr
 rw [if_pos h] at hr
 obtain ⟨hg, hr⟩ := As hr
 simp only [Bool.and_eq_true, decide_eq_true_eq] at hg
 obtain ⟨⟨⟨⟨h0, h1⟩, h2⟩, h3⟩, h4⟩ := hg
 have hlt : c.place.toNat < c.prog.length := by omega
 have hn : ∀ (l : List Ins) (n : Nat), n < l.length → l[n]? = some (BO Lr l n) := by
  intro l
  induction l with
  | nil => intro n hn; simp at hn
  | cons a l ih =>
    intro n hn
    cases n with
    | zero => rfl
    | succ n => simpa [BO] using ih n (by simpa using hn)
 exact ⟨_, hn _ _ hlt, h0, h1, h2, h3, h4, hr⟩
theorem Jt {c : Core} {s : Sys} {k : Int} {r : Core × Sys × List Ev} (h : c.runs = false) (hr : c.exec s k = some r) : r = (c, s, []) := by
 unfold Core.exec at hr
 rw [if_neg (by simp [h])] at hr
 exact (Option.some.inj hr).symm
theorem UE {op a b : Int} (h : op = 17 ∨ op = 18 ∨ op = 19) : Al.goV op a b = LJ op a b := by
 rcases h with rfl | rfl | rfl <;> simp [Al.goV, LJ]
theorem TP {op b c v : Int} (h : KS op b c = some v) : (0 ≤ b ∧ b < 18446744073709551616) ∧ (0 ≤ c ∧ c < 18446744073709551616) ∧ Al.doOk op = true ∧ Al.doV op b c = v := by
 unfold KS at h
 split at h
 · cases h
 · rename_i hu
   simp only [RB, Bool.not_eq_false, Bool.and_eq_true, decide_eq_true_eq] at hu
   refine ⟨hu.1, hu.2, ?_⟩
   split at h
   · rename_i ho
     have ho : op = 2 := by simpa using ho
     subst ho
     refine ⟨rfl, ?_⟩
     simpa [Al.doV, Gz, IntKind.wrap_u64] using h
   · split at h
     · rename_i ho
       have ho : op = 3 := by simpa using ho
       subst ho
       refine ⟨rfl, ?_⟩
       simpa [Al.doV, Gz, IntKind.wrap_u64] using h
     · split at h
       · rename_i ho
         simp only [Bool.and_eq_true, beq_iff_eq] at ho
         obtain ⟨rfl, rfl⟩ := ho
         refine ⟨rfl, ?_⟩
         simpa [Al.doV, Gz, IntKind.wrap_u64] using h
       · cases h
theorem Qw (T0 : Nat → Nat) (w0 : World) (L : SL) (C : CC) (m : Mach) (i : Int) (hi : AK i = true) (xb : Nat) (x : Ins) (c : Core) (s : Sys) (hra : BH x.a = true) (hrb : BH x.b = true) (hrc : BH x.c = true) (h0 : 0 ≤ c.place) (h1 : c.place < 1000000) (c' : Core) (s' : Sys) (evs : List Ev) (hr : c.doI s i x = some (c', s', evs)) (w : World) (h : Sp T0 w0 L C m i xb x c s [] w) : Y 260 #[xb] w fun e w' => e = Z (.tuple #[]) ∧ Sp T0 w0 L C m i xb x c' s' evs w' := by
 unfold Core.doI at hr
 split at hr
 · rename_i ho
   have ho : x.op = 1 := by simpa using ho
   cases hr
   exact UU T0 w0 L C m i hi xb x c s [] ho hra h0 h1 w h
 split at hr
 · rename_i ho
   have ho : x.op = 8 := by simpa using ho
   unfold Core.load at hr
   obtain ⟨ha, hr⟩ := As hr
   have hfb := Im (AL c x / 64) (AL c x % 64 / 8) c.buf none
   simp only [hfb] at hr
   cases hf : Sb.found (c.buf.map SE.ent) (AL c x / 64) (AL c x % 64 / 8) with
   | some v =>
     simp only [hf, Option.or] at hr
     cases hr
     exact cdoX.1 T0 w0 L C m i hi xb x c s [] 8 rfl ho _ _ _ (fun w h => cloadX.2.2 T0 w0 L C m i hi xb x c s [] hrb hra ha h0 h1 (by simp) (some v) v rfl hf w h) w h
   | none =>
     simp only [hf, Option.or] at hr
     cases hl : s.load i (AL c x / 64) (AL c x % 64 / 8) with
     | none => simp [hl] at hr
     | some r =>
       obtain ⟨s1, v, hit⟩ := r
       simp only [hl, Option.bind_eq_bind, Option.bind_some] at hr
       cases hit
       · simp only [Bool.false_eq_true, if_false, Option.some.injEq, Prod.mk.injEq] at hr
         obtain ⟨rfl, rfl, rfl⟩ := hr
         exact cdoX.1 T0 w0 L C m i hi xb x c s [] 8 rfl ho _ _ _ (fun w h => cloadX.2.1 T0 w0 L C m i hi xb x c s [] hrb ha none rfl hf s1 v hl w h) w h
       · simp only [if_true, Option.some.injEq, Prod.mk.injEq] at hr
         obtain ⟨rfl, rfl, rfl⟩ := hr
         exact cdoX.1 T0 w0 L C m i hi xb x c s [] 8 rfl ho _ _ _ (fun w h => cloadX.1 T0 w0 L C m i hi xb x c s [] hrb hra ha h0 h1 (by simp) none rfl hf s1 v hl w h) w h
 split at hr
 · rename_i ho
   have ho : x.op = 9 ∨ x.op = 12 := by simpa using ho
   cases hp : c.put i x with
   | none => simp [hp] at hr
   | some r =>
     obtain ⟨c1, l1⟩ := r
     simp only [hp, Option.map_some, Option.some.injEq, Prod.mk.injEq] at hr
     obtain ⟨rfl, rfl, rfl⟩ := hr
     unfold Core.put at hp
     obtain ⟨ha, hp⟩ := As hp
     simp only [decide_eq_true_eq] at hp
     split at hp
     · rename_i hfull
       cases hp
       rcases ho with ho | ho
       · exact cdoX.2.1 T0 w0 L C m i hi xb x c s [] 9 (.inl rfl) ho _ _ _ (fun w h => cputX.2 T0 w0 L C m i hi xb x c s [] ho hrb hra ha hfull w h) w h
       · exact cdoX.2.1 T0 w0 L C m i hi xb x c s [] 12 (.inr rfl) ho _ _ _ (fun w h => cputY.2 T0 w0 L C m i hi xb x c s [] ho hrb hra ha hfull w h) w h
     · rename_i hroom
       rcases ho with ho | ho
       · simp only [ho, beq_self_eq_true, if_true] at hp
         cases hp
         exact cdoX.2.1 T0 w0 L C m i hi xb x c s [] 9 (.inl rfl) ho _ _ _ (fun w h => cputX.1 T0 w0 L C m i hi xb x c s [] ho hrb hra ha (by omega) h0 h1 (by simp) w h) w h
       · simp only [ho, show ((12 : Int) == 9) = false from rfl, Bool.false_eq_true, if_false] at hp
         cases hp
         exact cdoX.2.1 T0 w0 L C m i hi xb x c s [] 12 (.inr rfl) ho _ _ _ (fun w h => cputY.1 T0 w0 L C m i hi xb x c s [] ho hrb hra ha (by omega) h0 h1 (by simp) w h) w h
 split at hr
 · rename_i ho
   have ho : x.op = 15 := by simpa using ho
   split at hr
   · rename_i hs
     cases hr
     exact cdoX.2.2.1 T0 w0 L C m i hi xb x c s [] 15 rfl ho _ _ _ (fun w h => PV T0 w0 L C m i hi xb x c s [] hs h0 h1 (by simp) w h) w h
   · rename_i hs
     cases hr
     exact cdoX.2.2.1 T0 w0 L C m i hi xb x c s [] 15 rfl ho _ _ _ (fun w h => Qt T0 w0 L C m i hi xb x c s [] (by simpa using hs) w h) w h
 split at hr
 · rename_i ho
   have ho : x.op = 10 := by simpa using ho
   unfold Core.locked at hr
   obtain ⟨ha, hr⟩ := As hr
   simp only at hr
   split at hr
   · rename_i hs
     cases hre : s.reach i (AL c x / 64) with
     | none => simp [hre] at hr
     | some r =>
       obtain ⟨s1, has⟩ := r
       simp only [hre, Option.bind_eq_bind, Option.bind_some] at hr
       cases has
       · simp only [Bool.false_eq_true, if_false, Option.some.injEq, Prod.mk.injEq] at hr
         obtain ⟨rfl, rfl, rfl⟩ := hr
         exact cdoX.2.2.2.1 T0 w0 L C m i hi xb x c s [] 10 rfl ho _ _ _ (fun w h => clockedX.2.1 T0 w0 L C m i hi xb x c s [] hrb ha hs s1 hre w h) w h
       · simp only [if_true] at hr
         cases hld : s1.load i (AL c x / 64) (AL c x % 64 / 8) with
         | none => simp [hld] at hr
         | some r =>
           obtain ⟨s2, old, hit⟩ := r
           simp only [hld, Option.bind_some] at hr
           obtain ⟨hh, hr⟩ := As hr
           subst hh
           cases heq : (old == c.reg x.a) with
           | true =>
             simp only [heq, if_true] at hr
             cases hst : s2.store i (AL c x / 64) (AL c x % 64 / 8) (c.reg x.c) with
             | none => simp [hst] at hr
             | some r =>
               obtain ⟨s3, hit⟩ := r
               simp only [hst, Option.bind_some, Option.some.injEq, Prod.mk.injEq] at hr
               obtain ⟨rfl, rfl, rfl⟩ := hr
               exact cdoX.2.2.2.1 T0 w0 L C m i hi xb x c s [] 10 rfl ho _ _ _ (fun w h => clockedX.2.2.2 T0 w0 L C m i hi xb x c s [] hrb hra hrc ho ha h0 h1 (by simp) hs s1 s2 _ old hre hld heq hit hst w h) w h
           | false =>
             simp only [heq, Bool.false_eq_true, if_false, Option.some.injEq, Prod.mk.injEq] at hr
             obtain ⟨rfl, rfl, rfl⟩ := hr
             exact cdoX.2.2.2.1 T0 w0 L C m i hi xb x c s [] 10 rfl ho _ _ _ (fun w h => clockedX.2.2.1 T0 w0 L C m i hi xb x c s [] hrb hra hrc ho ha h0 h1 (by simp) hs s1 _ s1 old hre hld heq w h) w h
   · rename_i hs
     cases hr
     exact cdoX.2.2.2.1 T0 w0 L C m i hi xb x c s [] 10 rfl ho _ _ _ (fun w h => clockedX.1 T0 w0 L C m i hi xb x c s [] hrb ha (by simpa using hs) w h) w h
 split at hr
 · rename_i ho
   have ho : x.op = 21 := by simpa using ho
   cases hr
   exact SG T0 w0 L C m i hi xb x c s [] ho hra h0 h1 (by simp) w h
 split at hr
 · rename_i ho
   have ho : x.op = 22 := by simpa using ho
   cases hr
   exact SH T0 w0 L C m i hi xb x c s [] ho (by simp) w h
 split at hr
 · rename_i ho
   have ho : x.op = 2 ∨ x.op = 3 ∨ x.op = 6 := by simpa [or_assoc] using ho
   cases hv : KS x.op (c.reg x.b) (c.reg x.c) with
   | none => simp [hv] at hr
   | some v =>
     simp only [hv, Option.bind_some, Option.some.injEq, Prod.mk.injEq] at hr
     obtain ⟨rfl, rfl, rfl⟩ := hr
     obtain ⟨a1, a2, a3, a4⟩ := TP hv
     exact cdoX.2.2.2.2 T0 w0 L C m i hi xb x c s [] x.op (by omega) rfl _ _ _ (fun w h => creckonX.1 T0 w0 L C m i hi xb x c s [] hrb hra hrc h0 h1 a1 a2 a3 v a4 w h) w h
 · obtain ⟨ho, hr⟩ := As hr
   have ho : x.op = 17 ∨ x.op = 18 ∨ x.op = 19 := by simpa [or_assoc] using ho
   simp only [Option.some.injEq, Prod.mk.injEq] at hr
   obtain ⟨rfl, rfl, rfl⟩ := hr
   exact cdoX.2.2.2.2 T0 w0 L C m i hi xb x c s [] x.op (by omega) rfl _ _ _ (fun w h => creckonX.2 T0 w0 L C m i hi xb x c s [] hrb hra hrc h0 h1 (by omega) _ (UE ho) w h) w h
theorem EF.code {w : World} {pb : Nat} {l : List Ins} (h : EF w pb l) {k : Nat} {x : Ins} (hx : l[k]? = some x) : CF x = true ∧ ∃ F, (CodeAt w pb (k * 10) (l.length * 10) (Ct (BG x)) F ∨ CodeAt w pb (k * 10) (l.length * 10) (Eg (BG x) x) F) ∧ ∀ w', CodeAt w' pb (k * 10) (l.length * 10) (Eg (BG x) x) F → EF w' pb l := by
 obtain ⟨cs, h1, h2, h3⟩ := h
 have hk : k < l.length := (List.getElem?_eq_some_iff.1 hx).1
 refine ⟨(h3 k x hx).1, fun p => cs[p]?, ?_, fun w' hc => ?_⟩
 · rcases (h3 k x hx).2 with h | h
   · exact .inl ⟨⟨cs, h1, h2, h, fun _ _ => rfl⟩, rfl, by omega⟩
   · exact .inr ⟨⟨cs, h1, h2, h, fun _ _ => rfl⟩, rfl, by omega⟩
 · obtain ⟨cs', g1, g2, g3, g4⟩ := hc.has
   refine ⟨cs', g1, g2, fun k' i hi => ⟨(h3 k' i hi).1, ?_⟩⟩
   by_cases e : k' = k
   · subst e
     rw [hx] at hi
     cases hi
     exact .inr g3
   · rcases (h3 k' i hi).2 with h | h
     · refine .inl fun j u hu => ?_
       have hj : j < 10 := (List.getElem?_eq_some_iff.1 hu).1
       rw [g4 _ (by omega)]
       exact h j u hu
     · refine .inr fun j u hu => ?_
       have hj : j < 10 := (List.getElem?_eq_some_iff.1 hu).1
       rw [g4 _ (by omega)]
       exact h j u hu
theorem Sp.setProg {T0 : Nat → Nat} {w0 : World} {L : SL} {C : CC} {m : Mach} {i : Int} {xb : Nat} {x : Ins} {c : Core} {s : Sys} {evs : List Ev} {w w' : World} (hi : AK i = true) (h : Sp T0 w0 L C m i xb x c s evs w) (hp : Pres (fun k => k ≠ (C.at i).pb) w w') (hq : EF w' (C.at i).pb c.prog) : Sp T0 w0 L C m i xb x c s evs w' := by
 have hc := h.coreAt hi
 have h1 : (C.at i).cb ≠ (C.at i).pb := by
  obtain ⟨cs, hcs, _⟩ := hc.prog
  exact AG hc.head hcs (by decide)
 have h2 : (C.at i).gb ≠ (C.at i).pb := by
  obtain ⟨T, V, S, m1, _⟩ := h
  intro e
  rcases Aa hi with rfl | rfl
  · have := m1.g0
    rw [show C.c0.gb = C.c0.pb from e, m1.p0] at this
    cases this
  · have := m1.g1
    rw [show C.c1.gb = C.c1.pb from e, m1.p1] at this
    cases this
 exact h.setCore hi (hp.mono fun k _ hk => hk.2.1) ⟨(hp.block _ (AF hc.head) h1).trans hc.head, hc.len, hq, hc.buf.block (hp.block _ hc.buf.lt h2)⟩
theorem Qu (hdec : EO) (T0 : Nat → Nat) (L : SL) (C : CC) (m : Mach) (i : Int) (hi : AK i = true) (hpl : (m.core i).prog.length ≤ 4096) (hrun : (m.core i).runs = true) (c' : Core) (s' : Sys) (evs : List Ev) (x : Ins) (hx : (m.core i).prog[(m.core i).place.toNat]? = some x) (h0 : 0 ≤ (m.core i).place) (h1 : (m.core i).place < (m.core i).prog.length) (hra : BH x.a = true) (hrb : BH x.b = true) (hrc : BH x.c = true) (hdo : (m.core i).doI m.s i x = some (c', s', evs)) (w : World) (h : Mc T0 w L C m w) : Y 223 #[.pointer (some ⟨(C.at i).cb, 0, none⟩), L.sb] w fun r w' => ∃ S, r = Z S ∧ AH w' 92 5 S evs.length (AY evs) ∧ (∀ k, S.ownBlock = some k → w.heap.size ≤ k) ∧ Mc T0 w L C (m.put i c' s') w' := by
 have hc0 := Vw (show CoreAt w (C.at i) i (m.core i) by obtain ⟨T, V, a, _, _⟩ := h; exact a.core hi)
 have hh := hc0.out.head
 unfold BY at hh
 rw [hrun] at hh
 have c0 := AA hh
 have hltc := AF hh
 obtain ⟨W1, hE, hb, hI⟩ := alloc_new w (.cells #[.pointer (some ⟨(C.at i).cb, 0, none⟩), L.sb, I 0, I 0, I 0, I 0, I 0, .slice none 0 0] 362)
 have g1 := Sp.start hi h hb (Nat.le_refl _) hI
 have G1 := Vw g1
 have hh1 := (g1.coreAt hi).head
 unfold BY at hh1
 have c1 := AA hh1
 have HDO2 := Vw (fun w2 h => Qw T0 w L C m i hi w.heap.size x (m.core i) m.s hra hrb hrc h0 (by omega) c' s' evs hdo w2 h)
 have HX := Vw hx
 have HS := Vw (show ∀ y w', Sp T0 w L C m i w.heap.size y (m.core i) m.s [] w' → (fun w' => w'.cell? ⟨(C.at i).cb, 9, none⟩ = some (I (m.core i).place) ∧ w'.cell? ⟨(C.at i).cb, 10, none⟩ = some (.slice (some ⟨(C.at i).pb, 0, none⟩) (m.core i).prog.length (m.core i).prog.length)) w' from fun y w' h => by
  have h1 := (h.coreAt hi).head
  exact ⟨AD h1 9 rfl, AD h1 10 rfl⟩)
 clear h hh hh1 g1 hb hI hdo hx hra hrb hrc
 go_enter func223, ntmps223
 go_wp2_with fail
 go_quiet (fail)
 have G2 := Vw (show Sp T0 w L C m i w.heap.size ⟨0, 0, 0, 0, 0⟩ (m.core i) m.s [] (W1.drewN nq) from G1.out.below ⟨rfl, rfl, rfl, Nat.le_refl _, fun _ _ => rfl⟩)
 generalize W1.drewN nq = W2 at *
 clear c0 c1 G1
 go_wp2_with fail
 have G3 := Vw G2.out.drew
 obtain ⟨hd, F, hcode, hback⟩ := (G3.out.coreAt hi).prog.code HX.out
 have hins := Vw (PU hdec x hd _ _ _ F W2.drew hcode)
 have HB := Vw hback
 clear hcode hback hd
 have hk0 := HS.out _ _ G3.out
 go_region_held3 (fun w' => w'.cell? ⟨(C.at i).cb, 9, none⟩ = some (I (m.core i).place) ∧ w'.cell? ⟨(C.at i).cb, 10, none⟩ = some (.slice (some ⟨(C.at i).pb, 0, none⟩) (m.core i).prog.length (m.core i).prog.length)) (first | with_reducible exact hk0 | with_reducible exact hk1 | with_reducible exact hk2)
  (first
   | (go_at_call 258; refine hins.out.mono ?_; rintro r w4 ⟨rfl, q1, q2⟩; have g4 := G3.out.setProg hi q2 (HB.out _ q1); have hk1 := HS.out _ _ g4; obtain ⟨SS, hxc⟩ := g4.cells; unfold FR at hxc; have d4 := AA hxc; have f4 := AJ hxc; have hk2 : (fun w' => w'.cell? ⟨(C.at i).cb, 9, none⟩ = some (I (m.core i).place) ∧ w'.cell? ⟨(C.at i).cb, 10, none⟩ = some (.slice (some ⟨(C.at i).pb, 0, none⟩) (m.core i).prog.length (m.core i).prog.length)) (((((w4.setCell ⟨w, 2, none⟩ (I x.op)).setCell ⟨w, 3, none⟩ (I x.a)).setCell ⟨w, 4, none⟩ (I x.b)).setCell ⟨w, 5, none⟩ (I x.c)).setCell ⟨w, 6, none⟩ (I x.imm)) := HS.out _ _ (g4.setX x)))
 have G5 := Vw (g4.setX x)
 clear g4 hk0 hk1 hk2 hxc d4 f4 q1 q2
 generalize hW : World.setCell _ ⟨w, 6, none⟩ _ = W5 at *
 have G6 := Vw (show Sp T0 w L C m i w.heap.size x (m.core i) m.s [] W5 from hW ▸ G5.out)
 clear hW G5
 trace_state
 go_wp2_with fail
 refine (HDO2.out _ G6.out).mono ?_
 rintro r w7 ⟨rfl, g7⟩
 obtain ⟨SF, d7, e1, e2, e3⟩ := g7.done
 have H7 := Vw (WA e1 (WA e2 e3))
 clear g7 e1 e2 e3
 go_wp2_with fail
 go_ret
 exact ⟨SF, rfl, H7.out⟩
theorem PW (T0 : Nat → Nat) (L : SL) (C : CC) (m : Mach) (i : Int) (hi : AK i = true) (hrun : (m.core i).runs = false) (w : World) (h : Mc T0 w L C m w) : Y 223 #[.pointer (some ⟨(C.at i).cb, 0, none⟩), L.sb] w fun r w' => r = Z (.slice none 0 0) ∧ Mc T0 w L C m w' := by
 have hc0 := Vw (show CoreAt w (C.at i) i (m.core i) by obtain ⟨T, V, a, _, _⟩ := h; exact a.core hi)
 have hh := hc0.out.head
 unfold BY at hh
 rw [hrun] at hh
 have c0 := AA hh
 have H := Vw h
 clear h hh
 go_enter func223, ntmps223
 go_wp2_with fail
 go_ret
 exact ⟨rfl, H.out⟩
theorem Nn (hdec : EO) (T0 : Nat → Nat) (L : SL) (C : CC) (m : Mach) (i : Int) (hi : AK i = true) (hpl : (m.core i).prog.length ≤ 4096) (c' : Core) (s' : Sys) (evs : List Ev) (hr : (m.core i).exec m.s i = some (c', s', evs)) (w : World) (h : Mc T0 w L C m w) : Y 223 #[.pointer (some ⟨(C.at i).cb, 0, none⟩), L.sb] w fun r w' => ∃ S, r = Z S ∧ AH w' 92 5 S evs.length (AY evs) ∧ (∀ k, S.ownBlock = some k → w.heap.size ≤ k) ∧ Mc T0 w L C (m.put i c' s') w' := by
 cases hrun : (m.core i).runs with
 | true =>
   obtain ⟨x, h1, h2, h3, h4, h5, h6, h7⟩ := Kf hrun hr
   exact Qu hdec T0 L C m i hi hpl hrun c' s' evs x h1 h2 h3 h4 h5 h6 h7 w h
 | false =>
   cases Jt hrun hr
   refine (PW T0 L C m i hi hrun w h).mono ?_
   rintro r w' ⟨rfl, h'⟩
   rw [Gg m hi]
   exact ⟨_, rfl, by simpa [AY] using AH.nil _ 92 5, by simp [Value.ownBlock], h'⟩
theorem NW (hdec : EO) (T0 : Nat → Nat) (w0 : World) (L : SL) (C : CC) (mb : Nat) (CS R : Value) (m : Mach) (x y : Int) (hx : AK x = true) (hpl : (m.core x).prog.length ≤ 4096) (c' : Core) (s' : Sys) (evs : List Ev) (hr : (m.core x).exec m.s x = some (c', s', evs)) (w : World) (h : Mk T0 w0 L C mb CS R m w) : Y 182 #[mb, .agg #[I 1, I x, I y]] w fun r w' => ∃ S, r = Z S ∧ AH w' 92 5 S (evs : List Ev).length (AY evs) ∧ (∀ k, S.ownBlock = some k → w.heap.size ≤ k) ∧ Mk T0 w0 L C mb CS R (m.put x c' s') w' := by
 obtain ⟨W1, hE, hb, hI⟩ := alloc_new w (.cells #[I 1, I x, I y] 58)
 obtain ⟨T, h1, hT, hback⟩ := h.fresh hb
 have c1 := AA h1.head
 have c2 := AA hI
 have hlt := AF h.head
 have hk := Vw (GF T W1 L C mb CS R m x hx W1.drew h1.drew)
 have hc := Vw (show Y 223 #[.pointer (some ⟨(C.at x).cb, 0, none⟩), L.sb] W1.drew fun r w' => ∃ S, r = Z S ∧ AH w' 92 5 S (evs : List Ev).length (AY evs) ∧ (∀ k, S.ownBlock = some k → w.heap.size ≤ k) ∧ Mk T0 w0 L C mb CS R (m.put x c' s') w' by
  obtain ⟨T', m1, m2, m3⟩ := h1.drew.mc
  refine (Nn hdec T' L C m x hx hpl c' s' evs hr W1.drew m1).mono ?_
  rintro r w' ⟨S, e1, e2, e3, e4⟩
  exact ⟨S, e1, e2, fun k hk => Vx hb.size (e3 k hk), hback _ _ (m3 _ _ e4)⟩)
 clear h hT hback h1 hb hI hr hpl
 go_enter func182, ntmps182
 go_wp2_with fail
 go_still_tail 8, (by kernel_rfl)
 refine DC (by rfl) 23 #[mb, I x] (by go_simp) (.pointer (some ⟨(C.at x).cb, 0, none⟩)) ((hk.out).mono ?_) ?_
 · rintro r w1 ⟨rfl, rfl⟩
   exact ⟨rfl, rfl⟩
 repeat still_step
 refine wpStill_nil ?_
 change wpList _ _ _ _ _ W1.drew
 go_wp2_with fail
 refine hc.out.mono ?_
 rintro r w2 ⟨S, rfl, e1, e2, e3⟩
 have H2 := Vw (WA e1 (WA e2 e3))
 clear e1 e2 e3
 go_wp2_with fail
 go_ret
 exact ⟨S, rfl, H2.out⟩
theorem ME (T0 : Nat → Nat) (w0 : World) (L : SL) (C : CC) (mb : Nat) (CS R : Value) (m : Mach) (x y : Int) (hx : AK x = true) (c' : Core) (s' : Sys) (evs : List Ev) (hr : (m.core x).drain m.s x = some (c', s', evs)) (w : World) (h : Mk T0 w0 L C mb CS R m w) : Y 183 #[mb, .agg #[I 2, I x, I y]] w fun r w' => ∃ S, r = Z S ∧ AH w' 92 5 S (evs : List Ev).length (AY evs) ∧ (∀ k, S.ownBlock = some k → w.heap.size ≤ k) ∧ Mk T0 w0 L C mb CS R (m.put x c' s') w' := by
 obtain ⟨W1, hE, hb, hI⟩ := alloc_new w (.cells #[I 2, I x, I y] 58)
 obtain ⟨T, h1, hT, hback⟩ := h.fresh hb
 have c1 := AA h1.head
 have c2 := AA hI
 have hlt := AF h.head
 have hk := Vw (GF T W1 L C mb CS R m x hx W1.drew h1.drew)
 have hc := Vw (show Y 224 #[.pointer (some ⟨(C.at x).cb, 0, none⟩), L.sb] W1.drew fun r w' => ∃ S, r = Z S ∧ AH w' 92 5 S (evs : List Ev).length (AY evs) ∧ (∀ k, S.ownBlock = some k → w.heap.size ≤ k) ∧ Mk T0 w0 L C mb CS R (m.put x c' s') w' by
  obtain ⟨T', m1, m2, m3⟩ := h1.drew.mc
  refine (Md T' L C m x hx c' s' evs hr W1.drew m1).mono ?_
  rintro r w' ⟨S, e1, e2, e3, e4⟩
  exact ⟨S, e1, e2, fun k hk => Vx hb.size (e3 k hk), hback _ _ (m3 _ _ e4)⟩)
 clear h hT hback h1 hb hI hr
 go_enter func183, ntmps183
 go_wp2_with fail
 go_still_tail 8, (by kernel_rfl)
 refine DC (by rfl) 23 #[mb, I x] (by go_simp) (.pointer (some ⟨(C.at x).cb, 0, none⟩)) ((hk.out).mono ?_) ?_
 · rintro r w1 ⟨rfl, rfl⟩
   exact ⟨rfl, rfl⟩
 repeat still_step
 refine wpStill_nil ?_
 change wpList _ _ _ _ _ W1.drew
 go_wp2_with fail
 refine hc.out.mono ?_
 rintro r w2 ⟨S, rfl, e1, e2, e3⟩
 have H2 := Vw (WA e1 (WA e2 e3))
 clear e1 e2 e3
 go_wp2_with fail
 go_ret
 exact ⟨S, rfl, H2.out⟩
theorem Mk.fresh2 {T0 : Nat → Nat} {w0 w W : World} {L : SL} {C : CC} {mb : Nat} {CS R : Value} {m : Mach} (h : Mk T0 w0 L C mb CS R m w) (hb : Below w w W) : ∃ T, Mk T W L C mb CS R m W ∧ (∀ k, w.heap.size ≤ k → T k = 0) ∧ (∀ m' w', Mk T W L C mb CS R m' w' → Mk T0 w0 L C mb CS R m' w') ∧ ∀ m' w' g cs vs o, Mk T W L C mb CS R m' w' → w.heap.size ≤ g → g < W.heap.size → w'.heap[g]? = some (.cells cs 253) → Mk T0 w0 L C mb CS R m' (w'.setCells g o vs) := by
 obtain ⟨T, V, a, b, c⟩ := h
 have hz : ∀ k, w.heap.size ≤ k → T k = 0 := fun k hk => by
  by_cases h0 : T k = 0
  · exact h0
  · exact absurd (a.mc.sys.low k h0) (by omega)
 refine ⟨T, ⟨T, V, ⟨a.mc.below hb, AB hb a.head, a.cores.below hb, a.tm, a.tc⟩, fun _ _ => rfl, Pres.refl _ _⟩, hz, fun m' w' k => k.trans b (c.trans (Pres.of_below hb)), fun m' w' g cs vs o k hg hgW ho => ?_⟩
 obtain ⟨T', V', a', b', c'⟩ := k
 have hcb : Ad DU T0 w0 W := c.trans (Pres.of_below hb)
 have hg0 : T' g = 0 := (b' g hgW).trans (hz g hg)
 have hp : Ad (fun n => n == 0) T' w' (w'.setCells g o vs) := Pres.setCells (g := g) (by show ¬ ((T' g == 0) = false); rw [hg0]; decide) _ (Pres.refl _ w') o
 have h3 : Ad DU T0 w0 w' := DQ b hcb c' (fun _ h => h)
 have hbs : Below w0 w' (w'.setCells g o vs) := Ac (Vx c.size hg) _ (Below.refl _ _) o
 refine ⟨T', V', ⟨a'.mc.keep hp, (AR (AG a'.head ho (by decide)) _ _ _).trans a'.head, a'.cores.kept fun k hk => ?_, a'.tm, a'.tc⟩, fun k hk => (b' k (Vy hk hcb.size)).trans (b k hk), ⟨hbs.os.trans h3.os, hbs.tape.trans h3.tape, hbs.output.trans h3.output, Vx h3.size hbs.size, fun k hk ha => (hbs.block k hk).trans (h3.block k hk ha)⟩⟩
 obtain ⟨cs', h'⟩ := a'.cores.type k hk
 exact AR (AG h' ho (by decide)) _ _ _
theorem Jq (T0 : Nat → Nat) (w0 : World) (L : SL) (C : CC) (mb : Nat) (CS R : Value) (m : Mach) (x : Int) (hx : AK x = true) (s' : Sys) (o : Option Msg) (hr : m.s.hear x = some (s', o)) (w : World) (h : Mk T0 w0 L C mb CS R m w) : ∀ W, Below w w W → Y 227 #[L.sb, I x] W.drew fun e w' => e = Z (LI o) ∧ Mk T0 w0 L C mb CS R { m with s := s' } w' ∧ (∀ k o, w.heap.size ≤ k → W.heap[k]? = some o → w'.heap[k]? = some o) ∧ W.heap.size ≤ w'.heap.size ∧ ∀ g cs vs o, w.heap.size ≤ g → g < W.heap.size → w'.heap[g]? = some (.cells cs 253) → Mk T0 w0 L C mb CS R { m with s := s' } (w'.setCells g o vs) := by
 intro W hb
 obtain ⟨T, h1, hT, hback, hback2⟩ := h.fresh2 hb
 obtain ⟨T1, g1, g3⟩ := h1.drew.sy
 refine (NS T1 _ L m.s x hx s' o hr W.drew g1).mono ?_
 rintro e w' ⟨e1, e2⟩
 have hm := g3 _ _ e2
 exact ⟨e1, hback _ _ hm, fun k o hk ho => hm.stays (hT k hk) ho, hm.size, fun g cs vs o hg hgW ho => hback2 _ _ g cs vs o hm hg hgW ho⟩
theorem Ot (T0 : Nat → Nat) (w0 : World) (L : SL) (C : CC) (mb : Nat) (CS R : Value) (m : Mach) (x y : Int) (hx : AK x = true) (s' : Sys) (hr : m.s.hear x = some (s', none)) (w : World) (h : Mk T0 w0 L C mb CS R m w) : Y 186 #[mb, .agg #[I 5, I x, I y]] w fun r w' => r = Z (.slice none 0 0) ∧ Mk T0 w0 L C mb CS R { m with s := s' } w' := by
 have hh := Jq T0 w0 L C mb CS R m x hx s' none hr w h
 simp only [LI, Msg.cells, Ln.zero] at hh
 obtain ⟨W1, hE, hb, hI⟩ := alloc_new w (.cells #[I 5, I x, I y] 58)
 have hltm := AF h.head
 have HM := Vw (show ∀ w', Mk T0 w0 L C mb CS R { m with s := s' } w' → w'.cell? mb = some (.pointer (some L.sb)) from fun w' h => AD h.head 0 rfl)
 have hA := AC W1 (.cells KB 253)
 have HA := Vw (hh W1 hb)
 have HB := Vw (hh (W1.alloc (.cells KB 253)) (hb.trans (hA.mono hb.size)))
 have HI := Vw (WA hI (WA (AB hA hI) (AE W1 (.cells KB 253))))
 have hk0 : (fun w' => w'.cell? mb = some (.pointer (some L.sb)) ∧ w'.cell? ⟨w, 1, none⟩ = some (I x)) W1.drew := ⟨AD (h.below hb).head 0 rfl, AD hI 1 rfl⟩
 have hk0b : (fun w' => w'.cell? mb = some (.pointer (some L.sb)) ∧ w'.cell? ⟨w, 1, none⟩ = some (I x)) (W1.alloc (.cells KB 253)).drew := ⟨AD (AB hA (h.below hb).head) 0 rfl, AD (AB hA hI) 1 rfl⟩
 have hs1 := hb.size
 have hl0 := AF hI
 clear h hb hI hA hh
 go_enter func186, ntmps186
 go_wp2_with fail
 go_region_held3 (fun w' => w'.cell? mb = some (.pointer (some L.sb)) ∧ w'.cell? ⟨w, 1, none⟩ = some (I x)) (first | with_reducible exact hk0 | with_reducible exact hk0b | with_reducible exact hk1 | with_reducible exact hk2 | with_reducible exact hk3)
  (first
   | (go_at_call 227; refine (HB.out).mono ?_; rintro r w2 ⟨rfl, k2, st2, sz2, pt2⟩; have i1 := st2 w.heap.size _ (Nat.le_refl _) HI.out.2.1; have i2 := st2 W1.heap.size _ hs1 HI.out.2.2; have n2 := AG i1 i2 (by decide); have c2 := AA i2; have f2 := AJ i2; have m9 := pt2 W1.heap.size _ [I 0, I 0, .bool false, .bool false, U 0, U 0, U 0, U 0, U 0, U 0, U 0, U 0] 0 hs1 (by simp) i2; have hk1 : (fun w' => w'.cell? mb = some (.pointer (some L.sb)) ∧ w'.cell? ⟨w, 1, none⟩ = some (I x)) w2 := ⟨HM.out _ k2, AD i1 1 rfl⟩; have hk2 : (fun w' => w'.cell? mb = some (.pointer (some L.sb)) ∧ w'.cell? ⟨w, 1, none⟩ = some (I x)) ((((((((((((w2.setCell W1 (I 0)).setCell ⟨W1, 1, none⟩ (I 0)).setCell ⟨W1, 2, none⟩ (.bool false)).setCell ⟨W1, 3, none⟩ (.bool false)).setCell ⟨W1, 4, none⟩ (U 0)).setCell ⟨W1, 5, none⟩ (U 0)).setCell ⟨W1, 6, none⟩ (U 0)).setCell ⟨W1, 7, none⟩ (U 0)).setCell ⟨W1, 8, none⟩ (U 0)).setCell ⟨W1, 9, none⟩ (U 0)).setCell ⟨W1, 10, none⟩ (U 0)).setCell ⟨W1, 11, none⟩ (U 0)) := ⟨HM.out _ m9, AD ((AR n2 [I 0, I 0, .bool false, .bool false, U 0, U 0, U 0, U 0, U 0, U 0, U 0, U 0] w2 0).trans i1) 1 rfl⟩; have hk3 := hk2; have HR := Vw (show ∃ g, Mk T0 w0 L C mb CS R { m with s := s' } (w2.setCells W1.heap.size 0 [I 0, I 0, .bool false, .bool false, U 0, U 0, U 0, U 0, U 0, U 0, U 0, U 0]) ∧ W1.heap.size = g ∧ (w2.setCells W1.heap.size 0 [I 0, I 0, .bool false, .bool false, U 0, U 0, U 0, U 0, U 0, U 0, U 0, U 0]).heap[g]? = some (.cells KB 253) ∧ (w2.setCells W1.heap.size 0 [I 0, I 0, .bool false, .bool false, U 0, U 0, U 0, U 0, U 0, U 0, U 0, U 0]).heap[w.heap.size]? = some (.cells #[I 5, I x, I y] 58) ∧ w.heap.size ≤ (w2.setCells W1.heap.size 0 [I 0, I 0, .bool false, .bool false, U 0, U 0, U 0, U 0, U 0, U 0, U 0, U 0]).heap.size from ⟨_, m9, rfl, AT [I 0, I 0, .bool false, .bool false, U 0, U 0, U 0, U 0, U 0, U 0, U 0, U 0] i2 0 _ (by kernel_rfl), (AR n2 [I 0, I 0, .bool false, .bool false, U 0, U 0, U 0, U 0, U 0, U 0, U 0, U 0] w2 0).trans i1, Vx hs1 (Vx (by simp) (Vx sz2 (Dl _ _ _)))⟩); clear k2 st2 m9 pt2)
   | (go_at_call 227; refine (HA.out).mono ?_; rintro r w2 ⟨rfl, k2, st2, sz2, pt2⟩; obtain ⟨W7, hE7⟩ : ∃ W, w2.alloc (.cells KB 253) = W := ⟨_, rfl⟩; have hb7 : Below w2 w2 W7 := hE7 ▸ AC w2 _; have i2 : W7.heap[w2.heap.size]? = some (.cells KB 253) := hE7 ▸ AE w2 _; have i1 := AB hb7 (st2 w.heap.size _ (Nat.le_refl _) HI.out.1); have n2 := AG i1 i2 (by decide); have c2 := AA i2; have f2 := AJ i2; have hbs : Below w2 w2 (W7.setCells w2.heap.size 0 [I 0, I 0, .bool false, .bool false, U 0, U 0, U 0, U 0, U 0, U 0, U 0, U 0]) := Ac (Nat.le_refl _) [I 0, I 0, .bool false, .bool false, U 0, U 0, U 0, U 0, U 0, U 0, U 0, U 0] hb7 0; have m9 := k2.below hbs; have hk1 : (fun w' => w'.cell? mb = some (.pointer (some L.sb)) ∧ w'.cell? ⟨w, 1, none⟩ = some (I x)) w2 := ⟨HM.out _ k2, AD (st2 w.heap.size _ (Nat.le_refl _) HI.out.1) 1 rfl⟩; have hk2 : (fun w' => w'.cell? mb = some (.pointer (some L.sb)) ∧ w'.cell? ⟨w, 1, none⟩ = some (I x)) ((((((((((((W7.setCell w2 (I 0)).setCell ⟨w2, 1, none⟩ (I 0)).setCell ⟨w2, 2, none⟩ (.bool false)).setCell ⟨w2, 3, none⟩ (.bool false)).setCell ⟨w2, 4, none⟩ (U 0)).setCell ⟨w2, 5, none⟩ (U 0)).setCell ⟨w2, 6, none⟩ (U 0)).setCell ⟨w2, 7, none⟩ (U 0)).setCell ⟨w2, 8, none⟩ (U 0)).setCell ⟨w2, 9, none⟩ (U 0)).setCell ⟨w2, 10, none⟩ (U 0)).setCell ⟨w2, 11, none⟩ (U 0)) := ⟨HM.out _ m9, AD ((AR n2 [I 0, I 0, .bool false, .bool false, U 0, U 0, U 0, U 0, U 0, U 0, U 0, U 0] W7 0).trans i1) 1 rfl⟩; have hk3 : (fun w' => w'.cell? mb = some (.pointer (some L.sb)) ∧ w'.cell? ⟨w, 1, none⟩ = some (I x)) W7 := ⟨HM.out _ (k2.below hb7), AD i1 1 rfl⟩; have HR := Vw (show ∃ g, Mk T0 w0 L C mb CS R { m with s := s' } (W7.setCells w2.heap.size 0 [I 0, I 0, .bool false, .bool false, U 0, U 0, U 0, U 0, U 0, U 0, U 0, U 0]) ∧ w2.heap.size = g ∧ (W7.setCells w2.heap.size 0 [I 0, I 0, .bool false, .bool false, U 0, U 0, U 0, U 0, U 0, U 0, U 0, U 0]).heap[g]? = some (.cells KB 253) ∧ (W7.setCells w2.heap.size 0 [I 0, I 0, .bool false, .bool false, U 0, U 0, U 0, U 0, U 0, U 0, U 0, U 0]).heap[w.heap.size]? = some (.cells #[I 5, I x, I y] 58) ∧ w.heap.size ≤ (W7.setCells w2.heap.size 0 [I 0, I 0, .bool false, .bool false, U 0, U 0, U 0, U 0, U 0, U 0, U 0, U 0]).heap.size from ⟨_, m9, rfl, AT [I 0, I 0, .bool false, .bool false, U 0, U 0, U 0, U 0, U 0, U 0, U 0, U 0] i2 0 _ (by kernel_rfl), (AR n2 [I 0, I 0, .bool false, .bool false, U 0, U 0, U 0, U 0, U 0, U 0, U 0, U 0] W7 0).trans i1, Vx hs1 (Vx sz2 hbs.size)⟩); clear k2 st2 m9 pt2 hb7 hbs))
 all_goals
  obtain ⟨g, m9, hg, i9, i8, hs9⟩ := HR.out
  subst hg
  generalize hW : World.setCell _ ⟨_, 11, none⟩ _ = w9 at *
  have M9 := Vw (show Mk T0 w0 L C mb CS R { m with s := s' } w9 from hW ▸ m9)
  clear hW m9 i9 i8 hs9 HR hk0 hk0b hk1 hk2 hk3 c2 f2 i1 i2 n2
  go_wp2_with fail
  go_ret
  exact ⟨rfl, M9.out⟩
theorem Rm {T0 : Nat → Nat} {w0 : World} {L : SL} {C : CC} {mb : Nat} {CS R : Value} (m : Mach) (x : Int) (hx : AK x = true) (o : Msg) (hw : 0 ≤ (m.core x).waits ∧ (m.core x).waits ≤ 100) (w : World) (h : Mk T0 w0 L C mb CS R m w) : Y 228 #[.pointer (some ⟨(C.at x).cb, 0, none⟩), .agg o] w fun r w' => ∃ S, r = Z S ∧ AH w' 92 5 S ((m.core x).hear o x).2.length (AY ((m.core x).hear o x).2) ∧ (∀ k, S.ownBlock = some k → w.heap.size ≤ k) ∧ Mk T0 w0 L C mb CS R (m.put x ((m.core x).hear o x).1 m.s) w' := by
 obtain ⟨hc, hset⟩ := h.core hx
 unfold Core.hear
 cases hb : (o.kind != 14 || (m.core x).waits == 0) with
 | true =>
   refine (SD (C.at x) x _ o hb w hc).mono ?_
   rintro r w' ⟨rfl, hb'⟩
   simp only [if_true]
   refine ⟨_, rfl, by simpa [AY] using AH.nil _ 92 5, by simp [Value.ownBlock], ?_⟩
   rw [Gg m hx]
   exact h.below hb'
 | false =>
   simp only [Bool.or_eq_false_iff, bne_eq_false_iff_eq, beq_eq_false_iff_ne] at hb
   refine (Qs (C.at x) x _ o hb.1 (by omega) hw.2 w hc).mono ?_
   rintro r w' ⟨S, h1, h2, h3, h4, h5⟩
   simp only [Bool.false_eq_true, if_false]
   exact ⟨S, h1, h2, h3, hset _ _ (h5.mono fun k _ hk => hk.1) h4⟩
theorem Oq (T0 : Nat → Nat) (w0 : World) (L : SL) (C : CC) (mb : Nat) (CS R : Value) (m : Mach) (x y : Int) (hx : AK x = true) (s' : Sys) (o : Msg) (hr : m.s.hear x = some (s', some o)) (hw : 0 ≤ (m.core x).waits ∧ (m.core x).waits ≤ 100) (w : World) (h : Mk T0 w0 L C mb CS R m w) : Y 186 #[mb, .agg #[I 5, I x, I y]] w fun r w' => ∃ S, r = Z S ∧ AH w' 92 5 S (((m.core x).hear o x).2 : List Ev).length (AY ((m.core x).hear o x).2) ∧ (∀ k, S.ownBlock = some k → w.heap.size ≤ k) ∧ Mk T0 w0 L C mb CS R (m.put x ((m.core x).hear o x).1 s') w' := by
 have hh := Jq T0 w0 L C mb CS R m x hx s' (some o) hr w h
 simp only [LI, Msg.cells] at hh
 have HA2 := Vw (show ∀ w, Mk T0 w0 L C mb CS R { m with s := s' } w → Y 228 #[.pointer (some ⟨(C.at x).cb, 0, none⟩), .agg o] w fun r w' => ∃ S, r = Z S ∧ AH w' 92 5 S ((m.core x).hear o x).2.length (AY ((m.core x).hear o x).2) ∧ (∀ k, S.ownBlock = some k → w.heap.size ≤ k) ∧ Mk T0 w0 L C mb CS R (m.put x ((m.core x).hear o x).1 s') w' from fun w h => Rm { m with s := s' } x hx o hw w h)
 have HK := Vw (show ∀ w, Mk T0 w0 L C mb CS R { m with s := s' } w → Y 23 #[mb, I x] w fun e w' => e = Z (.pointer (some ⟨(C.at x).cb, 0, none⟩)) ∧ w = w' from fun w h => GF T0 w0 L C mb CS R { m with s := s' } x hx w h)
 generalize hev : (m.core x).hear o x = ev at *
 obtain ⟨W1, hE, hb, hI⟩ := alloc_new w (.cells #[I 5, I x, I y] 58)
 have hltm := AF h.head
 have HM := Vw (show ∀ w', Mk T0 w0 L C mb CS R { m with s := s' } w' → w'.cell? mb = some (.pointer (some L.sb)) from fun w' h => AD h.head 0 rfl)
 have hA := AC W1 (.cells KB 253)
 have HA := Vw (hh W1 hb)
 have HB := Vw (hh (W1.alloc (.cells KB 253)) (hb.trans (hA.mono hb.size)))
 have HI := Vw (WA hI (WA (AB hA hI) (AE W1 (.cells KB 253))))
 have hk0 : (fun w' => w'.cell? mb = some (.pointer (some L.sb)) ∧ w'.cell? ⟨w, 1, none⟩ = some (I x)) W1.drew := ⟨AD (h.below hb).head 0 rfl, AD hI 1 rfl⟩
 have hk0b : (fun w' => w'.cell? mb = some (.pointer (some L.sb)) ∧ w'.cell? ⟨w, 1, none⟩ = some (I x)) (W1.alloc (.cells KB 253)).drew := ⟨AD (AB hA (h.below hb).head) 0 rfl, AD (AB hA hI) 1 rfl⟩
 have hs1 := hb.size
 have hl0 := AF hI
 clear h hb hI hA hh
 go_enter func186, ntmps186
 go_wp2_with fail
 go_region_held3 (fun w' => w'.cell? mb = some (.pointer (some L.sb)) ∧ w'.cell? ⟨w, 1, none⟩ = some (I x)) (first | with_reducible exact hk0 | with_reducible exact hk0b | with_reducible exact hk1 | with_reducible exact hk2 | with_reducible exact hk3)
  (first
   | (go_at_call 227; refine (HB.out).mono ?_; rintro r w2 ⟨rfl, k2, st2, sz2, pt2⟩; have i1 := st2 w.heap.size _ (Nat.le_refl _) HI.out.2.1; have i2 := st2 W1.heap.size _ hs1 HI.out.2.2; have n2 := AG i1 i2 (by decide); have c2 := AA i2; have f2 := AJ i2; have m9 := pt2 W1.heap.size _ [I o.kind, I o.line, .bool o.dirty, .bool o.kept, U o.data.a, U o.data.b, U o.data.c, U o.data.d, U o.data.e, U o.data.f, U o.data.g, U o.data.h] 0 hs1 (by simp) i2; have hk1 : (fun w' => w'.cell? mb = some (.pointer (some L.sb)) ∧ w'.cell? ⟨w, 1, none⟩ = some (I x)) w2 := ⟨HM.out _ k2, AD i1 1 rfl⟩; have hk2 : (fun w' => w'.cell? mb = some (.pointer (some L.sb)) ∧ w'.cell? ⟨w, 1, none⟩ = some (I x)) ((((((((((((w2.setCell W1 (I o.kind)).setCell ⟨W1, 1, none⟩ (I o.line)).setCell ⟨W1, 2, none⟩ (.bool o.dirty)).setCell ⟨W1, 3, none⟩ (.bool o.kept)).setCell ⟨W1, 4, none⟩ (U o.data.a)).setCell ⟨W1, 5, none⟩ (U o.data.b)).setCell ⟨W1, 6, none⟩ (U o.data.c)).setCell ⟨W1, 7, none⟩ (U o.data.d)).setCell ⟨W1, 8, none⟩ (U o.data.e)).setCell ⟨W1, 9, none⟩ (U o.data.f)).setCell ⟨W1, 10, none⟩ (U o.data.g)).setCell ⟨W1, 11, none⟩ (U o.data.h)) := ⟨HM.out _ m9, AD ((AR n2 [I o.kind, I o.line, .bool o.dirty, .bool o.kept, U o.data.a, U o.data.b, U o.data.c, U o.data.d, U o.data.e, U o.data.f, U o.data.g, U o.data.h] w2 0).trans i1) 1 rfl⟩; have hk3 := hk2; have HR := Vw (show ∃ g, Mk T0 w0 L C mb CS R { m with s := s' } (w2.setCells W1.heap.size 0 [I o.kind, I o.line, .bool o.dirty, .bool o.kept, U o.data.a, U o.data.b, U o.data.c, U o.data.d, U o.data.e, U o.data.f, U o.data.g, U o.data.h]) ∧ W1.heap.size = g ∧ (w2.setCells W1.heap.size 0 [I o.kind, I o.line, .bool o.dirty, .bool o.kept, U o.data.a, U o.data.b, U o.data.c, U o.data.d, U o.data.e, U o.data.f, U o.data.g, U o.data.h]).heap[g]? = some (.cells o 253) ∧ (w2.setCells W1.heap.size 0 [I o.kind, I o.line, .bool o.dirty, .bool o.kept, U o.data.a, U o.data.b, U o.data.c, U o.data.d, U o.data.e, U o.data.f, U o.data.g, U o.data.h]).heap[w.heap.size]? = some (.cells #[I 5, I x, I y] 58) ∧ w.heap.size ≤ (w2.setCells W1.heap.size 0 [I o.kind, I o.line, .bool o.dirty, .bool o.kept, U o.data.a, U o.data.b, U o.data.c, U o.data.d, U o.data.e, U o.data.f, U o.data.g, U o.data.h]).heap.size from ⟨_, m9, rfl, AT [I o.kind, I o.line, .bool o.dirty, .bool o.kept, U o.data.a, U o.data.b, U o.data.c, U o.data.d, U o.data.e, U o.data.f, U o.data.g, U o.data.h] i2 0 _ (by kernel_rfl), (AR n2 [I o.kind, I o.line, .bool o.dirty, .bool o.kept, U o.data.a, U o.data.b, U o.data.c, U o.data.d, U o.data.e, U o.data.f, U o.data.g, U o.data.h] w2 0).trans i1, Vx hs1 (Vx (by simp) (Vx sz2 (Dl _ _ _)))⟩); clear k2 st2 m9 pt2)
   | (go_at_call 227; refine (HA.out).mono ?_; rintro r w2 ⟨rfl, k2, st2, sz2, pt2⟩; obtain ⟨W7, hE7⟩ : ∃ W, w2.alloc (.cells KB 253) = W := ⟨_, rfl⟩; have hb7 : Below w2 w2 W7 := hE7 ▸ AC w2 _; have i2 : W7.heap[w2.heap.size]? = some (.cells KB 253) := hE7 ▸ AE w2 _; have i1 := AB hb7 (st2 w.heap.size _ (Nat.le_refl _) HI.out.1); have n2 := AG i1 i2 (by decide); have c2 := AA i2; have f2 := AJ i2; have hbs : Below w2 w2 (W7.setCells w2.heap.size 0 [I o.kind, I o.line, .bool o.dirty, .bool o.kept, U o.data.a, U o.data.b, U o.data.c, U o.data.d, U o.data.e, U o.data.f, U o.data.g, U o.data.h]) := Ac (Nat.le_refl _) [I o.kind, I o.line, .bool o.dirty, .bool o.kept, U o.data.a, U o.data.b, U o.data.c, U o.data.d, U o.data.e, U o.data.f, U o.data.g, U o.data.h] hb7 0; have m9 := k2.below hbs; have hk1 : (fun w' => w'.cell? mb = some (.pointer (some L.sb)) ∧ w'.cell? ⟨w, 1, none⟩ = some (I x)) w2 := ⟨HM.out _ k2, AD (st2 w.heap.size _ (Nat.le_refl _) HI.out.1) 1 rfl⟩; have hk2 : (fun w' => w'.cell? mb = some (.pointer (some L.sb)) ∧ w'.cell? ⟨w, 1, none⟩ = some (I x)) ((((((((((((W7.setCell w2 (I o.kind)).setCell ⟨w2, 1, none⟩ (I o.line)).setCell ⟨w2, 2, none⟩ (.bool o.dirty)).setCell ⟨w2, 3, none⟩ (.bool o.kept)).setCell ⟨w2, 4, none⟩ (U o.data.a)).setCell ⟨w2, 5, none⟩ (U o.data.b)).setCell ⟨w2, 6, none⟩ (U o.data.c)).setCell ⟨w2, 7, none⟩ (U o.data.d)).setCell ⟨w2, 8, none⟩ (U o.data.e)).setCell ⟨w2, 9, none⟩ (U o.data.f)).setCell ⟨w2, 10, none⟩ (U o.data.g)).setCell ⟨w2, 11, none⟩ (U o.data.h)) := ⟨HM.out _ m9, AD ((AR n2 [I o.kind, I o.line, .bool o.dirty, .bool o.kept, U o.data.a, U o.data.b, U o.data.c, U o.data.d, U o.data.e, U o.data.f, U o.data.g, U o.data.h] W7 0).trans i1) 1 rfl⟩; have hk3 : (fun w' => w'.cell? mb = some (.pointer (some L.sb)) ∧ w'.cell? ⟨w, 1, none⟩ = some (I x)) W7 := ⟨HM.out _ (k2.below hb7), AD i1 1 rfl⟩; have HR := Vw (show ∃ g, Mk T0 w0 L C mb CS R { m with s := s' } (W7.setCells w2.heap.size 0 [I o.kind, I o.line, .bool o.dirty, .bool o.kept, U o.data.a, U o.data.b, U o.data.c, U o.data.d, U o.data.e, U o.data.f, U o.data.g, U o.data.h]) ∧ w2.heap.size = g ∧ (W7.setCells w2.heap.size 0 [I o.kind, I o.line, .bool o.dirty, .bool o.kept, U o.data.a, U o.data.b, U o.data.c, U o.data.d, U o.data.e, U o.data.f, U o.data.g, U o.data.h]).heap[g]? = some (.cells o 253) ∧ (W7.setCells w2.heap.size 0 [I o.kind, I o.line, .bool o.dirty, .bool o.kept, U o.data.a, U o.data.b, U o.data.c, U o.data.d, U o.data.e, U o.data.f, U o.data.g, U o.data.h]).heap[w.heap.size]? = some (.cells #[I 5, I x, I y] 58) ∧ w.heap.size ≤ (W7.setCells w2.heap.size 0 [I o.kind, I o.line, .bool o.dirty, .bool o.kept, U o.data.a, U o.data.b, U o.data.c, U o.data.d, U o.data.e, U o.data.f, U o.data.g, U o.data.h]).heap.size from ⟨_, m9, rfl, AT [I o.kind, I o.line, .bool o.dirty, .bool o.kept, U o.data.a, U o.data.b, U o.data.c, U o.data.d, U o.data.e, U o.data.f, U o.data.g, U o.data.h] i2 0 _ (by kernel_rfl), (AR n2 [I o.kind, I o.line, .bool o.dirty, .bool o.kept, U o.data.a, U o.data.b, U o.data.c, U o.data.d, U o.data.e, U o.data.f, U o.data.g, U o.data.h] W7 0).trans i1, Vx hs1 (Vx sz2 hbs.size)⟩); clear k2 st2 m9 pt2 hb7 hbs))
 all_goals
  obtain ⟨g, m9, hg, i9, i8, hs9⟩ := HR.out
  subst hg
  generalize hW : World.setCell _ ⟨_, 11, none⟩ _ = w9 at *
  have hW' : World.setCells _ _ 0 [I o.kind, I o.line, .bool o.dirty, .bool o.kept, U o.data.a, U o.data.b, U o.data.c, U o.data.d, U o.data.e, U o.data.f, U o.data.g, U o.data.h] = w9 := hW
  rw [hW'] at m9 i9 i8 hs9
  have M9 := Vw m9
  have c9 := AA i9
  have c8 := AA i8
  have hs9' := Vw hs9
  clear hW hW' m9 i9 i8 hs9 HR hk0 hk0b hk1 hk2 hk3 c2 f2 i1 i2 n2
  go_wp2_with fail
  go_still_tail 5, (by kernel_rfl)
  refine DC (by rfl) 23 #[mb, I x] (by go_simp) (.pointer (some ⟨(C.at x).cb, 0, none⟩)) ((HK.out _ M9.out.drew).mono ?_) ?_
  · rintro r w1 ⟨rfl, rfl⟩
    exact ⟨rfl, rfl⟩
  repeat still_step
  refine wpStill_nil ?_
  change wpList _ _ _ _ _ w9.drew
  go_wp2_with fail
  refine (HA2.out _ M9.out.drew).mono ?_
  rintro r w10 ⟨SS, rfl, e1, e2, e3⟩
  have H2 := Vw (WA e1 (WA (show ∀ k, SS.ownBlock = some k → w.heap.size ≤ k from fun k hk => Vx hs9'.out (e2 k hk)) e3))
  clear e1 e2 e3
  go_wp2_with fail
  go_ret
  exact ⟨SS, rfl, H2.out⟩
end Go.Proofs.YtkoplblbeapfgaaGreatDoor
