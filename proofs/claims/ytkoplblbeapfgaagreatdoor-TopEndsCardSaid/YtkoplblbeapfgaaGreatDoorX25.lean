/-
Parts of the walk of TopEnds. Conditions stand in each statement.
-/
import Derived.Test.YtkoplblbeapfgaaGreatDoorX24
namespace Go.Proofs.YtkoplblbeapfgaaGreatDoor
open Go.RowKit
open Tryz
set_option linter.all false
set_option maxRecDepth 100000
set_option maxHeartbeats 8000000
theorem Pd (w : World) : Y 146 #[] w fun r w' => r = Z (.agg #[.nilFunc, .func (.func 182) #[] #[], .func (.func 183) #[] #[], .func (.func 184) #[] #[], .func (.func 185) #[] #[], .func (.func 186) #[] #[], .func (.func 187) #[] #[], .func (.func 188) #[] #[], .func (.func 189) #[] #[], .func (.func 190) #[] #[], .func (.func 191) #[] #[]]) ∧ Below w w w' := by
 go_enter func146, ntmps146
 go_wp2_with fail
 refine bodyPost_ret (v := .agg #[.nilFunc, .func (.func 182) #[] #[], .func (.func 183) #[] #[], .func (.func 184) #[] #[], .func (.func 185) #[] #[], .func (.func 186) #[] #[], .func (.func 187) #[] #[], .func (.func 188) #[] #[], .func (.func 189) #[] #[], .func (.func 190) #[] #[], .func (.func 191) #[] #[]]) (by simp [results, results146, go_sem]) rfl ⟨rfl, AC w _⟩
theorem FT (kk : Int) (fn : Nat) (hk1 : 1 ≤ kk) (hk2 : kk ≤ 10) (hix : ∀ w : World, (Instr.index 278 (.agg #[.nilFunc, .func (.func 182) #[] #[], .func (.func 183) #[] #[], .func (.func 184) #[] #[], .func (.func 185) #[] #[], .func (.func 186) #[] #[], .func (.func 187) #[] #[], .func (.func 188) #[] #[], .func (.func 189) #[] #[], .func (.func 190) #[] #[], .func (.func 191) #[] #[]]) (I kk)).run prog w = .ok (.func (.func fn) #[] #[]) w) (hfn : ∀ (args : Array Value) (w : World), (callFunc fn args).run prog w = .ok (.enter fn args) w) (T0 : Nat → Nat) (w0 : World) (L : SL) (C : CC) (mb : Nat) (CS R : Value) (m : Mach) (x y : Int) (m' : Mach) (evs : List Ev) (hcall : ∀ T w', Mk T w' L C mb CS R m w' → Y fn #[mb, .agg #[I kk, I x, I y]] w' fun r w'' => ∃ S, r = Z S ∧ AH w'' 92 5 S evs.length (AY evs) ∧ (∀ k, S.ownBlock = some k → w'.heap.size ≤ k) ∧ Mk T w' L C mb CS R m' w'') (w : World) (h : Mk T0 w0 L C mb CS R m w) : Y 88 #[mb, .agg #[I kk, I x, I y]] w fun r w' => ∃ S, r = Z S ∧ AH w' 92 5 S evs.length (AY evs) ∧ (∀ k, S.ownBlock = some k → w.heap.size ≤ k) ∧ Mk T0 w0 L C mb CS R m' w' := by
 obtain ⟨W1, hE, hb, hI⟩ := alloc_new w (.cells #[I kk, I x, I y] 58)
 have c1 := AA hI
 have hk0 : (fun w' => w'.cell? w = some (I kk) ∧ w'.cell? ⟨w, 1, none⟩ = some (I x) ∧ w'.cell? ⟨w, 2, none⟩ = some (I y)) W1.drew := ⟨AD hI 0 rfl, AD hI 1 rfl, AD hI 2 rfl⟩
 have H := Vw h
 have HB := Vw hb
 have HC := Vw hcall
 have HI := Vw hI
 clear h hb hcall hI
 go_enter func88, ntmps88
 go_wp2_with fail
 go_region_held3 (fun w' => w'.cell? w = some (I kk) ∧ w'.cell? ⟨w, 1, none⟩ = some (I x) ∧ w'.cell? ⟨w, 2, none⟩ = some (I y)) (first | with_reducible exact hk0 | with_reducible exact hk1 | with_reducible exact hk2)
  (first
   | (go_at_call 146; refine (Pd _).mono ?_; rintro r w2 ⟨rfl, q2'⟩; have q2 : Below W1 W1 w2 := (Below.refl _ _).drew.trans q2'; have hb2 : Below w w w2 := HB.out.trans ((show Below W1 W1 w2 from q2).mono HB.out.size); have j2 := AB (show Below W1 W1 w2 from q2) HI.out; have hk1 : (fun w' => w'.cell? w = some (I kk) ∧ w'.cell? ⟨w, 1, none⟩ = some (I x) ∧ w'.cell? ⟨w, 2, none⟩ = some (I y)) w2 := ⟨AD j2 0 rfl, AD j2 1 rfl, AD j2 2 rfl⟩)
   | (obtain ⟨T, h1, hT, hback⟩ := H.out.fresh hb2; refine (HC.out T _ h1).mono ?_; rintro r w3 ⟨SS, rfl, e1, e2, e3⟩; have j3 := e3.stays (hT _ (Nat.le_refl _)) j2; have hk2 : (fun w' => w'.cell? w = some (I kk) ∧ w'.cell? ⟨w, 1, none⟩ = some (I x) ∧ w'.cell? ⟨w, 2, none⟩ = some (I y)) w3 := ⟨AD j3 0 rfl, AD j3 1 rfl, AD j3 2 rfl⟩; have HF := Vw (show AH w3 92 5 SS evs.length (AY evs) ∧ (∀ k, SS.ownBlock = some k → w.heap.size ≤ k) ∧ Mk T0 w0 L C mb CS R m' w3 from ⟨e1, fun k hk => Vx hb2.size (e2 k hk), hback _ _ e3⟩); clear e1 e2 e3 h1 hT hback j3))
 all_goals
  go_wp2_with fail
  go_ret
  exact ⟨SS, rfl, HF.out⟩
def Ey (k x : Int) : Array Value := if k ≤ 5 then #[I k, I x, I 0] else #[I k, I 0, I x]
theorem MX {m : Mach} (h : m.okW = true) {i : Int} (hi : AK i = true) : 0 ≤ (m.core i).waits ∧ (m.core i).waits ≤ 100 := by
 simp only [Mach.okW, Bool.and_eq_true, decide_eq_true_eq] at h
 rcases Aa hi with rfl | rfl
 · exact ⟨h.1.1.1, h.1.1.2⟩
 · exact ⟨h.1.2, h.2⟩
theorem En (w : World) : AH w 92 5 (.slice none 0 0) ([] : List Ev).length (AY []) := by simpa [AY] using AH.nil w 92 5
theorem QQ (hdec : EO) (T0 : Nat → Nat) (w0 : World) (L : SL) (C : CC) (mb : Nat) (CS R : Value) (m : Mach) (hp : ∀ i, AK i = true → (m.core i).prog.length ≤ 4096) (k x : Int) (m' : Mach) (evs : List Ev) (hr : m.actG k x = some (m', evs)) (w : World) (h : Mk T0 w0 L C mb CS R m w) : Y 88 #[mb, .agg (Ey k x)] w fun r w' => ∃ S, r = Z S ∧ AH w' 92 5 S evs.length (AY evs) ∧ (∀ k, S.ownBlock = some k → w.heap.size ≤ k) ∧ Mk T0 w0 L C mb CS R m' w' := by
 unfold Mach.actG at hr
 split at hr
 case isFalse => cases hr
 rename_i hw
 cases hact : m.act k x with
 | none => simp [hact] at hr
 | some r0 =>
 simp only [hact, Option.bind_some] at hr
 split at hr
 case isFalse => cases hr
 cases hr
 unfold Mach.act at hact
 split at hact
 · rename_i hk
   have hk : k = 1 := by simpa using hk
   subst hk
   obtain ⟨hx, hact⟩ := As hact
   cases he : (m.core x).exec m.s x with
   | none => simp [he] at hact
   | some q =>
     obtain ⟨c1, s1, l1⟩ := q
     simp only [he, Option.bind_eq_bind, Option.bind_some, Option.some.injEq, Prod.mk.injEq] at hact
     obtain ⟨rfl, rfl⟩ := hact
     exact FT 1 182 (by decide) (by decide) (fun w => by kernel_rfl) (fun _ _ => by kernel_rfl) T0 w0 L C mb CS R m x 0 _ _ (fun T w' h' => NW hdec T w' L C mb CS R m x 0 hx (hp x hx) _ _ _ he w' h') w h
 split at hact
 · rename_i hk
   have hk : k = 2 := by simpa using hk
   subst hk
   obtain ⟨hx, hact⟩ := As hact
   cases he : (m.core x).drain m.s x with
   | none => simp [he] at hact
   | some q =>
     obtain ⟨c1, s1, l1⟩ := q
     simp only [he, Option.bind_eq_bind, Option.bind_some, Option.some.injEq, Prod.mk.injEq] at hact
     obtain ⟨rfl, rfl⟩ := hact
     exact FT 2 183 (by decide) (by decide) (fun w => by kernel_rfl) (fun _ _ => by kernel_rfl) T0 w0 L C mb CS R m x 0 _ _ (fun T w' h' => ME T w' L C mb CS R m x 0 hx _ _ _ he w' h') w h
 split at hact
 · rename_i hk
   have hk : k = 3 := by simpa using hk
   subst hk
   cases he : m.s.up x with
   | none => simp [he] at hact
   | some s1 =>
     have hx : AK x = true := by
      unfold Sys.up at he
      exact (As he).1
     simp only [he, Option.map_some, Option.some.injEq, Prod.mk.injEq] at hact
     obtain ⟨rfl, rfl⟩ := hact
     refine FT 3 184 (by decide) (by decide) (fun w => by kernel_rfl) (fun _ _ => by kernel_rfl) T0 w0 L C mb CS R m x 0 _ _ (fun T w' h' => (QP T w' L C mb CS R m x 0 hx s1 he w' h').mono ?_) w h
     rintro r w2 ⟨rfl, h2⟩
     exact ⟨_, rfl, En _, by simp [Value.ownBlock], h2⟩
 split at hact
 · rename_i hk
   have hk : k = 4 := by simpa using hk
   subst hk
   cases he : m.s.answer x with
   | none => simp [he] at hact
   | some s1 =>
     have hx : AK x = true := by
      unfold Sys.answer at he
      exact (As he).1
     simp only [he, Option.map_some, Option.some.injEq, Prod.mk.injEq] at hact
     obtain ⟨rfl, rfl⟩ := hact
     refine FT 4 185 (by decide) (by decide) (fun w => by kernel_rfl) (fun _ _ => by kernel_rfl) T0 w0 L C mb CS R m x 0 _ _ (fun T w' h' => (Kt T w' L C mb CS R m x 0 hx s1 he w' h').mono ?_) w h
     rintro r w2 ⟨rfl, h2⟩
     exact ⟨_, rfl, En _, by simp [Value.ownBlock], h2⟩
 split at hact
 · rename_i hk
   have hk : k = 5 := by simpa using hk
   subst hk
   cases he : m.s.hear x with
   | none => simp [he] at hact
   | some q =>
     obtain ⟨s1, o⟩ := q
     have hx : AK x = true := by
      unfold Sys.hear at he
      exact (As he).1
     simp only [he, Option.bind_eq_bind, Option.bind_some] at hact
     cases o with
     | none =>
       simp only [Option.some.injEq, Prod.mk.injEq] at hact
       obtain ⟨rfl, rfl⟩ := hact
       refine FT 5 186 (by decide) (by decide) (fun w => by kernel_rfl) (fun _ _ => by kernel_rfl) T0 w0 L C mb CS R m x 0 _ _ (fun T w' h' => (Ot T w' L C mb CS R m x 0 hx s1 he w' h').mono ?_) w h
       rintro r w2 ⟨rfl, h2⟩
       exact ⟨_, rfl, En _, by simp [Value.ownBlock], h2⟩
     | some y =>
       simp only [Option.some.injEq, Prod.mk.injEq] at hact
       obtain ⟨rfl, rfl⟩ := hact
       exact FT 5 186 (by decide) (by decide) (fun w => by kernel_rfl) (fun _ _ => by kernel_rfl) T0 w0 L C mb CS R m x 0 _ _ (fun T w' h' => Oq T w' L C mb CS R m x 0 hx s1 y he (MX hw hx) w' h') w h
 split at hact
 · rename_i hk
   have hk : k = 6 := by simpa using hk
   subst hk
   cases he : m.s.push x with
   | none => simp [he] at hact
   | some q =>
     obtain ⟨s1, yes⟩ := q
     simp only [he, Option.bind_eq_bind, Option.bind_some] at hact
     cases yes
     · simp only [Bool.false_eq_true, if_false, Option.some.injEq, Prod.mk.injEq] at hact
       obtain ⟨rfl, rfl⟩ := hact
       exact FT 6 187 (by decide) (by decide) (fun w => by kernel_rfl) (fun _ _ => by kernel_rfl) T0 w0 L C mb CS R m 0 x _ _ (fun T w' h' => by simpa using Ih T w' L C mb CS R m x 0 s1 false he w' h') w h
     · simp only [if_true, Option.some.injEq, Prod.mk.injEq] at hact
       obtain ⟨rfl, rfl⟩ := hact
       exact FT 6 187 (by decide) (by decide) (fun w => by kernel_rfl) (fun _ _ => by kernel_rfl) T0 w0 L C mb CS R m 0 x _ _ (fun T w' h' => by simpa using Ih T w' L C mb CS R m x 0 s1 true he w' h') w h
 split at hact
 · rename_i hk
   have hk : k = 9 := by simpa using hk
   subst hk
   cases he : m.s.drain x with
   | none => simp [he] at hact
   | some s1 =>
     simp only [he, Option.map_some, Option.some.injEq, Prod.mk.injEq] at hact
     obtain ⟨rfl, rfl⟩ := hact
     refine FT 9 190 (by decide) (by decide) (fun w => by kernel_rfl) (fun _ _ => by kernel_rfl) T0 w0 L C mb CS R m 0 x _ _ (fun T w' h' => (MD T w' L C mb CS R m x 0 s1 he w' h').mono ?_) w h
     rintro r w2 ⟨rfl, h2⟩
     exact ⟨_, rfl, En _, by simp [Value.ownBlock], h2⟩
 · cases hact
theorem QN {c c' : Core} {s s' : Sys} {k : Int} {i : Ins} {l : List Ev} (h : c.load s k i = some (c', s', l)) : c'.prog = c.prog := by
 unfold Core.load at h
 obtain ⟨_, h⟩ := As h
 simp only at h
 split at h
 · cases h; rfl
 · cases hl : s.load k (AL c i / 64) (AL c i % 64 / 8) with
   | none => simp [hl] at h
   | some r =>
     obtain ⟨s1, v, hit⟩ := r
     simp only [hl, Option.bind_eq_bind, Option.bind_some] at h
     split at h <;> (cases h; rfl)
theorem RL {c c' : Core} {k : Int} {i : Ins} {l : List Ev} (h : c.put k i = some (c', l)) : c'.prog = c.prog := by
 unfold Core.put at h
 obtain ⟨_, h⟩ := As h
 simp only at h
 split at h
 · cases h; rfl
 · split at h <;> (cases h; rfl)
theorem NV {c c' : Core} {s s' : Sys} {k : Int} {i : Ins} {l : List Ev} (h : c.locked s k i = some (c', s', l)) : c'.prog = c.prog := by
 unfold Core.locked at h
 obtain ⟨_, h⟩ := As h
 simp only at h
 split at h
 · cases hr : s.reach k (AL c i / 64) with
   | none => simp [hr] at h
   | some r =>
     obtain ⟨s1, has⟩ := r
     simp only [hr, Option.bind_eq_bind, Option.bind_some] at h
     split at h
     · cases hl : s1.load k (AL c i / 64) (AL c i % 64 / 8) with
       | none => simp [hl] at h
       | some r =>
         obtain ⟨s2, old, hit⟩ := r
         simp only [hl, Option.bind_some] at h
         obtain ⟨_, h⟩ := As h
         split at h
         · cases hs : s2.store k (AL c i / 64) (AL c i % 64 / 8) (c.reg i.c) with
           | none => simp [hs] at h
           | some r =>
             simp only [hs, Option.bind_some] at h
             cases h; rfl
         · cases h; rfl
     · cases h; rfl
 · cases h; rfl
theorem Qn {c c' : Core} {s s' : Sys} {k : Int} {l : List Ev} (h : c.exec s k = some (c', s', l)) : c'.prog = c.prog := by
 cases hrun : c.runs with
 | false => cases Jt hrun h; rfl
 | true =>
   obtain ⟨x, _, _, _, _, _, _, h⟩ := Kf hrun h
   unfold Core.doI at h
   split at h
   · cases h; rfl
   split at h
   · exact QN h
   split at h
   · cases hp : c.put k x with
     | none => simp [hp] at h
     | some r =>
       obtain ⟨c1, l1⟩ := r
       simp only [hp, Option.map_some] at h
       cases h
       exact RL hp
   split at h
   · split at h <;> (cases h; rfl)
   split at h
   · exact NV h
   split at h
   · cases h; rfl
   split at h
   · cases h; rfl
   split at h
   · cases hv : KS x.op (c.reg x.b) (c.reg x.c) with
     | none => simp [hv] at h
     | some v =>
       simp only [hv, Option.bind_some] at h
       cases h; rfl
   · obtain ⟨_, h⟩ := As h
     simp only [Option.some.injEq, Prod.mk.injEq] at h
     obtain ⟨rfl, _, _⟩ := h
     split <;> rfl
theorem PM {c c' : Core} {s s' : Sys} {k : Int} {l : List Ev} (h : c.drain s k = some (c', s', l)) : c'.prog = c.prog := by
 unfold Core.drain at h
 split at h
 · cases h; rfl
 · split at h
   · rename_i e l hb hk
     cases hs : s.store k e.line e.word e.val with
     | none => simp [hs] at h
     | some r =>
       simp only [hs, Option.bind_eq_bind, Option.bind_some] at h
       split at h <;> (cases h; rfl)
   · rename_i e l hb hk
     obtain ⟨_, h⟩ := As h
     cases hs : s.flush k e.line with
     | none => simp [hs] at h
     | some r =>
       simp only [hs, Option.bind_eq_bind, Option.bind_some] at h
       cases h; rfl
theorem QU (c : Core) (o : Msg) (k : Int) : (c.hear o k).1.prog = c.prog := by
 unfold Core.hear
 split <;> rfl
theorem Hs (m : Mach) (i : Int) (c : Core) (s : Sys) (h : c.prog = (m.core i).prog) : (m.put i c s).c0.prog = m.c0.prog ∧ (m.put i c s).c1.prog = m.c1.prog := by
 unfold Mach.put Mach.core at *
 split
 · rename_i hi
   rw [if_pos hi] at h
   exact ⟨h, rfl⟩
 · rename_i hi
   rw [if_neg hi] at h
   exact ⟨rfl, h⟩
theorem Qy {m m' : Mach} {k x : Int} {l : List Ev} (h : m.act k x = some (m', l)) : m'.c0.prog = m.c0.prog ∧ m'.c1.prog = m.c1.prog := by
 unfold Mach.act at h
 split at h
 · obtain ⟨_, h⟩ := As h
   cases he : (m.core x).exec m.s x with
   | none => simp [he] at h
   | some q =>
     simp only [he, Option.bind_eq_bind, Option.bind_some] at h
     cases h
     exact Hs m x _ _ (Qn he)
 split at h
 · obtain ⟨_, h⟩ := As h
   cases he : (m.core x).drain m.s x with
   | none => simp [he] at h
   | some q =>
     simp only [he, Option.bind_eq_bind, Option.bind_some] at h
     cases h
     exact Hs m x _ _ (PM he)
 split at h
 · cases he : m.s.up x with
   | none => simp [he] at h
   | some s1 => simp only [he, Option.map_some] at h; cases h; exact ⟨rfl, rfl⟩
 split at h
 · cases he : m.s.answer x with
   | none => simp [he] at h
   | some s1 => simp only [he, Option.map_some] at h; cases h; exact ⟨rfl, rfl⟩
 split at h
 · cases he : m.s.hear x with
   | none => simp [he] at h
   | some q =>
     obtain ⟨s1, o⟩ := q
     simp only [he, Option.bind_eq_bind, Option.bind_some] at h
     cases o with
     | none => cases h; exact ⟨rfl, rfl⟩
     | some y => cases h; exact Hs m x _ _ (QU _ y x)
 split at h
 · cases he : m.s.push x with
   | none => simp [he] at h
   | some q =>
     simp only [he, Option.bind_eq_bind, Option.bind_some] at h
     split at h <;> (cases h; exact ⟨rfl, rfl⟩)
 split at h
 · cases he : m.s.drain x with
   | none => simp [he] at h
   | some s1 => simp only [he, Option.map_some] at h; cases h; exact ⟨rfl, rfl⟩
 · cases h
theorem Jy {m m' : Mach} {k x : Int} {l : List Ev} (h : m.actG k x = some (m', l)) : (m'.c0.prog = m.c0.prog ∧ m'.c1.prog = m.c1.prog) ∧ l.length ≤ 2 := by
 unfold Mach.actG at h
 split at h
 · cases ha : m.act k x with
   | none => simp [ha] at h
   | some r =>
     simp only [ha, Option.bind_some] at h
     split at h
     · rename_i hl
       cases h
       exact ⟨Qy ha, by simpa using hl⟩
     · cases h
 · cases h
end Go.Proofs.YtkoplblbeapfgaaGreatDoor
