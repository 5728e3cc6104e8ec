/-
Parts of the walk of TopEnds. Conditions stand in each statement.
-/
import Derived.KernelRfl
import Derived.Laws.EntriesVeiled
import Derived.Test.YtkoplblbeapfgaaGreatDoorX03
namespace Go.Proofs.YtkoplblbeapfgaaGreatDoor
open Go.RowKit
open Tryz
set_option linter.all false
set_option maxRecDepth 100000
set_option maxHeartbeats 8000000
theorem QD (b pv hv : Nat) (d s q : Value) (w : World) (h : w.heap[b]? = some (.cells (Cr d s q false 0 0 0 0) 150)) (hp : w.heap[pv]? = some (.cells #[b] 151)) (hh : w.heap[hv]? = some (.cells KA 25)) :
 Y 96 #[pv, hv] w fun e w' => e = Z (.tuple #[]) ∧ w'.heap[b]? = some (.cells (Cr d s q true 2 4 1 8) 150) ∧ Pres (fun k => k ≠ b) w w' := by
 have c1 := AA hp
 have c2 := AA hh
 have hr := Lb b d s q w h
 unfold Ai at hr
 clear h hp hh
 go_enter func96, ntmps96
 go_wp2_with fail
 refine hr.mono ?_
 rintro e w' ⟨rfl, h1, h2⟩
 go_wp2_with fail
 go_end0
 exact ⟨rfl, h1, h2⟩
theorem Sk (b pv hv : Nat) (w : World) (h : w.heap[b]? = some (.cells (Cr (.int .u32 0) (.int .i32 0) (.int .u32 0) false 0 0 0 0) 150)) (hp : w.heap[pv]? = some (.cells #[b] 151)) (hh : w.heap[hv]? = some (.cells KA 25)) :
 Y 151 #[b, .func (.func 96) #[] #[pv, hv]] w fun e w' => e = Z (.tuple #[]) ∧ w'.heap[b]? = some (.cells (Cr (.int .u32 1) (.int .i32 0) (.int .u32 0) true 2 4 1 8) 150) ∧ Pres (fun k => k ≠ b) w w' := by
 have hA := AI h 1 (.int .i32 1)
 have hl := Dp b 0 _ (AD hA 0 rfl)
 have hf := QD b pv hv (.int .u32 0) (.int .i32 1) (.int .u32 0) _ hA ((Vz _ _ _ _ (AG hp h (by decide))).trans hp) ((Vz _ _ _ _ (AG hh h (by decide))).trans hh)
 have hk := Hy ⟨b, 1, none⟩ w (AD h 1 rfl) (Aq h 1)
 have HP := Vw ((Pres.refl (fun k => k ≠ b) w).setCell (p := ⟨b, 1, none⟩) (by simp) (.int .i32 1))
 have hnot : ∀ (x : Bool) (w : World), (Op.unary .not (.bool x)).run prog w = .ok (.bool (!x)) w := fun _ _ => rfl
 clear h hp hh hA
 go_enter_defers func151, ntmps151
 go_wp2_with (first | (go_at_call 198; refine hk.mono ?_; rintro e w' ⟨rfl, rfl⟩) | (go_at_call 150; refine hl.mono ?_; rintro e w' ⟨rfl, rfl⟩) | (go_at_call 96; refine hf.mono ?_; rintro e w2 ⟨rfl, g1, g2⟩))
 refine leaves_cons (f := 200) (args := #[b, true]) (by simp) (by simp [go_sem]) ?_
 refine (Ek b (.int .u32 0) .returning _ (AD g1 0 rfl) (Aq g1 0)).mono ?_
 rintro e u' w'' ⟨rfl, rfl, rfl⟩
 have g3 := AI (w := w2.drew) g1 0 (.int .u32 1)
 refine leaves_cons (f := 199) (args := #[.pointer (some ⟨b, 1, none⟩)]) (by simp [settle]) (by simp [go_sem]) ?_
 refine (EX ⟨b, 1, none⟩ _ _ (AD g3 1 rfl) (Aq g3 1)).mono ?_
 rintro e u' w'' ⟨rfl, rfl, rfl⟩
 have g4 := AI g3 1 (.int .i32 0)
 have hp4 := (((HP.out.trans g2).drew).setCell (p := b) (by simp) (.int .u32 1)).setCell (p := ⟨b, 1, none⟩) (by simp) (.int .i32 0)
 simp only [Leaves, settle, results, results151]
 exact ⟨.tuple #[], by simp, rfl, g4, hp4⟩
theorem VD (b pv hv : Nat) (w : World) (h : w.heap[b]? = some (.cells (Cr (.int .u32 0) (.int .i32 0) (.int .u32 0) false 0 0 0 0) 150)) (hp : w.heap[pv]? = some (.cells #[b] 151)) (hh : w.heap[hv]? = some (.cells KA 25)) :
 Y 95 #[b, .func (.func 96) #[] #[pv, hv]] w fun e w' => e = Z (.tuple #[]) ∧ w'.heap[b]? = some (.cells (Cr (.int .u32 1) (.int .i32 0) (.int .u32 0) true 2 4 1 8) 150) ∧ Pres (fun k => k ≠ b) w w' := by
 have hl := Dp b 0 w (AD h 0 rfl)
 have hs := Sk b pv hv w h hp hh
 have hnot : ∀ (x : Bool) (w : World), (Op.unary .not (.bool x)).run prog w = .ok (.bool (!x)) w := fun _ _ => rfl
 clear h hp hh
 go_enter func95, ntmps95
 go_wp2_with (first | (go_at_call 150; refine hl.mono ?_; rintro e w' ⟨rfl, rfl⟩) | (go_at_call 151; refine hs.mono ?_; rintro e w2 ⟨rfl, g1, g2⟩))
 go_end0
 exact ⟨rfl, g1, g2⟩
def Ms (w : World) (b : Nat) : Prop := w.heap[b]? = some (.cells (Cr (.int .u32 1) (.int .i32 0) (.int .u32 0) true 2 4 1 8) 150)
theorem JD (w : World) : Y 60 #[Ai] w fun e w' => ∃ b, e = Z (.pointer (some ⟨b, 0, none⟩)) ∧ Ms w' b ∧ Below w w w' := by
 unfold Ai
 have a1 := AE w (.cells KA 25)
 generalize hA : Obj.cells KA 25 = A at a1
 have a2 := AE (w.alloc A) (.cells (Cr (.int .u32 0) (.int .i32 0) (.int .u32 0) false 0 0 0 0) 150)
 have a3 := AE ((w.alloc A).alloc (.cells (Cr (.int .u32 0) (.int .i32 0) (.int .u32 0) false 0 0 0 0) 150)) (.cells #[.pointer (some ⟨w.heap.size + 1, 0, none⟩)] 151)
 have b1 := AB (AC _ (.cells #[.pointer (some ⟨w.heap.size + 1, 0, none⟩)] 151)) (AB (AC _ (.cells (Cr (.int .u32 0) (.int .i32 0) (.int .u32 0) false 0 0 0 0) 150)) a1)
 have b2 := AB (AC _ (.cells #[.pointer (some ⟨w.heap.size + 1, 0, none⟩)] 151)) a2
 have hb := ((AC w A).trans ((AC _ (.cells (Cr (.int .u32 0) (.int .i32 0) (.int .u32 0) false 0 0 0 0) 150)).mono (by simp))).trans ((AC _ (.cells #[.pointer (some ⟨w.heap.size + 1, 0, none⟩)] 151)).mono (by simp; omega))
 simp only [World.size_alloc] at a2 a3 b1 b2
 subst hA
 have hd := VD (w.heap.size + 1) (w.heap.size + 1 + 1) w.heap.size _ b2 a3 b1
 have HB := Vw hb
 clear a1 a2 b1 b2 hb
 go_enter func60, ntmps60
 go_wp2_with (go_at_call 95; refine hd.mono ?_; rintro e w1 ⟨rfl, g1, g2⟩; have c1 := AA ((g2.block (w.heap.size + 1 + 1) (AF a3) (by simp)).trans a3))
 go_ret
 exact ⟨_, rfl, g1, HB.out.os ▸ g2.os, HB.out.tape ▸ g2.tape, HB.out.output ▸ g2.output, Vx HB.out.size g2.size, fun k hk => (g2.block k (Vy hk HB.out.size) (by simp; omega)).trans (HB.out.block k hk)⟩
def Af : Array Value := KA
theorem Er (w : World) : Y 60 #[Ai] w fun e w' => ∃ b, e = Z (.pointer (some ⟨b, 0, none⟩)) ∧ (∀ k, w'.cell? ⟨b, k, none⟩ = #[Value.int .u32 1, .int .i32 0, .int .u32 0, true, I 2, I 4, I 1, I 8][k]?) ∧ Below w w w' :=
 (JD w).mono fun e w' ⟨b, h1, h2, h3⟩ => ⟨b, h1, AA h2, h3⟩
theorem CA (w : World) : Y 25 #[Ai] w fun e w' => e = Z (.bool true) ∧ Below w w w' := by
 have hof := Er
 unfold Ai at hof ⊢
 have hb0 := AC w (.cells Af 25)
 unfold Af at hb0
 have HB := Vw hb0
 clear hb0
 go_enter func25, ntmps25
 go_wp2_with (go_at_call 60; refine (hof _).mono ?_; rintro e w1 ⟨b, rfl, c1, hb⟩)
 go_ret
 exact ⟨rfl, HB.out.trans (hb.mono HB.out.size)⟩
theorem DI (w : World) : Y 26 #[Ai] w fun e w' => e = Z (I 8) ∧ Below w w w' := by
 have hof := Er
 unfold Ai at hof ⊢
 have hb0 := AC w (.cells Af 25)
 unfold Af at hb0
 have HB := Vw hb0
 clear hb0
 go_enter func26, ntmps26
 go_wp2_with (go_at_call 60; refine (hof _).mono ?_; rintro e w1 ⟨b, rfl, c1, hb⟩)
 go_ret
 exact ⟨rfl, HB.out.trans (hb.mono HB.out.size)⟩
theorem Ij (w : World) : Y 54 #[Ai] w fun e w' => e = Z (I 8) ∧ Below w w w' := by
 have hof := Er
 unfold Ai at hof ⊢
 have hb0 := AC w (.cells Af 25)
 unfold Af at hb0
 have HB := Vw hb0
 clear hb0
 go_enter func54, ntmps54
 go_wp2_with (go_at_call 60; refine (hof _).mono ?_; rintro e w1 ⟨b, rfl, c1, hb⟩)
 go_ret
 exact ⟨rfl, HB.out.trans (hb.mono HB.out.size)⟩
theorem FA (l x : Nat) (hl : l < 64) (hx : x < 8) (w : World) : Y 111 #[I l, I x] w fun e w' => e = Z (U ((l * 64 + x * 8 : Nat) : Int)) ∧ w = w' := by
 have h1 : (0 : Int) ≤ (l : Int) := by omega
 have h2 : (l : Int) < 64 := by omega
 have h3 : (0 : Int) ≤ (x : Int) := by omega
 have h4 : (x : Int) < 8 := by omega
 go_enter func111, ntmps111
 go_wp2
 go_ret
 exact ⟨by simp, rfl⟩
theorem Fj (w : World) : Y 65 #[Ai] w fun e w' => e = Z (U 64) ∧ Below w w w' := by
 have hof := Er
 unfold Ai at hof ⊢
 have HB := Vw (AC w (.cells Af 25))
 unfold Af at HB
 go_enter func65, ntmps65
 go_wp2_with (first | (go_at_call 60; refine (hof _).mono ?_; rintro e w1 ⟨b, rfl, c1, hb⟩) | (go_at_call 111; refine (FA 1 0 (by decide) (by decide) _).mono ?_; rintro e w1 ⟨rfl, rfl⟩))
 go_ret
 exact ⟨rfl, HB.out.trans (hb.mono HB.out.size)⟩
theorem MI (w : World) : Y 162 #[Ai, I 0] w fun e w' => e = Z (U 128) ∧ Below w w w' := by
 have hof := Er
 unfold Ai at hof ⊢
 have HB := Vw (AC w (.cells Af 25))
 unfold Af at HB
 go_enter func162, ntmps162
 go_wp2_with (first | (go_at_call 60; refine (hof _).mono ?_; rintro e w1 ⟨b, rfl, c1, hb⟩) | (go_at_call 111; refine (FA 2 0 (by decide) (by decide) _).mono ?_; rintro e w1 ⟨rfl, rfl⟩))
 go_ret
 exact ⟨rfl, HB.out.trans (hb.mono HB.out.size)⟩
theorem GG (x : Nat) (hx : x < 8) (w : World) : Y 157 #[Ai, I x] w fun e w' => e = Z (U ((256 + x * 8 : Nat) : Int)) ∧ Below w w w' := by
 have hof := Er
 unfold Ai at hof ⊢
 have HB := Vw (AC w (.cells Af 25))
 unfold Af at HB
 have h0 : (0 : Int) ≤ (x : Int) := by omega
 have h1 : (x : Int) < 8 := by omega
 have h2 : (x : Int) / 8 = 0 := by omega
 have h3 : (x : Int) % 8 = (x : Int) := by omega
 go_enter func157, ntmps157
 go_wp2_with (first | (go_at_call 60; refine (hof _).mono ?_; rintro e w1 ⟨b, rfl, c1, hb⟩) | (go_at_call 111; refine (FA 4 x (by decide) hx _).mono ?_; rintro e w1 ⟨rfl, rfl⟩))
 go_ret
 exact ⟨rfl, HB.out.trans (hb.mono HB.out.size)⟩
theorem NX (w : World) : Y 100 #[Ai] w fun e w' => e = Z (U 0) ∧ Below w w w' := by
 unfold Ai
 go_enter func100, ntmps100
 go_wp2_with (go_at_call 111; refine (FA 0 0 (by decide) (by decide) _).mono ?_; rintro e w1 ⟨rfl, rfl⟩)
 go_ret
 exact ⟨rfl, AC _ _⟩
theorem EL (r n : Int) (h0 : 0 ≤ n) (hn : n < 9223372036854775808) (w : World) : Y 64 #[I r, n] w fun e w' => e = Z (⟨1, r, 0, 0, n⟩ : Ins).v ∧ Below w w w' := by
 have hb := fun o => AC w o
 go_enter func64, ntmps64
 go_wp2_with fail
 refine bodyPost_ret (v := (⟨1, r, 0, 0, n⟩ : Ins).v) (by simp [results, results64, go_sem, Ins.v]) rfl ⟨rfl, hb _⟩
theorem Hx (r n : Int) (h0 : 0 ≤ n) (hn : n < 9223372036854775808) (w : World) : Y 152 #[I r, n] w fun e w' => e = Z (⟨1, r, 0, 0, n⟩ : Ins).v ∧ Below w w w' := by
 have hb := fun o => AC w o
 go_enter func152, ntmps152
 go_wp2_with fail
 refine bodyPost_ret (v := (⟨1, r, 0, 0, n⟩ : Ins).v) (by simp [results, results152, go_sem, Ins.v]) rfl ⟨rfl, hb _⟩
theorem JE (a b n : Int) (w : World) : Y 66 #[I a, I b, I n] w fun e w' => e = Z (⟨8, a, b, 0, n⟩ : Ins).v ∧ Below w w w' := by
 have hb := fun o => AC w o
 go_enter func66, ntmps66
 go_wp2_with fail
 refine bodyPost_ret (v := (⟨8, a, b, 0, n⟩ : Ins).v) (by simp [results, results66, go_sem, Ins.v]) rfl ⟨rfl, hb _⟩
theorem JB (a b n : Int) (w : World) : Y 115 #[I a, I b, I n] w fun e w' => e = Z (⟨9, a, b, 0, n⟩ : Ins).v ∧ Below w w w' := by
 have hb := fun o => AC w o
 go_enter func115, ntmps115
 go_wp2_with fail
 refine bodyPost_ret (v := (⟨9, a, b, 0, n⟩ : Ins).v) (by simp [results, results115, go_sem, Ins.v]) rfl ⟨rfl, hb _⟩
theorem FV (b : Int) (w : World) : Y 116 #[I b] w fun e w' => e = Z (⟨12, 0, b, 0, 0⟩ : Ins).v ∧ Below w w w' := by
 have hb := fun o => AC w o
 go_enter func116, ntmps116
 go_wp2_with fail
 refine bodyPost_ret (v := (⟨12, 0, b, 0, 0⟩ : Ins).v) (by simp [results, results116, go_sem, Ins.v]) rfl ⟨rfl, hb _⟩
theorem GB (o a b c : Int) (w : World) : Y 113 #[I o, I a, I b, I c] w fun e w' => e = Z (⟨o, a, b, c, 0⟩ : Ins).v ∧ Below w w w' := by
 have hb := fun o => AC w o
 go_enter func113, ntmps113
 go_wp2_with fail
 refine bodyPost_ret (v := (⟨o, a, b, c, 0⟩ : Ins).v) (by simp [results, results113, go_sem, Ins.v]) rfl ⟨rfl, hb _⟩
theorem In (w : World) : Y 163 #[] w fun e w' => e = Z (⟨15, 0, 0, 0, 0⟩ : Ins).v ∧ Below w w w' := by
 have hb := fun o => AC w o
 go_enter func163, ntmps163
 go_wp2_with fail
 refine bodyPost_ret (v := (⟨15, 0, 0, 0, 0⟩ : Ins).v) (by simp [results, results163, go_sem, Ins.v]) rfl ⟨rfl, hb _⟩
def AN (r n : Int) : Ins := ⟨1, r, 0, 0, n⟩
def AP : List Ins := [AN 0 4, ⟨6, 6, 7, 0, 0⟩, AN 0 128, ⟨2, 6, 6, 0, 0⟩]
theorem Ip (w : World) : Y 114 #[Ai] w fun e w' => ∃ X, e = Z X ∧ AH w' 165 5 X 4 (Az AP) ∧ Below w w w' := by
 have hli := EL
 have hth := GB
 have hen := MI
 have HB := Vw (AC w (.cells Af 25))
 have HI := Vw (AE w (.cells Af 25))
 unfold Af at HB HI
 simp only [Ins.v, Ai] at hli hth hen ⊢
 have c0 := AA HI.out
 go_enter func114, ntmps114
 go_wp2_with fail
 generalize w.alloc (.cells KA 25) = W0 at *
 replace HB := Vw HB.out.drew
 go_region_with (first
  | (go_at_call 64; refine (hli _ _ (by omega) (by omega) _).mono ?_; rintro e w1 ⟨rfl, hb1⟩; replace HI := Vw (AB hb1 HI.out); replace HB := Vw (HB.out.trans (hb1.mono HB.out.size)); have c1 := AA HI.out)
  | (go_at_call 113; refine (hth _ _ _ _ _).mono ?_; rintro e w1 ⟨rfl, hb1⟩; replace HI := Vw (AB hb1 HI.out); replace HB := Vw (HB.out.trans (hb1.mono HB.out.size)); have c1 := AA HI.out)
  | (go_at_call 162; refine (hen _).mono ?_; rintro e w1 ⟨rfl, hb1⟩; replace HI := Vw (AB hb1 HI.out); replace HB := Vw (HB.out.trans (hb1.mono HB.out.size)); have c1 := AA HI.out))
 all_goals
  have hr := AH.made (size := 5) (m := 4) (AE w1 (.cells (Az AP).toArray 165)) rfl
  have hb := HB.out.trans ((AC w1 (.cells (Az AP).toArray 165)).mono HB.out.size)
  go_wp2_with fail
  go_ret
  exact ⟨_, rfl, hr, hb⟩
theorem Ap.below {Av : Nat → Prop} {w w' : World} {bb : Nat} {B : BS} (h : Ap Av w bb B) (hb : Below w w w') : Ap Av w' bb B := by
 obtain ⟨vl, vm, vj, hat⟩ := h
 exact ⟨vl, vm, vj, hat.below hb⟩
theorem Ap.lt {Av : Nat → Prop} {w : World} {bb : Nat} {B : BS} (h : Ap Av w bb B) : bb < w.heap.size := by
 obtain ⟨vl, vm, vj, hat⟩ := h
 exact AF hat.1
def BS.add (B : BS) (L : List Ins) : BS := { B with l := B.l ++ L }
def BS.mark (B : BS) : BS := { B with marks := B.marks ++ [-1] }
def BS.here (B : BS) (m : Nat) : BS := { B with marks := B.marks.set m B.l.length }
def BS.jump (B : BS) (i : Ins) (m : Nat) : BS := { B with l := B.l ++ [i], jumps := B.jumps ++ [(B.l.length, m)] }
theorem Np (Av : Nat → Prop) (bb : Nat) (B : BS) (w : World) (h : Ap Av w bb B) (hA : ∀ k, Av k → k < w.heap.size) (hn : B.l.length + 1 ≤ 1000000) :
 Y 101 #[bb] w fun e w' => e = Z (.tuple #[]) ∧ Ap Av w' bb (B.add [AN 7 0]) ∧ Pres Av w w' := by
 have hli := EL
 have had := FM Av bb B [AN 7 0]
 simp only [Ins.v] at hli
 go_enter func101, ntmps101
 go_wp2_with (first
  | (go_at_call 64; refine (hli _ _ (by omega) (by omega) _).mono ?_; rintro e w1 ⟨rfl, hb1⟩)
  | (go_at_call 62; refine (had _ _ (h.below (hb1.trans ((AC w1 (.cells (Az [AN 7 0]).toArray 165)).mono hb1.size))) (AH.made (size := 5) (m := 1) (AE w1 (.cells (Az [AN 7 0]).toArray 165)) rfl) (fun k hk => Vy (hA k hk) (Vx hb1.size (by simp))) hn).mono ?_; rintro e w2 ⟨rfl, g1, g2⟩))
 go_end0
 exact ⟨rfl, g1, ((Pres.of_below hb1).alloc _).trans g2⟩
def At (Av : Nat → Prop) (w : World) (bb : Nat) (B : BS) (w' : World) : Prop := Ap Av w' bb B ∧ Pres Av w w'
theorem At.below {Av : Nat → Prop} {w w1 w2 : World} {bb : Nat} {B : BS} (h : At Av w bb B w1) (hb : Below w1 w1 w2) : At Av w bb B w2 := ⟨h.1.below hb, h.2.trans (Pres.of_below hb)⟩
theorem At.step {Av : Nat → Prop} {w w1 w2 : World} {bb : Nat} {B B' : BS} (h : At Av w bb B w1) (hb : Ap Av w2 bb B') (hp : Pres Av w1 w2) : At Av w bb B' w2 := ⟨hb, h.2.trans hp⟩
theorem At.drew {Av : Nat → Prop} {w w1 : World} {bb : Nat} {B : BS} (h : At Av w bb B w1) : At Av w bb B w1.drew := ⟨h.1, h.2.drew⟩
theorem At.in {Av : Nat → Prop} {w w1 : World} {bb : Nat} {B : BS} (h : At Av w bb B w1) (hA : ∀ k, Av k → k < w.heap.size) : ∀ k, Av k → k < w1.heap.size := fun k hk => Vy (hA k hk) h.2.size
def Ft (B : BS) (a : Int) : BS := ((B.mark.here B.marks.length).add [AN 1 a, AN 2 0, AN 3 1, ⟨10, 2, 1, 3, 0⟩, AN 0 0]).jump ⟨19, 2, 0, 0, 0⟩ B.marks.length
theorem ON (Av : Nat → Prop) (bb : Nat) (B : BS) (a : Int) (w : World) (h : Ap Av w bb B) (hA : ∀ k, Av k → k < w.heap.size) (ha0 : 0 ≤ a) (ha : a ≤ 4095) (hn : B.l.length + 6 ≤ 1000000) (hm : B.marks.length + 1 ≤ 1000000) (hj : B.jumps.length + 1 ≤ 1000000) :
 Y 99 #[bb, a] w fun e w' => e = Z (.tuple #[]) ∧ Ap Av w' bb (Ft B a) ∧ Pres Av w w' := by
 have hli := Hx
 simp only [Ins.v] at hli
 have G := Vw (show At Av w bb B w from ⟨h, Pres.refl _ _⟩)
 clear h
 go_enter func99, ntmps99
 go_wp2_with (first
  | (go_at_call 152; refine (hli _ _ (by omega) (by omega) _).mono ?_; rintro e w1 ⟨rfl, hb1⟩; replace G := Vw (G.out.below hb1))
  | (go_at_call 98; refine (Jf Av bb B _ G.out.1 (G.out.in hA) hm).mono ?_; rintro e w1 ⟨rfl, g1, g2⟩; replace G := Vw (G.out.step (B' := B.mark) g1 g2))
  | (go_at_call 106; refine (Jp Av bb B.mark B.marks.length _ G.out.1 (by simp [BS.mark]) (by simp [BS.mark])).mono ?_; rintro e w1 ⟨rfl, g1, g2⟩; replace G := Vw (G.out.step (B' := B.mark.here B.marks.length) g1 g2))
  | (go_at_call 62; refine (FM Av bb (B.mark.here B.marks.length) [AN 1 a, AN 2 0, AN 3 1, ⟨10, 2, 1, 3, 0⟩, AN 0 0] _ _ (G.out.1.below (AC _ _)) (AH.made (size := 5) (m := 5) (AE _ (.cells (Az [AN 1 a, AN 2 0, AN 3 1, ⟨10, 2, 1, 3, 0⟩, AN 0 0]).toArray 165)) rfl) ((G.out.below (AC _ _)).in hA) (by simp [BS.mark, BS.here]; omega)).mono ?_; rintro e w1 ⟨rfl, g1, g2⟩; replace G := Vw ((G.out.below (AC _ _)).step (B' := (B.mark.here B.marks.length).add [AN 1 a, AN 2 0, AN 3 1, ⟨10, 2, 1, 3, 0⟩, AN 0 0]) g1 g2))
  | (go_at_call 112; refine (Ji Av bb ((B.mark.here B.marks.length).add [AN 1 a, AN 2 0, AN 3 1, ⟨10, 2, 1, 3, 0⟩, AN 0 0]) ⟨19, 2, 0, 0, 0⟩ B.marks.length _ G.out.1 (G.out.in hA) (by simp [BS.mark, BS.here, BS.add]) (by decide) (by decide) (by simp [BS.mark, BS.here, BS.add]; omega) (by simp [BS.mark, BS.here, BS.add]; omega)).mono ?_; rintro e w1 ⟨rfl, g1, g2⟩; replace G := Vw (G.out.step (B' := Ft B a) g1 g2)))
 go_end0
 exact ⟨rfl, G.out⟩
def IP (B : BS) (a : Int) : BS := B.add [AN 1 a, AN 0 0, ⟨9, 0, 1, 0, 0⟩]
theorem PE (Av : Nat → Prop) (bb : Nat) (B : BS) (a : Int) (w : World) (h : Ap Av w bb B) (hA : ∀ k, Av k → k < w.heap.size) (ha0 : 0 ≤ a) (ha : a ≤ 4095) (hn : B.l.length + 3 ≤ 1000000) :
 Y 107 #[bb, a] w fun e w' => e = Z (.tuple #[]) ∧ Ap Av w' bb (IP B a) ∧ Pres Av w w' := by
 have hli := Hx
 simp only [Ins.v] at hli
 have G := Vw (show At Av w bb B w from ⟨h, Pres.refl _ _⟩)
 clear h
 go_enter func107, ntmps107
 go_wp2_with (first
  | (go_at_call 152; refine (hli _ _ (by omega) (by omega) _).mono ?_; rintro e w1 ⟨rfl, hb1⟩; replace G := Vw (G.out.below hb1))
  | (go_at_call 62; refine (FM Av bb B [AN 1 a, AN 0 0, ⟨9, 0, 1, 0, 0⟩] _ _ (G.out.1.below (AC _ _)) (AH.made (size := 5) (m := 3) (AE _ (.cells (Az [AN 1 a, AN 0 0, ⟨9, 0, 1, 0, 0⟩]).toArray 165)) rfl) ((G.out.below (AC _ _)).in hA) hn).mono ?_; rintro e w1 ⟨rfl, g1, g2⟩; replace G := Vw ((G.out.below (AC _ _)).step (B' := IP B a) g1 g2)))
 go_end0
 exact ⟨rfl, G.out⟩
def FL : Ins := ⟨15, 0, 0, 0, 0⟩
def Bx (a b n : Int) : Ins := ⟨9, a, b, 0, n⟩
def BF (a b n : Int) : Ins := ⟨8, a, b, 0, n⟩
def CM (b : Int) : Ins := ⟨12, 0, b, 0, 0⟩
def AO : List Ins := [FL, AN 6 64, AN 0 0, Bx 0 6 0, CM 6, FL]
theorem Hw (w : World) : Y 117 #[Ai] w fun e w' => ∃ X, e = Z X ∧ AH w' 165 5 X 6 (Az AO) ∧ Below w w w' := by
 have hli := EL
 have hst := JB
 have hcl := FV
 have hfe := In
 have hco := Fj
 have HB := Vw (AC w (.cells Af 25))
 have HI := Vw (AE w (.cells Af 25))
 unfold Af at HB HI
 simp only [Ins.v, Ai] at hli hst hcl hfe hco ⊢
 have c0 := AA HI.out
 go_enter func117, ntmps117
 go_wp2_with fail
 generalize w.alloc (.cells KA 25) = W0 at *
 replace HB := Vw HB.out.drew
 go_region_with (first
  | (go_at_call 64; refine (hli _ _ (by omega) (by omega) _).mono ?_; rintro e w1 ⟨rfl, hb1⟩; replace HI := Vw (AB hb1 HI.out); replace HB := Vw (HB.out.trans (hb1.mono HB.out.size)); have c1 := AA HI.out)
  | (go_at_call 115; refine (hst _ _ _ _).mono ?_; rintro e w1 ⟨rfl, hb1⟩; replace HI := Vw (AB hb1 HI.out); replace HB := Vw (HB.out.trans (hb1.mono HB.out.size)); have c1 := AA HI.out)
  | (go_at_call 116; refine (hcl _ _).mono ?_; rintro e w1 ⟨rfl, hb1⟩; replace HI := Vw (AB hb1 HI.out); replace HB := Vw (HB.out.trans (hb1.mono HB.out.size)); have c1 := AA HI.out)
  | (go_at_call 163; refine (hfe _).mono ?_; rintro e w1 ⟨rfl, hb1⟩; replace HI := Vw (AB hb1 HI.out); replace HB := Vw (HB.out.trans (hb1.mono HB.out.size)); have c1 := AA HI.out)
  | (go_at_call 65; refine (hco _).mono ?_; rintro e w1 ⟨rfl, hb1⟩; replace HI := Vw (AB hb1 HI.out); replace HB := Vw (HB.out.trans (hb1.mono HB.out.size)); have c1 := AA HI.out))
 all_goals
  have hr := AH.made (size := 5) (m := 6) (AE w1 (.cells (Az AO).toArray 165)) rfl
  have hb := HB.out.trans ((AC w1 (.cells (Az AO).toArray 165)).mono HB.out.size)
  go_wp2_with fail
  go_ret
  exact ⟨_, rfl, hr, hb⟩
theorem Ku (L : List Ins) : (Az L).length = L.length * 5 := by
 induction L with
 | nil => rfl
 | cons a L ih => simp only [Az, List.flatMap_cons, List.length_append, Ins.cells, List.length_cons, List.length_nil] at *; omega
theorem Gk (Av : Nat → Prop) (bb : Nat) (B : BS) (n : Nat) (hB : B.marks.length = n) (w : World) (h : Ap Av w bb B) (hA : ∀ k, Av k → k < w.heap.size) (hn : n + 1 ≤ 1000000) :
 Y 98 #[bb] w fun e w' => e = Z (I n) ∧ Ap Av w' bb B.mark ∧ Pres Av w w' := by
 subst hB
 exact Jf Av bb B w h hA hn
theorem Gn (Av : Nat → Prop) (bb : Nat) (B : BS) (m : Nat) (w : World) (h : Ap Av w bb B) (hm : m < B.marks.length) (hu : B.marks[m]? = some (-1)) :
 Y 106 #[bb, I m] w fun e w' => e = Z (.tuple #[]) ∧ Ap Av w' bb (B.here m) ∧ Pres Av w w' := Jp Av bb B m w h hm hu
theorem Jj (Av : Nat → Prop) (bb : Nat) (B : BS) (i : Ins) (m : Nat) (w : World) (h : Ap Av w bb B) (hA : ∀ k, Av k → k < w.heap.size) (hm : m < B.marks.length) (ho1 : 17 ≤ i.op) (ho2 : i.op ≤ 20) (hn : B.jumps.length + 1 ≤ 1000000) (hn2 : B.l.length + 1 ≤ 1000000) :
 Y 112 #[bb, i.v, I m] w fun e w' => e = Z (.tuple #[]) ∧ Ap Av w' bb (B.jump i m) ∧ Pres Av w w' := Ji Av bb B i m w h hA hm ho1 ho2 hn hn2
theorem Mn (Av : Nat → Prop) (bb : Nat) (B : BS) (L : List Ins) (X : Value) (w : World) (h : Ap Av w bb B) (hX : AH w 165 5 X L.length (Az L)) (hA : ∀ k, Av k → k < w.heap.size) (hn : B.l.length + L.length ≤ 1000000) :
 Y 62 #[bb, X] w fun e w' => e = Z (.tuple #[]) ∧ Ap Av w' bb (B.add L) ∧ Pres Av w w' := FM Av bb B L X w h hX hA hn
theorem Dw (Av : Nat → Prop) (bb : Nat) (B : BS) (L : List Ins) (n : Nat) (hL : L.length = n) (w : World) (h : Ap Av w bb B) (hA : ∀ k, Av k → k < w.heap.size) (hn : B.l.length + n ≤ 1000000) :
 Y 62 #[bb, .slice (some w) n n] (w.alloc (.cells (Az L).toArray 165)) fun e w' => e = Z (.tuple #[]) ∧ Ap Av w' bb (B.add L) ∧ Pres Av w w' := by
 subst hL
 have hr := AH.made (size := 5) (m := L.length) (AE w (.cells (Az L).toArray 165)) (by simp [Ku])
 refine (Mn Av bb B L _ _ (h.below (AC _ _)) (by simpa using hr) (fun k hk => Vy (hA k hk) (by simp)) hn).mono ?_
 rintro e w' ⟨rfl, g1, g2⟩
 exact ⟨rfl, g1, (Pres.of_below (AC _ _)).trans g2⟩
theorem Ap.guard {Av : Nat → Prop} {w : World} {bb : Nat} {B : BS} (h : Ap Av w bb B) (o : Obj) : Ap (fun k => Av k ∨ k = w.heap.size) (w.alloc o) bb B := by
 have hb := h.below (AC w o)
 have hl := h.lt
 obtain ⟨vl, vm, vj, h1, h2, h3, h4, h5, h6, h7, h8⟩ := h
 have hg := AC w o
 exact ⟨vl, vm, vj, AB hg h1, h2.below hg, h3.below hg, h4.below hg, fun hk => hk.elim h5 (by omega), fun k hk hh => hh.elim (h6 k hk) (fun e => by have := h2.lt k hk; omega), fun k hk hh => hh.elim (h7 k hk) (fun e => by have := h3.lt k hk; omega), fun k hk hh => hh.elim (h8 k hk) (fun e => by have := h4.lt k hk; omega)⟩
theorem Ap.weaken {Av Bv : Nat → Prop} {w : World} {bb : Nat} {B : BS} (h : Ap Av w bb B) (hs : ∀ k, Bv k → Av k) : Ap Bv w bb B := by
 obtain ⟨vl, vm, vj, h1, h2, h3, h4, h5, h6, h7, h8⟩ := h
 exact ⟨vl, vm, vj, h1, h2, h3, h4, fun hk => h5 (hs _ hk), fun k hk hh => h6 k hk (hs _ hh), fun k hk hh => h7 k hk (hs _ hh), fun k hk hh => h8 k hk (hs _ hh)⟩
theorem At.heap {Av : Nat → Prop} {w w1 : World} {bb : Nat} {B : BS} (h : At Av w bb B w1) {p : Nat} {o : Obj} (ha : Av p) (hp : w.heap[p]? = some o) : w1.heap[p]? = some o := (h.2.block p (AF hp) ha).trans hp
theorem At.unguard {Av : Nat → Prop} {w w1 : World} {o : Obj} {bb : Nat} {B : BS} (h : At (fun k => Av k ∨ k = w.heap.size) (w.alloc o) bb B w1) : Ap Av w1 bb B ∧ Pres Av w w1 :=
 ⟨h.1.weaken (fun k hk => .inl hk), (Pres.of_below (AC w o)).trans (h.2.mono fun k _ hk => .inl hk)⟩
def DA (B : BS) : BS :=
 ((((((((((B.mark.mark.here B.marks.length).add [AN 0 0]).jump ⟨18, 7, 0, 0, 0⟩ (B.marks.length + 1)).add [AN 0 1, ⟨3, 7, 7, 0, 0⟩]).add AP).add [BF 1 6 0, BF 4 6 8, Bx 4 1 0, CM 1]).jump ⟨17, 0, 0, 0, 0⟩ B.marks.length).here (B.marks.length + 1)).add AO))
theorem Ju (Av : Nat → Prop) (bb : Nat) (B : BS) (w : World) (h : Ap Av w bb B) (hA : ∀ k, Av k → k < w.heap.size) (hn : B.l.length ≤ 100000) (hm : B.marks.length ≤ 100000) (hj : B.jumps.length ≤ 100000) :
 Y 67 #[bb, Ai] w fun e w' => e = Z (.tuple #[]) ∧ Ap Av w' bb (DA B) ∧ Pres Av w w' := by
 have hli := EL
 have hld := JE
 have hst := JB
 have hcl := FV
 have hth := GB
 have hgo := CA
 have hen := Ip
 have hno := Hw
 have HI := Vw (AE w (.cells Af 25))
 have G := Vw (show At (fun k => Av k ∨ k = w.heap.size) (w.alloc (.cells Af 25)) bb B _ from ⟨h.guard _, Pres.refl _ _⟩)
 have HA := Vw (show ∀ k, (Av k ∨ k = w.heap.size) → k < (w.alloc (.cells Af 25)).heap.size from fun k hk => hk.elim (fun h => Vy (hA k h) (by simp)) (fun h => by simp [h]))
 have c1 := AA HI.out
 unfold Af at c1
 simp only [Ins.v, Ai] at hli hld hst hcl hth hgo hen hno ⊢
 clear h
 go_enter func67, ntmps67
 go_wp2_with fail
 refine (hgo _).mono ?_
 rintro e w1 ⟨rfl, hb1⟩
 replace G := Vw (G.out.below hb1)
 clear hb1
 replace c1 := AA (G.out.heap (.inr rfl) HI.out)
 unfold Af at c1
 go_wp2_with fail
 refine (Gk _ bb B B.marks.length rfl _ G.out.1 (G.out.in HA.out) (by omega)).mono ?_
 rintro e w1 ⟨rfl, g1, g2⟩
 replace G := Vw (G.out.step (B' := B.mark) g1 g2)
 clear g1 g2
 replace c1 := AA (G.out.heap (.inr rfl) HI.out)
 unfold Af at c1
 go_wp2_with fail
 refine (Gk _ bb B.mark (B.marks.length + 1) (by simp [BS.mark, BS.here, BS.add, BS.jump, AP, AO]; try omega) _ G.out.1 (G.out.in HA.out) (by omega)).mono ?_
 rintro e w1 ⟨rfl, g1, g2⟩
 replace G := Vw (G.out.step (B' := B.mark.mark) g1 g2)
 clear g1 g2
 replace c1 := AA (G.out.heap (.inr rfl) HI.out)
 unfold Af at c1
 go_wp2_with fail
 refine (Gn _ bb B.mark.mark B.marks.length _ G.out.1 (by simp [BS.mark, BS.here, BS.add, BS.jump, AP, AO]; try omega) (by simp [BS.mark, BS.here, BS.add, BS.jump, AP, AO]; try omega)).mono ?_
 rintro e w1 ⟨rfl, g1, g2⟩
 replace G := Vw (G.out.step (B' := (B.mark.mark.here B.marks.length)) g1 g2)
 clear g1 g2
 replace c1 := AA (G.out.heap (.inr rfl) HI.out)
 unfold Af at c1
 go_wp2_with fail
 refine (hli _ _ (by omega) (by omega) _).mono ?_
 rintro e w1 ⟨rfl, hb1⟩
 replace G := Vw (G.out.below hb1)
 clear hb1
 replace c1 := AA (G.out.heap (.inr rfl) HI.out)
 unfold Af at c1
 go_wp2_with fail
 refine (Dw _ bb (B.mark.mark.here B.marks.length) [AN 0 0] 1 rfl _ G.out.1 (G.out.in HA.out) (by simp [BS.mark, BS.here, BS.add, BS.jump, AP, AO]; try omega)).mono ?_
 rintro e w1 ⟨rfl, g1, g2⟩
 replace G := Vw (G.out.step (B' := ((B.mark.mark.here B.marks.length).add [AN 0 0])) g1 g2)
 clear g1 g2
 replace c1 := AA (G.out.heap (.inr rfl) HI.out)
 unfold Af at c1
 go_wp2_with fail
 refine (Jj _ bb ((B.mark.mark.here B.marks.length).add [AN 0 0]) ⟨18, 7, 0, 0, 0⟩ (B.marks.length + 1) _ G.out.1 (G.out.in HA.out) (by simp [BS.mark, BS.here, BS.add, BS.jump, AP, AO]; try omega) (by decide) (by decide) (by simp [BS.mark, BS.here, BS.add, BS.jump, AP, AO]; try omega) (by simp [BS.mark, BS.here, BS.add, BS.jump, AP, AO]; try omega)).mono ?_
 rintro e w1 ⟨rfl, g1, g2⟩
 replace G := Vw (G.out.step (B' := (((B.mark.mark.here B.marks.length).add [AN 0 0]).jump ⟨18, 7, 0, 0, 0⟩ (B.marks.length + 1))) g1 g2)
 clear g1 g2
 replace c1 := AA (G.out.heap (.inr rfl) HI.out)
 unfold Af at c1
 go_wp2_with fail
 refine (hli _ _ (by omega) (by omega) _).mono ?_
 rintro e w1 ⟨rfl, hb1⟩
 replace G := Vw (G.out.below hb1)
 clear hb1
 replace c1 := AA (G.out.heap (.inr rfl) HI.out)
 unfold Af at c1
 go_wp2_with fail
 refine (hth _ _ _ _ _).mono ?_
 rintro e w1 ⟨rfl, hb1⟩
 replace G := Vw (G.out.below hb1)
 clear hb1
 replace c1 := AA (G.out.heap (.inr rfl) HI.out)
 unfold Af at c1
 go_wp2_with fail
 refine (Dw _ bb (((B.mark.mark.here B.marks.length).add [AN 0 0]).jump ⟨18, 7, 0, 0, 0⟩ (B.marks.length + 1)) [AN 0 1, ⟨3, 7, 7, 0, 0⟩] 2 rfl _ G.out.1 (G.out.in HA.out) (by simp [BS.mark, BS.here, BS.add, BS.jump, AP, AO]; try omega)).mono ?_
 rintro e w1 ⟨rfl, g1, g2⟩
 replace G := Vw (G.out.step (B' := ((((B.mark.mark.here B.marks.length).add [AN 0 0]).jump ⟨18, 7, 0, 0, 0⟩ (B.marks.length + 1)).add [AN 0 1, ⟨3, 7, 7, 0, 0⟩])) g1 g2)
 clear g1 g2
 replace c1 := AA (G.out.heap (.inr rfl) HI.out)
 unfold Af at c1
 go_wp2_with fail
 refine (hen _).mono ?_
 rintro e w1 ⟨X, rfl, hX, hb1⟩
 replace G := Vw (G.out.below hb1)
 have HX := Vw hX
 clear hX hb1
 replace c1 := AA (G.out.heap (.inr rfl) HI.out)
 unfold Af at c1
 go_wp2_with fail
 refine (Mn _ bb ((((B.mark.mark.here B.marks.length).add [AN 0 0]).jump ⟨18, 7, 0, 0, 0⟩ (B.marks.length + 1)).add [AN 0 1, ⟨3, 7, 7, 0, 0⟩]) AP _ _ G.out.1 HX.out (G.out.in HA.out) (by simp [BS.mark, BS.here, BS.add, BS.jump, AP, AO]; try omega)).mono ?_
 rintro e w1 ⟨rfl, g1, g2⟩
 replace G := Vw (G.out.step (B' := (((((B.mark.mark.here B.marks.length).add [AN 0 0]).jump ⟨18, 7, 0, 0, 0⟩ (B.marks.length + 1)).add [AN 0 1, ⟨3, 7, 7, 0, 0⟩]).add AP)) g1 g2)
 clear g1 g2
 replace c1 := AA (G.out.heap (.inr rfl) HI.out)
 unfold Af at c1
 clear HX
 go_wp2_with fail
 refine (hld _ _ _ _).mono ?_
 rintro e w1 ⟨rfl, hb1⟩
 replace G := Vw (G.out.below hb1)
 clear hb1
 replace c1 := AA (G.out.heap (.inr rfl) HI.out)
 unfold Af at c1
 go_wp2_with fail
 refine (hld _ _ _ _).mono ?_
 rintro e w1 ⟨rfl, hb1⟩
 replace G := Vw (G.out.below hb1)
 clear hb1
 replace c1 := AA (G.out.heap (.inr rfl) HI.out)
 unfold Af at c1
 go_wp2_with fail
 refine (hst _ _ _ _).mono ?_
 rintro e w1 ⟨rfl, hb1⟩
 replace G := Vw (G.out.below hb1)
 clear hb1
 replace c1 := AA (G.out.heap (.inr rfl) HI.out)
 unfold Af at c1
 go_wp2_with fail
 refine (hcl _ _).mono ?_
 rintro e w1 ⟨rfl, hb1⟩
 replace G := Vw (G.out.below hb1)
 clear hb1
 replace c1 := AA (G.out.heap (.inr rfl) HI.out)
 unfold Af at c1
 go_wp2_with fail
 refine (Dw _ bb (((((B.mark.mark.here B.marks.length).add [AN 0 0]).jump ⟨18, 7, 0, 0, 0⟩ (B.marks.length + 1)).add [AN 0 1, ⟨3, 7, 7, 0, 0⟩]).add AP) [BF 1 6 0, BF 4 6 8, Bx 4 1 0, CM 1] 4 rfl _ G.out.1 (G.out.in HA.out) (by simp [BS.mark, BS.here, BS.add, BS.jump, AP, AO]; try omega)).mono ?_
 rintro e w1 ⟨rfl, g1, g2⟩
 replace G := Vw (G.out.step (B' := ((((((B.mark.mark.here B.marks.length).add [AN 0 0]).jump ⟨18, 7, 0, 0, 0⟩ (B.marks.length + 1)).add [AN 0 1, ⟨3, 7, 7, 0, 0⟩]).add AP).add [BF 1 6 0, BF 4 6 8, Bx 4 1 0, CM 1])) g1 g2)
 clear g1 g2
 replace c1 := AA (G.out.heap (.inr rfl) HI.out)
 unfold Af at c1
 go_wp2_with fail
 refine (Jj _ bb ((((((B.mark.mark.here B.marks.length).add [AN 0 0]).jump ⟨18, 7, 0, 0, 0⟩ (B.marks.length + 1)).add [AN 0 1, ⟨3, 7, 7, 0, 0⟩]).add AP).add [BF 1 6 0, BF 4 6 8, Bx 4 1 0, CM 1]) ⟨17, 0, 0, 0, 0⟩ B.marks.length _ G.out.1 (G.out.in HA.out) (by simp [BS.mark, BS.here, BS.add, BS.jump, AP, AO]; try omega) (by decide) (by decide) (by simp [BS.mark, BS.here, BS.add, BS.jump, AP, AO]; try omega) (by simp [BS.mark, BS.here, BS.add, BS.jump, AP, AO]; try omega)).mono ?_
 rintro e w1 ⟨rfl, g1, g2⟩
 replace G := Vw (G.out.step (B' := (((((((B.mark.mark.here B.marks.length).add [AN 0 0]).jump ⟨18, 7, 0, 0, 0⟩ (B.marks.length + 1)).add [AN 0 1, ⟨3, 7, 7, 0, 0⟩]).add AP).add [BF 1 6 0, BF 4 6 8, Bx 4 1 0, CM 1]).jump ⟨17, 0, 0, 0, 0⟩ B.marks.length)) g1 g2)
 clear g1 g2
 replace c1 := AA (G.out.heap (.inr rfl) HI.out)
 unfold Af at c1
 go_wp2_with fail
 refine (Gn _ bb (((((((B.mark.mark.here B.marks.length).add [AN 0 0]).jump ⟨18, 7, 0, 0, 0⟩ (B.marks.length + 1)).add [AN 0 1, ⟨3, 7, 7, 0, 0⟩]).add AP).add [BF 1 6 0, BF 4 6 8, Bx 4 1 0, CM 1]).jump ⟨17, 0, 0, 0, 0⟩ B.marks.length) (B.marks.length + 1) _ G.out.1 (by simp [BS.mark, BS.here, BS.add, BS.jump, AP, AO]; try omega) (by simp [BS.mark, BS.here, BS.add, BS.jump, AP, AO]; try omega)).mono ?_
 rintro e w1 ⟨rfl, g1, g2⟩
 replace G := Vw (G.out.step (B' := ((((((((B.mark.mark.here B.marks.length).add [AN 0 0]).jump ⟨18, 7, 0, 0, 0⟩ (B.marks.length + 1)).add [AN 0 1, ⟨3, 7, 7, 0, 0⟩]).add AP).add [BF 1 6 0, BF 4 6 8, Bx 4 1 0, CM 1]).jump ⟨17, 0, 0, 0, 0⟩ B.marks.length).here (B.marks.length + 1))) g1 g2)
 clear g1 g2
 replace c1 := AA (G.out.heap (.inr rfl) HI.out)
 unfold Af at c1
 go_wp2_with fail
 refine (hno _).mono ?_
 rintro e w1 ⟨X, rfl, hX, hb1⟩
 replace G := Vw (G.out.below hb1)
 have HX := Vw hX
 clear hX hb1
 replace c1 := AA (G.out.heap (.inr rfl) HI.out)
 unfold Af at c1
 go_wp2_with fail
 refine (Mn _ bb ((((((((B.mark.mark.here B.marks.length).add [AN 0 0]).jump ⟨18, 7, 0, 0, 0⟩ (B.marks.length + 1)).add [AN 0 1, ⟨3, 7, 7, 0, 0⟩]).add AP).add [BF 1 6 0, BF 4 6 8, Bx 4 1 0, CM 1]).jump ⟨17, 0, 0, 0, 0⟩ B.marks.length).here (B.marks.length + 1)) AO _ _ G.out.1 HX.out (G.out.in HA.out) (by simp [BS.mark, BS.here, BS.add, BS.jump, AP, AO]; try omega)).mono ?_
 rintro e w1 ⟨rfl, g1, g2⟩
 replace G := Vw (G.out.step (B' := (DA B)) g1 g2)
 clear g1 g2
 replace c1 := AA (G.out.heap (.inr rfl) HI.out)
 unfold Af at c1
 go_wp2_with fail
 go_end0
 exact ⟨rfl, G.out.unguard⟩
def AS (B : BS) (x m : Nat) : BS := (((((B.add [AN 0 8]).jump ⟨18, 7, 0, 0, 0⟩ m).add AP).add [AN 1 ((256 + x * 8 : Nat) : Int), Bx 1 6 0, BF 4 1 0, Bx 4 6 8, CM 6, FL]).add [AN 0 1, ⟨2, 7, 7, 0, 0⟩, AN 6 64, Bx 7 6 0, CM 6, FL])
theorem Oc (Av : Nat → Prop) (bb : Nat) (B : BS) (x m : Nat) (w : World) (h : Ap Av w bb B) (hA : ∀ k, Av k → k < w.heap.size) (hx : x < 8) (hm : m < B.marks.length) (hn : B.l.length ≤ 100000) (hj : B.jumps.length ≤ 100000) :
 Y 240 #[bb, Ai, I x, I m] w fun e w' => e = Z (.tuple #[]) ∧ Ap Av w' bb (AS B x m) ∧ Pres Av w w' := by
 have hli := EL
 have hld := JE
 have hst := JB
 have hcl := FV
 have hth := GB
 have hfe := In
 have hgo := CA
 have hwo := DI
 have hro := Ij
 have hco := Fj
 have hwd := GG x hx
 have hen := Ip
 have x0 : (0 : Int) ≤ (x : Int) := by omega
 have x1 : (x : Int) < 8 := by omega
 have HI := Vw (AE w (.cells Af 25))
 have G := Vw (show At (fun k => Av k ∨ k = w.heap.size) (w.alloc (.cells Af 25)) bb B _ from ⟨h.guard _, Pres.refl _ _⟩)
 have HA := Vw (show ∀ k, (Av k ∨ k = w.heap.size) → k < (w.alloc (.cells Af 25)).heap.size from fun k hk => hk.elim (fun h => Vy (hA k h) (by simp)) (fun h => by simp [h]))
 have c1 := AA HI.out
 unfold Af at c1
 simp only [Ins.v, Ai] at hli hld hst hcl hth hfe hgo hwo hro hco hwd hen ⊢
 clear h
 go_enter func240, ntmps240
 go_wp2_with fail
 refine (hgo _).mono ?_
 rintro e w1 ⟨rfl, hb1⟩
 replace G := Vw (G.out.below hb1)
 clear hb1
 replace c1 := AA (G.out.heap (.inr rfl) HI.out)
 unfold Af at c1
 go_wp2_with fail
 refine (hwo _).mono ?_
 rintro e w1 ⟨rfl, hb1⟩
 replace G := Vw (G.out.below hb1)
 clear hb1
 replace c1 := AA (G.out.heap (.inr rfl) HI.out)
 unfold Af at c1
 go_wp2_with fail
 refine (hro _).mono ?_
 rintro e w1 ⟨rfl, hb1⟩
 replace G := Vw (G.out.below hb1)
 clear hb1
 replace c1 := AA (G.out.heap (.inr rfl) HI.out)
 unfold Af at c1
 go_wp2_with fail
 refine (hli _ _ (by omega) (by omega) _).mono ?_
 rintro e w1 ⟨rfl, hb1⟩
 replace G := Vw (G.out.below hb1)
 clear hb1
 replace c1 := AA (G.out.heap (.inr rfl) HI.out)
 unfold Af at c1
 go_wp2_with fail
 refine (Dw _ bb B [AN 0 8] 1 rfl _ G.out.1 (G.out.in HA.out) (by simp [BS.mark, BS.here, BS.add, BS.jump, AP, AO]; try omega)).mono ?_
 rintro e w1 ⟨rfl, g1, g2⟩
 replace G := Vw (G.out.step (B' := (B.add [AN 0 8])) g1 g2)
 clear g1 g2
 replace c1 := AA (G.out.heap (.inr rfl) HI.out)
 unfold Af at c1
 go_wp2_with fail
 refine (Jj _ bb (B.add [AN 0 8]) ⟨18, 7, 0, 0, 0⟩ m _ G.out.1 (G.out.in HA.out) (by simp [BS.mark, BS.here, BS.add, BS.jump, AP, AO]; try omega) (by decide) (by decide) (by simp [BS.mark, BS.here, BS.add, BS.jump, AP, AO]; try omega) (by simp [BS.mark, BS.here, BS.add, BS.jump, AP, AO]; try omega)).mono ?_
 rintro e w1 ⟨rfl, g1, g2⟩
 replace G := Vw (G.out.step (B' := ((B.add [AN 0 8]).jump ⟨18, 7, 0, 0, 0⟩ m)) g1 g2)
 clear g1 g2
 replace c1 := AA (G.out.heap (.inr rfl) HI.out)
 unfold Af at c1
 go_wp2_with fail
 refine (hen _).mono ?_
 rintro e w1 ⟨X, rfl, hX, hb1⟩
 replace G := Vw (G.out.below hb1)
 have HX := Vw hX
 clear hX hb1
 replace c1 := AA (G.out.heap (.inr rfl) HI.out)
 unfold Af at c1
 go_wp2_with fail
 refine (Mn _ bb ((B.add [AN 0 8]).jump ⟨18, 7, 0, 0, 0⟩ m) AP _ _ G.out.1 HX.out (G.out.in HA.out) (by simp [BS.mark, BS.here, BS.add, BS.jump, AP, AO]; try omega)).mono ?_
 rintro e w1 ⟨rfl, g1, g2⟩
 replace G := Vw (G.out.step (B' := (((B.add [AN 0 8]).jump ⟨18, 7, 0, 0, 0⟩ m).add AP)) g1 g2)
 clear g1 g2
 replace c1 := AA (G.out.heap (.inr rfl) HI.out)
 unfold Af at c1
 clear HX
 go_wp2_with fail
 refine (hwd _).mono ?_
 rintro e w1 ⟨rfl, hb1⟩
 replace G := Vw (G.out.below hb1)
 clear hb1
 replace c1 := AA (G.out.heap (.inr rfl) HI.out)
 unfold Af at c1
 go_wp2_with fail
 refine (hli _ _ (by omega) (by omega) _).mono ?_
 rintro e w1 ⟨rfl, hb1⟩
 replace G := Vw (G.out.below hb1)
 clear hb1
 replace c1 := AA (G.out.heap (.inr rfl) HI.out)
 unfold Af at c1
 go_wp2_with fail
 refine (hst _ _ _ _).mono ?_
 rintro e w1 ⟨rfl, hb1⟩
 replace G := Vw (G.out.below hb1)
 clear hb1
 replace c1 := AA (G.out.heap (.inr rfl) HI.out)
 unfold Af at c1
 go_wp2_with fail
 refine (hld _ _ _ _).mono ?_
 rintro e w1 ⟨rfl, hb1⟩
 replace G := Vw (G.out.below hb1)
 clear hb1
 replace c1 := AA (G.out.heap (.inr rfl) HI.out)
 unfold Af at c1
 go_wp2_with fail
 refine (hst _ _ _ _).mono ?_
 rintro e w1 ⟨rfl, hb1⟩
 replace G := Vw (G.out.below hb1)
 clear hb1
 replace c1 := AA (G.out.heap (.inr rfl) HI.out)
 unfold Af at c1
 go_wp2_with fail
 refine (hcl _ _).mono ?_
 rintro e w1 ⟨rfl, hb1⟩
 replace G := Vw (G.out.below hb1)
 clear hb1
 replace c1 := AA (G.out.heap (.inr rfl) HI.out)
 unfold Af at c1
 go_wp2_with fail
 refine (hfe _).mono ?_
 rintro e w1 ⟨rfl, hb1⟩
 replace G := Vw (G.out.below hb1)
 clear hb1
 replace c1 := AA (G.out.heap (.inr rfl) HI.out)
 unfold Af at c1
 go_wp2_with fail
 refine (Dw _ bb (((B.add [AN 0 8]).jump ⟨18, 7, 0, 0, 0⟩ m).add AP) [AN 1 ((256 + x * 8 : Nat) : Int), Bx 1 6 0, BF 4 1 0, Bx 4 6 8, CM 6, FL] 6 rfl _ G.out.1 (G.out.in HA.out) (by simp [BS.mark, BS.here, BS.add, BS.jump, AP, AO]; try omega)).mono ?_
 rintro e w1 ⟨rfl, g1, g2⟩
 replace G := Vw (G.out.step (B' := ((((B.add [AN 0 8]).jump ⟨18, 7, 0, 0, 0⟩ m).add AP).add [AN 1 ((256 + x * 8 : Nat) : Int), Bx 1 6 0, BF 4 1 0, Bx 4 6 8, CM 6, FL])) g1 g2)
 clear g1 g2
 replace c1 := AA (G.out.heap (.inr rfl) HI.out)
 unfold Af at c1
 go_wp2_with fail
 replace G := Vw (G.out.drew)
 go_region_with (first
  | (go_at_call 64; refine (hli _ _ (by omega) (by omega) _).mono ?_; rintro e w1 ⟨rfl, hb1⟩; replace G := Vw (G.out.below hb1); replace c1 := AA (G.out.heap (.inr rfl) HI.out); unfold Af at c1)
  | (go_at_call 113; refine (hth _ _ _ _ _).mono ?_; rintro e w1 ⟨rfl, hb1⟩; replace G := Vw (G.out.below hb1); replace c1 := AA (G.out.heap (.inr rfl) HI.out); unfold Af at c1)
  | (go_at_call 115; refine (hst _ _ _ _).mono ?_; rintro e w1 ⟨rfl, hb1⟩; replace G := Vw (G.out.below hb1); replace c1 := AA (G.out.heap (.inr rfl) HI.out); unfold Af at c1)
  | (go_at_call 116; refine (hcl _ _).mono ?_; rintro e w1 ⟨rfl, hb1⟩; replace G := Vw (G.out.below hb1); replace c1 := AA (G.out.heap (.inr rfl) HI.out); unfold Af at c1)
  | (go_at_call 163; refine (hfe _).mono ?_; rintro e w1 ⟨rfl, hb1⟩; replace G := Vw (G.out.below hb1); replace c1 := AA (G.out.heap (.inr rfl) HI.out); unfold Af at c1)
  | (go_at_call 65; refine (hco _).mono ?_; rintro e w1 ⟨rfl, hb1⟩; replace G := Vw (G.out.below hb1); replace c1 := AA (G.out.heap (.inr rfl) HI.out); unfold Af at c1)
  | (go_at_call 62; refine (Dw _ bb ((((B.add [AN 0 8]).jump ⟨18, 7, 0, 0, 0⟩ m).add AP).add [AN 1 ((256 + x * 8 : Nat) : Int), Bx 1 6 0, BF 4 1 0, Bx 4 6 8, CM 6, FL]) [AN 0 1, ⟨2, 7, 7, 0, 0⟩, AN 6 64, Bx 7 6 0, CM 6, FL] 6 rfl _ G.out.1 (G.out.in HA.out) (by simp [BS.mark, BS.here, BS.add, BS.jump, AP, AO]; try omega)).mono ?_; rintro e w1 ⟨rfl, g1, g2⟩; replace G := Vw (G.out.step (B' := AS B x m) g1 g2)))
 all_goals
  go_wp2_with fail
  go_end0
  exact ⟨rfl, G.out.unguard⟩
def TV (bb f k e : Nat) : Array Value := #[bb, I 2, I 5, I 1, I 1, I 2, I 2, I 2, I 2, I 1, I f, I k, I e]
def Bw (w : World) (wb bb f k e : Nat) : Prop := w.heap[wb]? = some (.cells (TV bb f k e) 161)
theorem Bw.cells {w : World} {wb bb f k e : Nat} (h : Bw w wb bb f k e) : ∀ j, w.cell? ⟨wb, j, none⟩ = #[Value.pointer (some bb), I 2, I 5, I 1, I 1, I 2, I 2, I 2, I 2, I 1, I f, I k, I e][j]? := AA h
theorem Bw.pres {Av : Nat → Prop} {w w' : World} {wb bb f k e : Nat} (h : Bw w wb bb f k e) (ha : Av wb) (hp : Pres Av w w') : Bw w' wb bb f k e := (hp.block wb (AF h) ha).trans h
theorem CN (Av : Nat → Prop) (wb bb f k e : Nat) (B : BS) (r n : Int) (h0 : 0 ≤ n) (h1 : n < 9223372036854775808) (w : World) (h : Ap Av w bb B) (hw : Bw w wb bb f k e) (hA : ∀ k, Av k → k < w.heap.size) (hn : B.l.length ≤ 100000) :
 Y 102 #[wb, I r, n] w fun e w' => e = Z (.tuple #[]) ∧ Ap Av w' bb (B.add [AN r n]) ∧ Pres Av w w' := by
 have c1 := hw.cells
 have had := Dw Av bb B [AN r n] 1 rfl w h hA (by omega)
 clear h hw
 go_enter func102, ntmps102
 go_wp2_with fail
 refine had.mono ?_
 rintro e w1 ⟨rfl, g1, g2⟩
 go_wp2_with fail
 go_end0
 exact ⟨rfl, g1, g2⟩
theorem Hl (Av : Nat → Prop) (wb bb f k e : Nat) (B : BS) (w : World) (h : Ap Av w bb B) (hw : Bw w wb bb f k e) (hA : ∀ k, Av k → k < w.heap.size) (hn : B.l.length ≤ 100000) :
 Y 202 #[wb] w fun e w' => e = Z (.tuple #[]) ∧ Ap Av w' bb (B.add [BF 4 1 0]) ∧ Pres Av w w' := by
 have c1 := hw.cells
 have had := Dw Av bb B [BF 4 1 0] 1 rfl w h hA (by omega)
 clear h hw
 go_enter func202, ntmps202
 go_wp2_with fail
 refine had.mono ?_
 rintro e w1 ⟨rfl, g1, g2⟩
 go_wp2_with fail
 go_end0
 exact ⟨rfl, g1, g2⟩
theorem Hj (Av : Nat → Prop) (wb bb f k e : Nat) (B : BS) (w : World) (h : Ap Av w bb B) (hw : Bw w wb bb f k e) (hA : ∀ k, Av k → k < w.heap.size) (hn : B.l.length ≤ 100000) :
 Y 204 #[wb] w fun e w' => e = Z (.tuple #[]) ∧ Ap Av w' bb (B.add [Bx 4 1 0]) ∧ Pres Av w w' := by
 have c1 := hw.cells
 have had := Dw Av bb B [Bx 4 1 0] 1 rfl w h hA (by omega)
 clear h hw
 go_enter func204, ntmps204
 go_wp2_with fail
 refine had.mono ?_
 rintro e w1 ⟨rfl, g1, g2⟩
 go_wp2_with fail
 go_end0
 exact ⟨rfl, g1, g2⟩
theorem Dy (Av : Nat → Prop) (wb bb f k e : Nat) (B : BS) (r : Int) (w : World) (h : Ap Av w bb B) (hw : Bw w wb bb f k e) (hA : ∀ k, Av k → k < w.heap.size) (hn : B.l.length ≤ 100000) :
 Y 108 #[wb, I r] w fun e w' => e = Z (.tuple #[]) ∧ Ap Av w' bb (B.add [⟨21, r, 0, 0, 0⟩]) ∧ Pres Av w w' := by
 have c1 := hw.cells
 have had := Dw Av bb B [⟨21, r, 0, 0, 0⟩] 1 rfl w h hA (by omega)
 clear h hw
 go_enter func108, ntmps108
 go_wp2_with fail
 refine had.mono ?_
 rintro e w1 ⟨rfl, g1, g2⟩
 go_wp2_with fail
 go_end0
 exact ⟨rfl, g1, g2⟩
theorem Ez (Av : Nat → Prop) (wb bb f k e : Nat) (B : BS) (m : Nat) (w : World) (h : Ap Av w bb B) (hw : Bw w wb bb f k e) (hA : ∀ k, Av k → k < w.heap.size) (hm : m < B.marks.length) (hn : B.l.length ≤ 100000) (hj : B.jumps.length ≤ 100000) :
 Y 103 #[wb, I m] w fun e w' => e = Z (.tuple #[]) ∧ Ap Av w' bb (B.jump ⟨17, 0, 0, 0, 0⟩ m) ∧ Pres Av w w' := by
 have c1 := hw.cells
 have had := Jj Av bb B ⟨17, 0, 0, 0, 0⟩ m w h hA hm (by decide) (by decide) (by omega) (by omega)
 clear h hw
 go_enter func103, ntmps103
 go_wp2_with fail
 refine had.mono ?_
 rintro e w1 ⟨rfl, g1, g2⟩
 go_wp2_with fail
 go_end0
 exact ⟨rfl, g1, g2⟩
theorem At.unguard' {Av : Nat → Prop} {w W0 w1 : World} {p bb : Nat} {B : BS} (h : At (fun k => Av k ∨ k = p) W0 bb B w1) (hb : Below w w W0) : Ap Av w1 bb B ∧ Pres Av w w1 :=
 ⟨h.1.weaken (fun k hk => .inl hk), (Pres.of_below hb).trans (h.2.mono fun k _ hk => .inl hk)⟩
def Cm (q x v : Int) : Array Value := #[I q, I x, v]
theorem Fs (Av : Nat → Prop) (wb bb f k e : Nat) (B : BS) (q v : Int) (x : Nat) (w : World) (h : Ap Av w bb B) (hw : Bw w wb bb f k e) (ha : Av wb) (hA : ∀ k, Av k → k < w.heap.size) (hx : x < 8) (hn : B.l.length ≤ 100000) :
 Y 201 #[wb, .agg #[I q, I x, v]] w fun e w' => e = Z (.tuple #[]) ∧ Ap Av w' bb (B.add [AN 1 ((256 + x * 8 : Nat) : Int)]) ∧ Pres Av w w' := by
 have hwd := GG x hx
 have G := Vw (show At (fun k => Av k ∨ k = w.heap.size) (w.alloc (.cells (Cm q x v) 33)) bb B _ from ⟨h.guard _, Pres.refl _ _⟩)
 have HI := Vw (AE w (.cells (Cm q x v) 33))
 have HW := Vw (show Bw (w.alloc (.cells (Cm q x v) 33)) wb bb f k e from AB (AC w _) hw)
 have HA := Vw (show ∀ k, (Av k ∨ k = w.heap.size) → k < (w.alloc (.cells (Cm q x v) 33)).heap.size from fun k hk => hk.elim (fun h => Vy (hA k h) (by simp)) (fun h => by simp [h]))
 have HB := Vw (AC w (.cells (Cm q x v) 33))
 unfold Cm at G HI HW HA HB
 have c1 := AA HI.out
 have c2 := HW.out.cells
 simp only [Ai] at hwd
 clear h hw
 go_enter func201, ntmps201
 go_wp2_with fail
 generalize w.alloc (.cells #[I q, I x, v] 33) = W0 at *
 replace G := Vw G.out.drew
 go_region_with (first
  | (go_at_call 157; refine (hwd _).mono ?_; rintro e w1 ⟨rfl, hb1⟩; replace G := Vw (G.out.below hb1); replace c1 := AA (G.out.heap (.inr rfl) HI.out); replace c2 := (HW.out.pres (.inl ha) G.out.2).cells)
  | (go_at_call 102; refine (CN _ wb bb f k e B _ _ (by omega) (by omega) _ G.out.1 (HW.out.pres (.inl ha) G.out.2) (G.out.in HA.out) hn).mono ?_; rintro e w1 ⟨rfl, g1, g2⟩; replace G := Vw (G.out.step (B' := B.add [AN 1 ((256 + x * 8 : Nat) : Int)]) g1 g2)))
 all_goals
  go_wp2_with fail
  go_end0
  exact ⟨rfl, G.out.unguard' HB.out⟩
theorem IY (Av : Nat → Prop) (wb bb f k e : Nat) (B : BS) (q v : Int) (x : Nat) (w : World) (h : Ap Av w bb B) (hw : Bw w wb bb f k e) (ha : Av wb) (hA : ∀ k, Av k → k < w.heap.size) (hx : x < 8) (hf : f < B.marks.length) (hn : B.l.length ≤ 100000) (hj : B.jumps.length ≤ 100000) :
 Y 203 #[wb, .agg #[I q, I x, v]] w fun e w' => e = Z (.tuple #[]) ∧ Ap Av w' bb (AS B x f) ∧ Pres Av w w' := by
 have G := Vw (show At (fun k => Av k ∨ k = w.heap.size) (w.alloc (.cells (Cm q x v) 33)) bb B _ from ⟨h.guard _, Pres.refl _ _⟩)
 have HI := Vw (AE w (.cells (Cm q x v) 33))
 have HW := Vw (show Bw (w.alloc (.cells (Cm q x v) 33)) wb bb f k e from AB (AC w _) hw)
 have HA := Vw (show ∀ k, (Av k ∨ k = w.heap.size) → k < (w.alloc (.cells (Cm q x v) 33)).heap.size from fun k hk => hk.elim (fun h => Vy (hA k h) (by simp)) (fun h => by simp [h]))
 have HB := Vw (AC w (.cells (Cm q x v) 33))
 unfold Cm at G HI HW HA HB
 have c1 := AA HI.out
 have c2 := HW.out.cells
 clear h hw
 go_enter func203, ntmps203
 go_wp2_with fail
 generalize w.alloc (.cells #[I q, I x, v] 33) = W0 at *
 go_still_tail 14, (by kernel_rfl)
 replace G := Vw G.out.drew
 change wpList _ _ _ _ _ W0.drew
 generalize W0.drew = W1 at *
 go_wp2_with (go_at_call 240; refine (Oc _ bb B x f _ G.out.1 (G.out.in HA.out) hx hf hn hj).mono ?_; rintro e w1 ⟨rfl, g1, g2⟩; replace G := Vw (G.out.step (B' := AS B x f) g1 g2))
 all_goals
  go_wp2_with fail
  go_end0
  exact ⟨rfl, G.out.unguard' HB.out⟩
def Gf (B : BS) (x f : Nat) (v : Int) : BS := (((B.add [AN 1 ((256 + x * 8 : Nat) : Int)]).add [BF 4 1 0]).add [⟨21, 4, 0, 0, 0⟩])
theorem Mx (Av : Nat → Prop) (wb bb f k e : Nat) (B : BS) (q v : Int) (x : Nat) (w : World) (h : Ap Av w bb B) (hw : Bw w wb bb f k e) (ha : Av wb) (hA : ∀ k, Av k → k < w.heap.size) (hx : x < 8) (hv0 : 0 ≤ v) (hv : v < 9223372036854775808) (hf : f < B.marks.length) (hn : B.l.length + 40 ≤ 100000) (hj : B.jumps.length + 4 ≤ 100000) :
 Y 153 #[wb, .agg #[I q, I x, v]] w fun e w' => e = Z (.tuple #[]) ∧ Ap Av w' bb (Gf B x f v) ∧ Pres Av w w' := by
 have G := Vw (show At (fun k => Av k ∨ k = w.heap.size) (w.alloc (.cells (Cm q x v) 33)) bb B _ from ⟨h.guard _, Pres.refl _ _⟩)
 have HI := Vw (AE w (.cells (Cm q x v) 33))
 have HW := Vw (show Bw (w.alloc (.cells (Cm q x v) 33)) wb bb f k e from AB (AC w _) hw)
 have HA := Vw (show ∀ k, (Av k ∨ k = w.heap.size) → k < (w.alloc (.cells (Cm q x v) 33)).heap.size from fun k hk => hk.elim (fun h => Vy (hA k h) (by simp)) (fun h => by simp [h]))
 have HB := Vw (AC w (.cells (Cm q x v) 33))
 unfold Cm at G HI HW HA HB
 have c1 := AA HI.out
 have c2 := HW.out.cells
 clear h hw
 go_enter func153, ntmps153
 go_wp2_with fail
 refine (Fs _ wb bb f k e B q v x _ G.out.1 (HW.out.pres (.inl ha) G.out.2) (.inl ha) (G.out.in HA.out) hx (by first | omega | (simp [AS, BS.mark, BS.here, BS.add, BS.jump, AP, AO]; done) | (simp [AS, BS.mark, BS.here, BS.add, BS.jump, AP, AO]; omega))).mono ?_
 rintro e w1 ⟨rfl, g1, g2⟩
 replace G := Vw (G.out.step (B' := (B.add [AN 1 ((256 + x * 8 : Nat) : Int)])) g1 g2)
 clear g1 g2
 replace c1 := AA (G.out.heap (.inr rfl) HI.out)
 replace c2 := (HW.out.pres (.inl ha) G.out.2).cells
 go_wp2_with fail
 refine (Hl _ wb bb f k e (B.add [AN 1 ((256 + x * 8 : Nat) : Int)]) _ G.out.1 (HW.out.pres (.inl ha) G.out.2) (G.out.in HA.out) (by first | omega | (simp [AS, BS.mark, BS.here, BS.add, BS.jump, AP, AO]; done) | (simp [AS, BS.mark, BS.here, BS.add, BS.jump, AP, AO]; omega))).mono ?_
 rintro e w1 ⟨rfl, g1, g2⟩
 replace G := Vw (G.out.step (B' := ((B.add [AN 1 ((256 + x * 8 : Nat) : Int)]).add [BF 4 1 0])) g1 g2)
 clear g1 g2
 replace c1 := AA (G.out.heap (.inr rfl) HI.out)
 replace c2 := (HW.out.pres (.inl ha) G.out.2).cells
 go_wp2_with fail
 refine (Dy _ wb bb f k e ((B.add [AN 1 ((256 + x * 8 : Nat) : Int)]).add [BF 4 1 0]) _ _ G.out.1 (HW.out.pres (.inl ha) G.out.2) (G.out.in HA.out) (by first | omega | (simp [AS, BS.mark, BS.here, BS.add, BS.jump, AP, AO]; done) | (simp [AS, BS.mark, BS.here, BS.add, BS.jump, AP, AO]; omega))).mono ?_
 rintro e w1 ⟨rfl, g1, g2⟩
 replace G := Vw (G.out.step (B' := Gf B x f v) g1 g2)
 clear g1 g2
 replace c1 := AA (G.out.heap (.inr rfl) HI.out)
 replace c2 := (HW.out.pres (.inl ha) G.out.2).cells
 go_wp2_with fail
 go_end0
 exact ⟨rfl, G.out.unguard' HB.out⟩
def FZ (B : BS) (x f : Nat) (v : Int) : BS := ((((AS B x f).add [AN 1 ((256 + x * 8 : Nat) : Int)]).add [AN 4 v]).add [Bx 4 1 0])
def JL (B : BS) (x f : Nat) (v : Int) : BS := (((((((AS B x f).add [AN 1 ((256 + x * 8 : Nat) : Int)]).add [BF 4 1 0]).add [AN 5 v]).add [⟨2, 4, 4, 5, 0⟩]).add [Bx 4 1 0]).add [⟨21, 4, 0, 0, 0⟩])
theorem waX :
  (∀ (Av : Nat → Prop) (wb bb f k e : Nat) (B : BS) (q v : Int) (x : Nat) (w : World) (h : Ap Av w bb B) (hw : Bw w wb bb f k e) (ha : Av wb) (hA : ∀ k, Av k → k < w.heap.size) (hx : x < 8) (hv0 : 0 ≤ v) (hv : v < 9223372036854775808) (hf : f < B.marks.length) (hn : B.l.length + 40 ≤ 100000) (hj : B.jumps.length + 4 ≤ 100000), Y 155 #[wb, .agg #[I q, I x, v]] w fun e w' => e = Z (.tuple #[]) ∧ Ap Av w' bb (JL B x f v) ∧ Pres Av w w') ∧
  (∀ (Av : Nat → Prop) (wb bb f k e : Nat) (B : BS) (q v : Int) (x : Nat) (w : World) (h : Ap Av w bb B) (hw : Bw w wb bb f k e) (ha : Av wb) (hA : ∀ k, Av k → k < w.heap.size) (hx : x < 8) (hv0 : 0 ≤ v) (hv : v < 9223372036854775808) (hf : f < B.marks.length) (hn : B.l.length + 40 ≤ 100000) (hj : B.jumps.length + 4 ≤ 100000), Y 154 #[wb, .agg #[I q, I x, v]] w fun e w' => e = Z (.tuple #[]) ∧ Ap Av w' bb (FZ B x f v) ∧ Pres Av w w') := by
 refine ⟨?m0, ?m1⟩
 case' m0 =>
  intro Av wb bb f k e B q v x w h hw ha hA hx hv0 hv hf hn hj
  have mk_0 := trivial
 case' m1 =>
  intro Av wb bb f k e B q v x w h hw ha hA hx hv0 hv hf hn hj
  have mk_1 := trivial
 all_goals
  have G := Vw (show At (fun k => Av k ∨ k = w.heap.size) (w.alloc (.cells (Cm q x v) 33)) bb B _ from ⟨h.guard _, Pres.refl _ _⟩)
  have HI := Vw (AE w (.cells (Cm q x v) 33))
  have HW := Vw (show Bw (w.alloc (.cells (Cm q x v) 33)) wb bb f k e from AB (AC w _) hw)
  have HA := Vw (show ∀ k, (Av k ∨ k = w.heap.size) → k < (w.alloc (.cells (Cm q x v) 33)).heap.size from fun k hk => hk.elim (fun h => Vy (hA k h) (by simp)) (fun h => by simp [h]))
  have HB := Vw (AC w (.cells (Cm q x v) 33))
  unfold Cm at G HI HW HA HB
  have c1 := AA HI.out
  have c2 := HW.out.cells
  clear h hw
  first
   | guard_hyp mk_1
     go_enter func154, ntmps154
   | go_enter func155, ntmps155
  go_wp2_with fail
  refine (IY _ wb bb f k e B q v x _ G.out.1 (HW.out.pres (.inl ha) G.out.2) (.inl ha) (G.out.in HA.out) hx (by first | omega | (simp [AS, BS.mark, BS.here, BS.add, BS.jump, AP, AO]; done) | (simp [AS, BS.mark, BS.here, BS.add, BS.jump, AP, AO]; omega)) (by first | omega | (simp [AS, BS.mark, BS.here, BS.add, BS.jump, AP, AO]; done) | (simp [AS, BS.mark, BS.here, BS.add, BS.jump, AP, AO]; omega)) (by first | omega | (simp [AS, BS.mark, BS.here, BS.add, BS.jump, AP, AO]; done) | (simp [AS, BS.mark, BS.here, BS.add, BS.jump, AP, AO]; omega))).mono ?_
  rintro e w1 ⟨rfl, g1, g2⟩
  replace G := Vw (G.out.step (B' := (AS B x f)) g1 g2)
  clear g1 g2
  replace c1 := AA (G.out.heap (.inr rfl) HI.out)
  replace c2 := (HW.out.pres (.inl ha) G.out.2).cells
  go_wp2_with fail
  refine (Fs _ wb bb f k e (AS B x f) q v x _ G.out.1 (HW.out.pres (.inl ha) G.out.2) (.inl ha) (G.out.in HA.out) hx (by first | omega | (simp [AS, BS.mark, BS.here, BS.add, BS.jump, AP, AO]; done) | (simp [AS, BS.mark, BS.here, BS.add, BS.jump, AP, AO]; omega))).mono ?_
  rintro e w1 ⟨rfl, g1, g2⟩
  replace G := Vw (G.out.step (B' := ((AS B x f).add [AN 1 ((256 + x * 8 : Nat) : Int)])) g1 g2)
  clear g1 g2
  replace c1 := AA (G.out.heap (.inr rfl) HI.out)
  replace c2 := (HW.out.pres (.inl ha) G.out.2).cells
  go_wp2_with fail
  first
   | guard_hyp mk_1
     refine (CN _ wb bb f k e ((AS B x f).add [AN 1 ((256 + x * 8 : Nat) : Int)]) _ _ (by omega) (by omega) _ G.out.1 (HW.out.pres (.inl ha) G.out.2) (G.out.in HA.out) (by first | omega | (simp [AS, BS.mark, BS.here, BS.add, BS.jump, AP, AO]; done) | (simp [AS, BS.mark, BS.here, BS.add, BS.jump, AP, AO]; omega))).mono ?_
   | refine (Hl _ wb bb f k e ((AS B x f).add [AN 1 ((256 + x * 8 : Nat) : Int)]) _ G.out.1 (HW.out.pres (.inl ha) G.out.2) (G.out.in HA.out) (by first | omega | (simp [AS, BS.mark, BS.here, BS.add, BS.jump, AP, AO]; done) | (simp [AS, BS.mark, BS.here, BS.add, BS.jump, AP, AO]; omega))).mono ?_
  rintro e w1 ⟨rfl, g1, g2⟩
  first
   | guard_hyp mk_1
     replace G := Vw (G.out.step (B' := (((AS B x f).add [AN 1 ((256 + x * 8 : Nat) : Int)]).add [AN 4 v])) g1 g2)
   | replace G := Vw (G.out.step (B' := (((AS B x f).add [AN 1 ((256 + x * 8 : Nat) : Int)]).add [BF 4 1 0])) g1 g2)
  clear g1 g2
  replace c1 := AA (G.out.heap (.inr rfl) HI.out)
  replace c2 := (HW.out.pres (.inl ha) G.out.2).cells
  go_wp2_with fail
  first
   | guard_hyp mk_1
     refine (Hj _ wb bb f k e (((AS B x f).add [AN 1 ((256 + x * 8 : Nat) : Int)]).add [AN 4 v]) _ G.out.1 (HW.out.pres (.inl ha) G.out.2) (G.out.in HA.out) (by first | omega | (simp [AS, BS.mark, BS.here, BS.add, BS.jump, AP, AO]; done) | (simp [AS, BS.mark, BS.here, BS.add, BS.jump, AP, AO]; omega))).mono ?_
   | refine (CN _ wb bb f k e (((AS B x f).add [AN 1 ((256 + x * 8 : Nat) : Int)]).add [BF 4 1 0]) _ _ (by omega) (by omega) _ G.out.1 (HW.out.pres (.inl ha) G.out.2) (G.out.in HA.out) (by first | omega | (simp [AS, BS.mark, BS.here, BS.add, BS.jump, AP, AO]; done) | (simp [AS, BS.mark, BS.here, BS.add, BS.jump, AP, AO]; omega))).mono ?_
  rintro e w1 ⟨rfl, g1, g2⟩
  first
   | guard_hyp mk_1
     replace G := Vw (G.out.step (B' := FZ B x f v) g1 g2)
   | replace G := Vw (G.out.step (B' := ((((AS B x f).add [AN 1 ((256 + x * 8 : Nat) : Int)]).add [BF 4 1 0]).add [AN 5 v])) g1 g2)
     clear g1 g2
     replace c1 := AA (G.out.heap (.inr rfl) HI.out)
     replace c2 := (HW.out.pres (.inl ha) G.out.2).cells
     go_wp2_with fail
     refine (Dw _ bb ((((AS B x f).add [AN 1 ((256 + x * 8 : Nat) : Int)]).add [BF 4 1 0]).add [AN 5 v]) [⟨2, 4, 4, 5, 0⟩] 1 rfl _ G.out.1 (G.out.in HA.out) (by first | omega | (simp [AS, BS.mark, BS.here, BS.add, BS.jump, AP, AO]; done) | (simp [AS, BS.mark, BS.here, BS.add, BS.jump, AP, AO]; omega))).mono ?_
     rintro e w1 ⟨rfl, g1, g2⟩
     replace G := Vw (G.out.step (B' := (((((AS B x f).add [AN 1 ((256 + x * 8 : Nat) : Int)]).add [BF 4 1 0]).add [AN 5 v]).add [⟨2, 4, 4, 5, 0⟩])) g1 g2)
     clear g1 g2
     replace c1 := AA (G.out.heap (.inr rfl) HI.out)
     replace c2 := (HW.out.pres (.inl ha) G.out.2).cells
     go_wp2_with fail
     refine (Hj _ wb bb f k e (((((AS B x f).add [AN 1 ((256 + x * 8 : Nat) : Int)]).add [BF 4 1 0]).add [AN 5 v]).add [⟨2, 4, 4, 5, 0⟩]) _ G.out.1 (HW.out.pres (.inl ha) G.out.2) (G.out.in HA.out) (by first | omega | (simp [AS, BS.mark, BS.here, BS.add, BS.jump, AP, AO]; done) | (simp [AS, BS.mark, BS.here, BS.add, BS.jump, AP, AO]; omega))).mono ?_
     rintro e w1 ⟨rfl, g1, g2⟩
     replace G := Vw (G.out.step (B' := ((((((AS B x f).add [AN 1 ((256 + x * 8 : Nat) : Int)]).add [BF 4 1 0]).add [AN 5 v]).add [⟨2, 4, 4, 5, 0⟩]).add [Bx 4 1 0])) g1 g2)
     clear g1 g2
     replace c1 := AA (G.out.heap (.inr rfl) HI.out)
     replace c2 := (HW.out.pres (.inl ha) G.out.2).cells
     go_wp2_with fail
     refine (Dy _ wb bb f k e ((((((AS B x f).add [AN 1 ((256 + x * 8 : Nat) : Int)]).add [BF 4 1 0]).add [AN 5 v]).add [⟨2, 4, 4, 5, 0⟩]).add [Bx 4 1 0]) _ _ G.out.1 (HW.out.pres (.inl ha) G.out.2) (G.out.in HA.out) (by first | omega | (simp [AS, BS.mark, BS.here, BS.add, BS.jump, AP, AO]; done) | (simp [AS, BS.mark, BS.here, BS.add, BS.jump, AP, AO]; omega))).mono ?_
     rintro e w1 ⟨rfl, g1, g2⟩
     replace G := Vw (G.out.step (B' := JL B x f v) g1 g2)
  clear g1 g2
  replace c1 := AA (G.out.heap (.inr rfl) HI.out)
  replace c2 := (HW.out.pres (.inl ha) G.out.2).cells
  go_wp2_with fail
  go_end0
  exact ⟨rfl, G.out.unguard' HB.out⟩
def GN (B : BS) (x f : Nat) (v : Int) : BS := (((((((((((AS ((((B.mark.mark.add [AN 1 ((256 + x * 8 : Nat) : Int)]).add [BF 4 1 0]).add [AN 0 0]).jump ⟨19, 4, 0, 0, 0⟩ B.marks.length) x f).add [AN 1 ((256 + x * 8 : Nat) : Int)]).add [AN 4 v]).add [Bx 4 1 0]).add [AN 4 1]).add [⟨21, 4, 0, 0, 0⟩]).jump ⟨17, 0, 0, 0, 0⟩ (B.marks.length + 1)).here B.marks.length).add [AN 4 0]).add [⟨21, 4, 0, 0, 0⟩]).here (B.marks.length + 1))
theorem Mw (Av : Nat → Prop) (wb bb f k e : Nat) (B : BS) (q v : Int) (x : Nat) (w : World) (h : Ap Av w bb B) (hw : Bw w wb bb f k e) (ha : Av wb) (hA : ∀ k, Av k → k < w.heap.size) (hx : x < 8) (hv0 : 0 ≤ v) (hv : v < 9223372036854775808) (hf : f < B.marks.length) (hn : B.l.length + 60 ≤ 100000) (hj : B.jumps.length + 4 ≤ 100000) (hm : B.marks.length + 4 ≤ 100000) :
 Y 156 #[wb, .agg #[I q, I x, v]] w fun e w' => e = Z (.tuple #[]) ∧ Ap Av w' bb (GN B x f v) ∧ Pres Av w w' := by
 have G := Vw (show At (fun k => Av k ∨ k = w.heap.size) (w.alloc (.cells (Cm q x v) 33)) bb B _ from ⟨h.guard _, Pres.refl _ _⟩)
 have HI := Vw (AE w (.cells (Cm q x v) 33))
 have HW := Vw (show Bw (w.alloc (.cells (Cm q x v) 33)) wb bb f k e from AB (AC w _) hw)
 have HA := Vw (show ∀ k, (Av k ∨ k = w.heap.size) → k < (w.alloc (.cells (Cm q x v) 33)).heap.size from fun k hk => hk.elim (fun h => Vy (hA k h) (by simp)) (fun h => by simp [h]))
 have HB := Vw (AC w (.cells (Cm q x v) 33))
 unfold Cm at G HI HW HA HB
 have c1 := AA HI.out
 have c2 := HW.out.cells
 clear h hw
 go_enter func156, ntmps156
 go_wp2_with fail
 generalize w.alloc (.cells #[I q, I x, v] 33) = W0 at *
 replace G := Vw G.out.drew
 go_region_with (first
  | (go_at_call 98; refine (Gk _ bb B B.marks.length rfl _ G.out.1 (G.out.in HA.out) (by omega)).mono ?_; rintro e w1 ⟨rfl, g1, g2⟩; replace G := Vw (G.out.step (B' := B.mark) g1 g2); replace c1 := AA (G.out.heap (.inr rfl) HI.out); replace c2 := (HW.out.pres (.inl ha) G.out.2).cells)
  | (go_at_call 98; refine (Gk _ bb B.mark (B.marks.length + 1) (by simp [BS.mark]) _ G.out.1 (G.out.in HA.out) (by omega)).mono ?_; rintro e w1 ⟨rfl, g1, g2⟩; replace G := Vw (G.out.step (B' := B.mark.mark) g1 g2); replace c1 := AA (G.out.heap (.inr rfl) HI.out); replace c2 := (HW.out.pres (.inl ha) G.out.2).cells))
 all_goals
  go_wp2_with fail
  refine (Fs _ wb bb f k e B.mark.mark q v x _ G.out.1 (HW.out.pres (.inl ha) G.out.2) (.inl ha) (G.out.in HA.out) hx (by first | omega | (simp [AS, BS.mark, BS.here, BS.add, BS.jump, AP, AO]; done) | (simp [AS, BS.mark, BS.here, BS.add, BS.jump, AP, AO]; omega))).mono ?_
  rintro e w1 ⟨rfl, g1, g2⟩
  replace G := Vw (G.out.step (B' := (B.mark.mark.add [AN 1 ((256 + x * 8 : Nat) : Int)])) g1 g2)
  clear g1 g2
  replace c1 := AA (G.out.heap (.inr rfl) HI.out)
  replace c2 := (HW.out.pres (.inl ha) G.out.2).cells
  go_wp2_with fail
  refine (Hl _ wb bb f k e (B.mark.mark.add [AN 1 ((256 + x * 8 : Nat) : Int)]) _ G.out.1 (HW.out.pres (.inl ha) G.out.2) (G.out.in HA.out) (by first | omega | (simp [AS, BS.mark, BS.here, BS.add, BS.jump, AP, AO]; done) | (simp [AS, BS.mark, BS.here, BS.add, BS.jump, AP, AO]; omega))).mono ?_
  rintro e w1 ⟨rfl, g1, g2⟩
  replace G := Vw (G.out.step (B' := ((B.mark.mark.add [AN 1 ((256 + x * 8 : Nat) : Int)]).add [BF 4 1 0])) g1 g2)
  clear g1 g2
  replace c1 := AA (G.out.heap (.inr rfl) HI.out)
  replace c2 := (HW.out.pres (.inl ha) G.out.2).cells
  go_wp2_with fail
  refine (CN _ wb bb f k e ((B.mark.mark.add [AN 1 ((256 + x * 8 : Nat) : Int)]).add [BF 4 1 0]) _ _ (by omega) (by omega) _ G.out.1 (HW.out.pres (.inl ha) G.out.2) (G.out.in HA.out) (by first | omega | (simp [AS, BS.mark, BS.here, BS.add, BS.jump, AP, AO]; done) | (simp [AS, BS.mark, BS.here, BS.add, BS.jump, AP, AO]; omega))).mono ?_
  rintro e w1 ⟨rfl, g1, g2⟩
  replace G := Vw (G.out.step (B' := (((B.mark.mark.add [AN 1 ((256 + x * 8 : Nat) : Int)]).add [BF 4 1 0]).add [AN 0 0])) g1 g2)
  clear g1 g2
  replace c1 := AA (G.out.heap (.inr rfl) HI.out)
  replace c2 := (HW.out.pres (.inl ha) G.out.2).cells
  go_wp2_with fail
  refine (Jj _ bb (((B.mark.mark.add [AN 1 ((256 + x * 8 : Nat) : Int)]).add [BF 4 1 0]).add [AN 0 0]) ⟨19, 4, 0, 0, 0⟩ B.marks.length _ G.out.1 (G.out.in HA.out) (by first | omega | (simp [AS, BS.mark, BS.here, BS.add, BS.jump, AP, AO]; done) | (simp [AS, BS.mark, BS.here, BS.add, BS.jump, AP, AO]; omega)) (by decide) (by decide) (by first | omega | (simp [AS, BS.mark, BS.here, BS.add, BS.jump, AP, AO]; done) | (simp [AS, BS.mark, BS.here, BS.add, BS.jump, AP, AO]; omega)) (by first | omega | (simp [AS, BS.mark, BS.here, BS.add, BS.jump, AP, AO]; done) | (simp [AS, BS.mark, BS.here, BS.add, BS.jump, AP, AO]; omega))).mono ?_
  rintro e w1 ⟨rfl, g1, g2⟩
  replace G := Vw (G.out.step (B' := ((((B.mark.mark.add [AN 1 ((256 + x * 8 : Nat) : Int)]).add [BF 4 1 0]).add [AN 0 0]).jump ⟨19, 4, 0, 0, 0⟩ B.marks.length)) g1 g2)
  clear g1 g2
  replace c1 := AA (G.out.heap (.inr rfl) HI.out)
  replace c2 := (HW.out.pres (.inl ha) G.out.2).cells
  go_wp2_with fail
  refine (IY _ wb bb f k e ((((B.mark.mark.add [AN 1 ((256 + x * 8 : Nat) : Int)]).add [BF 4 1 0]).add [AN 0 0]).jump ⟨19, 4, 0, 0, 0⟩ B.marks.length) q v x _ G.out.1 (HW.out.pres (.inl ha) G.out.2) (.inl ha) (G.out.in HA.out) hx (by first | omega | (simp [AS, BS.mark, BS.here, BS.add, BS.jump, AP, AO]; done) | (simp [AS, BS.mark, BS.here, BS.add, BS.jump, AP, AO]; omega)) (by first | omega | (simp [AS, BS.mark, BS.here, BS.add, BS.jump, AP, AO]; done) | (simp [AS, BS.mark, BS.here, BS.add, BS.jump, AP, AO]; omega)) (by first | omega | (simp [AS, BS.mark, BS.here, BS.add, BS.jump, AP, AO]; done) | (simp [AS, BS.mark, BS.here, BS.add, BS.jump, AP, AO]; omega))).mono ?_
  rintro e w1 ⟨rfl, g1, g2⟩
  replace G := Vw (G.out.step (B' := (AS ((((B.mark.mark.add [AN 1 ((256 + x * 8 : Nat) : Int)]).add [BF 4 1 0]).add [AN 0 0]).jump ⟨19, 4, 0, 0, 0⟩ B.marks.length) x f)) g1 g2)
  clear g1 g2
  replace c1 := AA (G.out.heap (.inr rfl) HI.out)
  replace c2 := (HW.out.pres (.inl ha) G.out.2).cells
  go_wp2_with fail
  refine (Fs _ wb bb f k e (AS ((((B.mark.mark.add [AN 1 ((256 + x * 8 : Nat) : Int)]).add [BF 4 1 0]).add [AN 0 0]).jump ⟨19, 4, 0, 0, 0⟩ B.marks.length) x f) q v x _ G.out.1 (HW.out.pres (.inl ha) G.out.2) (.inl ha) (G.out.in HA.out) hx (by first | omega | (simp [AS, BS.mark, BS.here, BS.add, BS.jump, AP, AO]; done) | (simp [AS, BS.mark, BS.here, BS.add, BS.jump, AP, AO]; omega))).mono ?_
  rintro e w1 ⟨rfl, g1, g2⟩
  replace G := Vw (G.out.step (B' := ((AS ((((B.mark.mark.add [AN 1 ((256 + x * 8 : Nat) : Int)]).add [BF 4 1 0]).add [AN 0 0]).jump ⟨19, 4, 0, 0, 0⟩ B.marks.length) x f).add [AN 1 ((256 + x * 8 : Nat) : Int)])) g1 g2)
  clear g1 g2
  replace c1 := AA (G.out.heap (.inr rfl) HI.out)
  replace c2 := (HW.out.pres (.inl ha) G.out.2).cells
  go_wp2_with fail
  refine (CN _ wb bb f k e ((AS ((((B.mark.mark.add [AN 1 ((256 + x * 8 : Nat) : Int)]).add [BF 4 1 0]).add [AN 0 0]).jump ⟨19, 4, 0, 0, 0⟩ B.marks.length) x f).add [AN 1 ((256 + x * 8 : Nat) : Int)]) _ _ (by omega) (by omega) _ G.out.1 (HW.out.pres (.inl ha) G.out.2) (G.out.in HA.out) (by first | omega | (simp [AS, BS.mark, BS.here, BS.add, BS.jump, AP, AO]; done) | (simp [AS, BS.mark, BS.here, BS.add, BS.jump, AP, AO]; omega))).mono ?_
  rintro e w1 ⟨rfl, g1, g2⟩
  replace G := Vw (G.out.step (B' := (((AS ((((B.mark.mark.add [AN 1 ((256 + x * 8 : Nat) : Int)]).add [BF 4 1 0]).add [AN 0 0]).jump ⟨19, 4, 0, 0, 0⟩ B.marks.length) x f).add [AN 1 ((256 + x * 8 : Nat) : Int)]).add [AN 4 v])) g1 g2)
  clear g1 g2
  replace c1 := AA (G.out.heap (.inr rfl) HI.out)
  replace c2 := (HW.out.pres (.inl ha) G.out.2).cells
  go_wp2_with fail
  refine (Hj _ wb bb f k e (((AS ((((B.mark.mark.add [AN 1 ((256 + x * 8 : Nat) : Int)]).add [BF 4 1 0]).add [AN 0 0]).jump ⟨19, 4, 0, 0, 0⟩ B.marks.length) x f).add [AN 1 ((256 + x * 8 : Nat) : Int)]).add [AN 4 v]) _ G.out.1 (HW.out.pres (.inl ha) G.out.2) (G.out.in HA.out) (by first | omega | (simp [AS, BS.mark, BS.here, BS.add, BS.jump, AP, AO]; done) | (simp [AS, BS.mark, BS.here, BS.add, BS.jump, AP, AO]; omega))).mono ?_
  rintro e w1 ⟨rfl, g1, g2⟩
  replace G := Vw (G.out.step (B' := ((((AS ((((B.mark.mark.add [AN 1 ((256 + x * 8 : Nat) : Int)]).add [BF 4 1 0]).add [AN 0 0]).jump ⟨19, 4, 0, 0, 0⟩ B.marks.length) x f).add [AN 1 ((256 + x * 8 : Nat) : Int)]).add [AN 4 v]).add [Bx 4 1 0])) g1 g2)
  clear g1 g2
  replace c1 := AA (G.out.heap (.inr rfl) HI.out)
  replace c2 := (HW.out.pres (.inl ha) G.out.2).cells
  go_wp2_with fail
  refine (CN _ wb bb f k e ((((AS ((((B.mark.mark.add [AN 1 ((256 + x * 8 : Nat) : Int)]).add [BF 4 1 0]).add [AN 0 0]).jump ⟨19, 4, 0, 0, 0⟩ B.marks.length) x f).add [AN 1 ((256 + x * 8 : Nat) : Int)]).add [AN 4 v]).add [Bx 4 1 0]) _ _ (by omega) (by omega) _ G.out.1 (HW.out.pres (.inl ha) G.out.2) (G.out.in HA.out) (by first | omega | (simp [AS, BS.mark, BS.here, BS.add, BS.jump, AP, AO]; done) | (simp [AS, BS.mark, BS.here, BS.add, BS.jump, AP, AO]; omega))).mono ?_
  rintro e w1 ⟨rfl, g1, g2⟩
  replace G := Vw (G.out.step (B' := (((((AS ((((B.mark.mark.add [AN 1 ((256 + x * 8 : Nat) : Int)]).add [BF 4 1 0]).add [AN 0 0]).jump ⟨19, 4, 0, 0, 0⟩ B.marks.length) x f).add [AN 1 ((256 + x * 8 : Nat) : Int)]).add [AN 4 v]).add [Bx 4 1 0]).add [AN 4 1])) g1 g2)
  clear g1 g2
  replace c1 := AA (G.out.heap (.inr rfl) HI.out)
  replace c2 := (HW.out.pres (.inl ha) G.out.2).cells
  go_wp2_with fail
  refine (Dy _ wb bb f k e (((((AS ((((B.mark.mark.add [AN 1 ((256 + x * 8 : Nat) : Int)]).add [BF 4 1 0]).add [AN 0 0]).jump ⟨19, 4, 0, 0, 0⟩ B.marks.length) x f).add [AN 1 ((256 + x * 8 : Nat) : Int)]).add [AN 4 v]).add [Bx 4 1 0]).add [AN 4 1]) _ _ G.out.1 (HW.out.pres (.inl ha) G.out.2) (G.out.in HA.out) (by first | omega | (simp [AS, BS.mark, BS.here, BS.add, BS.jump, AP, AO]; done) | (simp [AS, BS.mark, BS.here, BS.add, BS.jump, AP, AO]; omega))).mono ?_
  rintro e w1 ⟨rfl, g1, g2⟩
  replace G := Vw (G.out.step (B' := ((((((AS ((((B.mark.mark.add [AN 1 ((256 + x * 8 : Nat) : Int)]).add [BF 4 1 0]).add [AN 0 0]).jump ⟨19, 4, 0, 0, 0⟩ B.marks.length) x f).add [AN 1 ((256 + x * 8 : Nat) : Int)]).add [AN 4 v]).add [Bx 4 1 0]).add [AN 4 1]).add [⟨21, 4, 0, 0, 0⟩])) g1 g2)
  clear g1 g2
  replace c1 := AA (G.out.heap (.inr rfl) HI.out)
  replace c2 := (HW.out.pres (.inl ha) G.out.2).cells
  go_wp2_with fail
  refine (Ez _ wb bb f k e ((((((AS ((((B.mark.mark.add [AN 1 ((256 + x * 8 : Nat) : Int)]).add [BF 4 1 0]).add [AN 0 0]).jump ⟨19, 4, 0, 0, 0⟩ B.marks.length) x f).add [AN 1 ((256 + x * 8 : Nat) : Int)]).add [AN 4 v]).add [Bx 4 1 0]).add [AN 4 1]).add [⟨21, 4, 0, 0, 0⟩]) (B.marks.length + 1) _ G.out.1 (HW.out.pres (.inl ha) G.out.2) (G.out.in HA.out) (by first | omega | (simp [AS, BS.mark, BS.here, BS.add, BS.jump, AP, AO]; done) | (simp [AS, BS.mark, BS.here, BS.add, BS.jump, AP, AO]; omega)) (by first | omega | (simp [AS, BS.mark, BS.here, BS.add, BS.jump, AP, AO]; done) | (simp [AS, BS.mark, BS.here, BS.add, BS.jump, AP, AO]; omega)) (by first | omega | (simp [AS, BS.mark, BS.here, BS.add, BS.jump, AP, AO]; done) | (simp [AS, BS.mark, BS.here, BS.add, BS.jump, AP, AO]; omega))).mono ?_
  rintro e w1 ⟨rfl, g1, g2⟩
  replace G := Vw (G.out.step (B' := (((((((AS ((((B.mark.mark.add [AN 1 ((256 + x * 8 : Nat) : Int)]).add [BF 4 1 0]).add [AN 0 0]).jump ⟨19, 4, 0, 0, 0⟩ B.marks.length) x f).add [AN 1 ((256 + x * 8 : Nat) : Int)]).add [AN 4 v]).add [Bx 4 1 0]).add [AN 4 1]).add [⟨21, 4, 0, 0, 0⟩]).jump ⟨17, 0, 0, 0, 0⟩ (B.marks.length + 1))) g1 g2)
  clear g1 g2
  replace c1 := AA (G.out.heap (.inr rfl) HI.out)
  replace c2 := (HW.out.pres (.inl ha) G.out.2).cells
  go_wp2_with fail
  refine (Gn _ bb (((((((AS ((((B.mark.mark.add [AN 1 ((256 + x * 8 : Nat) : Int)]).add [BF 4 1 0]).add [AN 0 0]).jump ⟨19, 4, 0, 0, 0⟩ B.marks.length) x f).add [AN 1 ((256 + x * 8 : Nat) : Int)]).add [AN 4 v]).add [Bx 4 1 0]).add [AN 4 1]).add [⟨21, 4, 0, 0, 0⟩]).jump ⟨17, 0, 0, 0, 0⟩ (B.marks.length + 1)) B.marks.length _ G.out.1 (by first | omega | (simp [AS, BS.mark, BS.here, BS.add, BS.jump, AP, AO]; done) | (simp [AS, BS.mark, BS.here, BS.add, BS.jump, AP, AO]; omega)) (by first | omega | (simp [AS, BS.mark, BS.here, BS.add, BS.jump, AP, AO]; done) | (simp [AS, BS.mark, BS.here, BS.add, BS.jump, AP, AO]; omega))).mono ?_
  rintro e w1 ⟨rfl, g1, g2⟩
  replace G := Vw (G.out.step (B' := ((((((((AS ((((B.mark.mark.add [AN 1 ((256 + x * 8 : Nat) : Int)]).add [BF 4 1 0]).add [AN 0 0]).jump ⟨19, 4, 0, 0, 0⟩ B.marks.length) x f).add [AN 1 ((256 + x * 8 : Nat) : Int)]).add [AN 4 v]).add [Bx 4 1 0]).add [AN 4 1]).add [⟨21, 4, 0, 0, 0⟩]).jump ⟨17, 0, 0, 0, 0⟩ (B.marks.length + 1)).here B.marks.length)) g1 g2)
  clear g1 g2
  replace c1 := AA (G.out.heap (.inr rfl) HI.out)
  replace c2 := (HW.out.pres (.inl ha) G.out.2).cells
  go_wp2_with fail
  refine (CN _ wb bb f k e ((((((((AS ((((B.mark.mark.add [AN 1 ((256 + x * 8 : Nat) : Int)]).add [BF 4 1 0]).add [AN 0 0]).jump ⟨19, 4, 0, 0, 0⟩ B.marks.length) x f).add [AN 1 ((256 + x * 8 : Nat) : Int)]).add [AN 4 v]).add [Bx 4 1 0]).add [AN 4 1]).add [⟨21, 4, 0, 0, 0⟩]).jump ⟨17, 0, 0, 0, 0⟩ (B.marks.length + 1)).here B.marks.length) _ _ (by omega) (by omega) _ G.out.1 (HW.out.pres (.inl ha) G.out.2) (G.out.in HA.out) (by first | omega | (simp [AS, BS.mark, BS.here, BS.add, BS.jump, AP, AO]; done) | (simp [AS, BS.mark, BS.here, BS.add, BS.jump, AP, AO]; omega))).mono ?_
  rintro e w1 ⟨rfl, g1, g2⟩
  replace G := Vw (G.out.step (B' := (((((((((AS ((((B.mark.mark.add [AN 1 ((256 + x * 8 : Nat) : Int)]).add [BF 4 1 0]).add [AN 0 0]).jump ⟨19, 4, 0, 0, 0⟩ B.marks.length) x f).add [AN 1 ((256 + x * 8 : Nat) : Int)]).add [AN 4 v]).add [Bx 4 1 0]).add [AN 4 1]).add [⟨21, 4, 0, 0, 0⟩]).jump ⟨17, 0, 0, 0, 0⟩ (B.marks.length + 1)).here B.marks.length).add [AN 4 0])) g1 g2)
  clear g1 g2
  replace c1 := AA (G.out.heap (.inr rfl) HI.out)
  replace c2 := (HW.out.pres (.inl ha) G.out.2).cells
  go_wp2_with fail
  refine (Dy _ wb bb f k e (((((((((AS ((((B.mark.mark.add [AN 1 ((256 + x * 8 : Nat) : Int)]).add [BF 4 1 0]).add [AN 0 0]).jump ⟨19, 4, 0, 0, 0⟩ B.marks.length) x f).add [AN 1 ((256 + x * 8 : Nat) : Int)]).add [AN 4 v]).add [Bx 4 1 0]).add [AN 4 1]).add [⟨21, 4, 0, 0, 0⟩]).jump ⟨17, 0, 0, 0, 0⟩ (B.marks.length + 1)).here B.marks.length).add [AN 4 0]) _ _ G.out.1 (HW.out.pres (.inl ha) G.out.2) (G.out.in HA.out) (by first | omega | (simp [AS, BS.mark, BS.here, BS.add, BS.jump, AP, AO]; done) | (simp [AS, BS.mark, BS.here, BS.add, BS.jump, AP, AO]; omega))).mono ?_
  rintro e w1 ⟨rfl, g1, g2⟩
  replace G := Vw (G.out.step (B' := ((((((((((AS ((((B.mark.mark.add [AN 1 ((256 + x * 8 : Nat) : Int)]).add [BF 4 1 0]).add [AN 0 0]).jump ⟨19, 4, 0, 0, 0⟩ B.marks.length) x f).add [AN 1 ((256 + x * 8 : Nat) : Int)]).add [AN 4 v]).add [Bx 4 1 0]).add [AN 4 1]).add [⟨21, 4, 0, 0, 0⟩]).jump ⟨17, 0, 0, 0, 0⟩ (B.marks.length + 1)).here B.marks.length).add [AN 4 0]).add [⟨21, 4, 0, 0, 0⟩])) g1 g2)
  clear g1 g2
  replace c1 := AA (G.out.heap (.inr rfl) HI.out)
  replace c2 := (HW.out.pres (.inl ha) G.out.2).cells
  go_wp2_with fail
  refine (Gn _ bb ((((((((((AS ((((B.mark.mark.add [AN 1 ((256 + x * 8 : Nat) : Int)]).add [BF 4 1 0]).add [AN 0 0]).jump ⟨19, 4, 0, 0, 0⟩ B.marks.length) x f).add [AN 1 ((256 + x * 8 : Nat) : Int)]).add [AN 4 v]).add [Bx 4 1 0]).add [AN 4 1]).add [⟨21, 4, 0, 0, 0⟩]).jump ⟨17, 0, 0, 0, 0⟩ (B.marks.length + 1)).here B.marks.length).add [AN 4 0]).add [⟨21, 4, 0, 0, 0⟩]) (B.marks.length + 1) _ G.out.1 (by first | omega | (simp [AS, BS.mark, BS.here, BS.add, BS.jump, AP, AO]; done) | (simp [AS, BS.mark, BS.here, BS.add, BS.jump, AP, AO]; omega)) (by first | omega | (simp [AS, BS.mark, BS.here, BS.add, BS.jump, AP, AO]; done) | (simp [AS, BS.mark, BS.here, BS.add, BS.jump, AP, AO]; omega))).mono ?_
  rintro e w1 ⟨rfl, g1, g2⟩
  replace G := Vw (G.out.step (B' := GN B x f v) g1 g2)
  clear g1 g2
  replace c1 := AA (G.out.heap (.inr rfl) HI.out)
  replace c2 := (HW.out.pres (.inl ha) G.out.2).cells
  go_wp2_with fail
  go_end0
  exact ⟨rfl, G.out.unguard' HB.out⟩
structure OpI where
 kind : Int
 w : Int
 v : Int
 bad : Bool
structure TxI where
 ops : List OpI
 abort : Bool
def Rh : Ins := ⟨17, 0, 0, 0, 0⟩
def Hf (B : BS) (f k : Nat) (o : OpI) : BS :=
 if o.bad = true then (B.add [AN 5 103]).jump Rh k
 else if (o.kind == 1) = true then Gf B o.w.toNat f o.v
 else if (o.kind == 2) = true then FZ B o.w.toNat f o.v
 else if (o.kind == 3) = true then JL B o.w.toNat f o.v
 else GN B o.w.toNat f o.v
def Ec (f k : Nat) : BS → List OpI → BS
 | B, [] => B
 | B, o :: l => Ec f k (Hf B f k o) l
def Ay : List OpI → List Int
 | [] => []
 | o :: l => if (o.bad || o.kind == 1) = true then Ay l else o.w :: Ay l
def CI (B : BS) (ws : List Int) : BS := (if ws.isEmpty = true then B else B.add [AN 1 256, CM 1]).add AO
def Iz (B : BS) : BS := (Ft B.mark.mark.mark 0).add [AN 7 0]
def Iy (B : BS) (t : TxI) (k e : Nat) : BS :=
 if t.abort = true then (B.add [AN 5 104]).jump Rh k else ((CI B (Ay t.ops)).add [AN 5 101]).jump Rh e
def Td (B : BS) (f k e : Nat) : BS := (IP ((DA (((B.here f).add [AN 5 102]).here k)).here e) 0).add [⟨21, 5, 0, 0, 0⟩]
def Dq (B : BS) (t : TxI) : BS :=
 Td (Iy (Ec B.marks.length (B.marks.length + 1) (Iz B) t.ops) t (B.marks.length + 1) (B.marks.length + 2)) B.marks.length (B.marks.length + 1) (B.marks.length + 2)
def Tc : BS → List TxI → BS
 | B, [] => B
 | B, t :: l => Tc (Dq B t) l
def BE (l : List TxI) : List Ins := ((Tc ⟨[], [], []⟩ l).add [⟨22, 0, 0, 0, 0⟩]).fin
def DG (o : OpI) : Bool := !(decide (o.kind < 1) || decide (4 < o.kind) || decide (2147483648 ≤ o.v)) && (if (o.kind == 1) = true then o.v == 0 else if (o.kind == 4) = true then !(o.v == 0) else true)
def OpI.l (o : OpI) : List Value := [I o.kind, I o.w, U o.v]
def BI (l : List OpI) : List Value := l.flatMap OpI.l
theorem FY {w : World} {v : Value} {l : List OpI} (hr : AH w 33 3 v l.length (BI l)) {j : Nat} {x : OpI} (hx : l[j]? = some x) : ∃ g off AV, v = .slice (some ⟨g, off, none⟩) l.length AV ∧ l.length ≤ AV ∧ ∀ i u, x.l[i]? = some u → w.cell? ⟨g, off + j * 3 + i, none⟩ = some u := by
 obtain ⟨g, off, AV, hv, hc, _, h⟩ := AH.elem (f := OpI.l) (size := 3) (fun _ => rfl) hr hx
 exact ⟨g, off, AV, hv, hc, h⟩
theorem Nm (o : OpI) (w : World) : Y 91 #[.agg #[I o.kind, I o.w, o.v]] w fun r w' => r = Z (.bool (DG o)) ∧ Below w w w' := by
 obtain ⟨W1, hE, hb, hI⟩ := alloc_new w (.cells #[I o.kind, I o.w, o.v] 33)
 have HB := Vw hb
 have c1 := AA hI
 clear hb hI
 by_cases h1 : o.kind < 1
 · go_enter func91, ntmps91
   go_wp2_with fail
   go_ret
   exact ⟨by simp [DG, h1], HB.out⟩
 have h1' : 1 ≤ o.kind := by omega
 by_cases h4 : 4 < o.kind
 · go_enter func91, ntmps91
   go_wp2_with fail
   go_ret
   exact ⟨by simp [DG, h4], HB.out⟩
 have h4' : o.kind ≤ 4 := by omega
 by_cases hv : 2147483648 ≤ o.v
 · go_enter func91, ntmps91
   go_wp2_with fail
   go_ret
   exact ⟨by simp [DG, hv], HB.out⟩
 have hv' : o.v < 2147483648 := by omega
 cases hk1 : (o.kind == 1)
 · cases hk4 : (o.kind == 4)
   · go_enter func91, ntmps91
     go_wp2_with fail
     go_ret
     exact ⟨by simp [DG, hk1, hk4, bne, show ¬ o.kind < 1 by omega, show ¬ 4 < o.kind by omega, show ¬ 2147483648 ≤ o.v by omega], HB.out⟩
   · go_enter func91, ntmps91
     go_wp2_with fail
     go_ret
     exact ⟨by simp [DG, hk1, hk4, bne, show ¬ o.kind < 1 by omega, show ¬ 4 < o.kind by omega, show ¬ 2147483648 ≤ o.v by omega], HB.out⟩
 · go_enter func91, ntmps91
   go_wp2_with fail
   go_ret
   exact ⟨by simp [DG, hk1, bne, show ¬ o.kind < 1 by omega, show ¬ 4 < o.kind by omega, show ¬ 2147483648 ≤ o.v by omega], HB.out⟩
def DE (l : List OpI) : Bool := l.all DG && decide (l.length ≤ 16)
theorem BN (l : List OpI) (ab : Bool) (hlen : l.length < 1000) (S : Value) (w : World) (hr : AH w 33 3 S l.length (BI l)) : Y 51 #[.agg #[S, ab]] w fun r w' => r = Z (.bool (DE l)) ∧ Below w w w' := by
 obtain ⟨A, AV, rfl⟩ := hr.form
 obtain ⟨W1, hE, hb, hI⟩ := alloc_new w (.cells #[.slice A l.length AV, ab] 31)
 have HB1 := Vw hb
 have HI1 := Vw hI
 have H := Vw (hr.below hb)
 have HL := Vw hlen
 have c1 := AA hI
 clear hb hI hr
 go_enter func51, ntmps51
 go_wp2_with fail
 go_loopw [8] (fun i W => ∃ j : Nat, j ≤ l.length ∧ i = I j ∧ (∀ m x, m < j → l[m]? = some x → DG x = true) ∧ Below W1 W1 W) (fun i W => l.length - (intOf i).toNat)
 case atStart => exact ⟨0, by omega, rfl, fun m x hm => by omega, Below.refl _ _⟩
 case round =>
  obtain ⟨j, hj, rfl, hno, hb⟩ := hrel
  have HB := Vw hb
  have HN := Vw hno
  have d1 := AA (AB hb HI1.out)
  clear hb hno
  by_cases hlt : j < l.length
  · obtain ⟨o, hx⟩ : ∃ x, l[j]? = some x := ⟨l[j], List.getElem?_eq_getElem hlt⟩
    obtain ⟨g, off, cap', hv, hc1, hcell⟩ := FY (H.out.below HB.out) hx
    cases hv
    have hlt' : (j : Int) < (l.length : Int) := by omega
    have hj0 : (0 : Int) ≤ (j : Int) := by omega
    have e0 : wr.cell? ⟨g, off + j * 3, none⟩ = I o.kind := hcell 0 _ rfl
    have e1 := hcell 1 _ rfl
    have e2 := hcell 2 _ rfl
    have HX := Vw hx
    clear hcell hx
    have hcall := fun w => Nm o w
    have HA := Vw (AC wr (.cells #[I o.kind, I o.w, o.v] 33))
    go_wp2_with fail
    refine (hcall _).mono ?_
    rintro e w1 ⟨rfl, hb1⟩
    cases hq : (DG o)
    · go_wp2_with fail
      go_ret
      refine ⟨?_, HB1.out.trans ((HB.out.trans ((HA.out.trans (hb1.mono HA.out.size)).mono HB.out.size)).mono HB1.out.size)⟩
      have hne : l.all DG = false := by
       rw [List.all_eq_false]
       exact ⟨o, List.mem_of_getElem? HX.out, by simp [hq]⟩
      simp [DE, hne]
    · go_wp2_with fail
      refine ⟨⟨j + 1, by omega, by simp, fun m y hm hy => ?_, HB.out.trans ((HA.out.trans (hb1.mono HA.out.size)).mono HB.out.size)⟩, by simp [intOf]; omega⟩
      by_cases hmj : m = j
      · subst hmj
        rw [HX.out] at hy
        cases hy
        exact hq
      · exact HN.out m y (by omega) hy
  · obtain rfl : j = l.length := by omega
    go_wp2_with fail
    go_ret
    refine ⟨?_, HB1.out.trans (HB.out.mono HB1.out.size)⟩
    have ha : l.all DG = true := by
     rw [List.all_eq_true]
     intro x hx
     obtain ⟨m, hm⟩ := List.mem_iff_getElem?.1 hx
     exact HN.out m x (List.getElem?_eq_some_iff.1 hm).1 hm
    simp [DE, ha]
    omega
def BW (v : Int) : Nat → Int → List OpI
 | 0, _ => []
 | n + 1, i => ⟨2, i, v, false⟩ :: BW v n (i + 1)
def EH : List OpI := [⟨3, 7, 1, false⟩, ⟨3, 7, 1, false⟩, ⟨3, 7, 1, false⟩, ⟨3, 7, 1, false⟩, ⟨3, 7, 1, false⟩, ⟨3, 7, 1, false⟩, ⟨3, 7, 1, false⟩, ⟨3, 7, 1, false⟩, ⟨3, 7, 1, false⟩]
def AU (n : Nat) (kind : Nat) (v : Int) : TxI :=
 ⟨BW (v + 10) (3 + n) 0 ++ (if kind = 0 then [] else if kind = 1 then [⟨1, 8 + v, 0, true⟩] else EH), decide (kind = 0)⟩
def BZ : Ln := ⟨1, 2, 3, 4, 5, 6, 7, 8⟩
def EI : List Ins := [⟨22, 0, 0, 0, 0⟩]
def Du (n kind : Nat) (v : Int) : Mach := Om (BE [AU n kind v]) EI BZ
def KP (l m : Ln) : Bool := l.a == m.a && l.b == m.b && l.c == m.c && l.d == m.d && l.e == m.e && l.f == m.f && l.g == m.g && l.h == m.h
def Jg (d : Int) : List Int → Int
 | [] => d
 | x :: l => Jg x l
def Sys.words (s : Sys) : Ln := BO Ln.zero s.mem 4
def JW : List Ev → List Ev → List Ev
 | [], a => a
 | x :: l, a => JW l (x :: a)
def BV {α : Type} (k : List Ev → α) : List Ev → α
 | [] => k []
 | x :: l => k (x :: l)
def Dt (want : Int) : Option (Mach × List Ev) → Bool
 | none => false
 | some r => r.1.quiet && r.1.s.wq.isEmpty && decide (Jg 0 (BT 0 r.2.reverse) = want) && KP r.1.s.words BZ
def Mach.okW (m : Mach) : Bool := decide (0 ≤ m.c0.waits) && decide (m.c0.waits ≤ 100) && decide (0 ≤ m.c1.waits) && decide (m.c1.waits ≤ 100)
def Mach.okQ (m : Mach) : Bool := decide (m.s.n0.up.length < 1000) && decide (m.s.n0.ans.length < 1000) && decide (m.s.n0.down.length < 1000) && decide (m.s.n1.up.length < 1000) && decide (m.s.n1.ans.length < 1000) && decide (m.s.n1.down.length < 1000)
def Mach.actG (m : Mach) (k x : Int) : Option (Mach × List Ev) :=
 if m.okW = true then (m.act k x).bind fun r => if decide (r.2.length ≤ 2) = true then some r else none else none
def Eh : List (Int × Int) → Mach → List Ev → Option (Mach × List Ev)
 | [], m, out => some (m, out)
 | a :: l, m, out => (m.actG a.1 a.2).bind fun r => Eh l r.1 (out ++ r.2)
def Co : Nat → Mach → List Ev → Option (Mach × List Ev)
 | 0, _, _ => none
 | n + 1, m, l => if (m.okQ && m.okW) = true then (if m.quiet = true then some (m, l) else (Eh Cj m l).bind fun r => Co n r.1 r.2) else none
def LN {α : Type} (k : Mach → List Ev → Option α) : List (Int × Int) → Mach → List Ev → Option α
 | [], m, out => k m out
 | a :: l, m, out => (m.actG a.1 a.2).bind fun r => BV (fun o => LN k l r.1 o) (JW r.2 out)
def Bl : Nat → Mach → List Ev → Option (Mach × List Ev)
 | 0, _, _ => none
 | n + 1, m, l => if (m.okQ && m.okW) = true then (if m.quiet = true then some (m, l) else LN (Bl n) Cj m l) else none
theorem So {α : Type} (k : List Ev → α) (l : List Ev) : BV k l = k l := by cases l <;> rfl
theorem KV : ∀ (l a : List Ev), JW l a = l.reverse ++ a
 | [], a => rfl
 | x :: l, a => by rw [JW, KV l]; simp
theorem Mp {α : Type} (k : Mach → List Ev → Option α) : ∀ (l : List (Int × Int)) (m : Mach) (out : List Ev), LN k l m out.reverse = (Eh l m out).bind fun r => k r.1 r.2.reverse
 | [], m, out => rfl
 | a :: l, m, out => by
   simp only [LN, Eh]
   cases m.actG a.1 a.2 with
   | none => rfl
   | some r =>
     simp only [Option.bind_some, So, KV]
     rw [← List.reverse_append, Mp k l r.1 (out ++ r.2)]
theorem Gd : ∀ (n : Nat) (m : Mach) (out : List Ev), Bl n m out.reverse = (Co n m out).map fun r => (r.1, r.2.reverse)
 | 0, m, out => rfl
 | n + 1, m, out => by
   simp only [Bl, Co]
   split
   · split
     · rfl
     · rw [Mp]
       cases Eh Cj m out with
       | none => rfl
       | some r => simp only [Option.bind_some]; exact Gd n r.1 r.2
   · rfl
theorem Tp {want : Int} {n : Nat} {m : Mach} (h : Dt want (Bl n m []) = true) : ∃ m' evs, Co n m [] = some (m', evs) ∧ m'.quiet = true ∧ m'.s.wq = [] ∧ Jg 0 (BT 0 evs) = want ∧ KP m'.s.words BZ = true := by
 have e := Gd n m []
 rw [List.reverse_nil] at e
 rw [e] at h
 cases hs : Co n m [] with
 | none => simp [hs, Dt] at h
 | some r =>
   simp only [hs, Option.map_some, Dt, List.reverse_reverse, Bool.and_eq_true, decide_eq_true_eq, List.isEmpty_iff] at h
   exact ⟨r.1, r.2, rfl, h.1.1.1, h.1.1.2, h.1.2, h.2⟩
theorem SJ (w : World) : (Instr.build 227 #[(1, .func (.func 153) #[] #[]), (2, .func (.func 154) #[] #[]), (3, .func (.func 155) #[] #[]), (4, .func (.func 156) #[] #[])]).run prog w = .ok (.agg #[.nilFunc, .func (.func 153) #[] #[], .func (.func 154) #[] #[], .func (.func 155) #[] #[], .func (.func 156) #[] #[]]) w := by kernel_rfl
theorem FU (w : World) : Y 104 #[] w fun e w' => e = Z (.agg #[.nilFunc, .func (.func 153) #[] #[], .func (.func 154) #[] #[], .func (.func 155) #[] #[], .func (.func 156) #[] #[]]) ∧ Below w w w' := by
 have hb := fun o => AC w o
 have hbu := SJ
 go_enter func104, ntmps104
 go_wp2_with fail
 refine bodyPost_ret (v := .agg #[.nilFunc, .func (.func 153) #[] #[], .func (.func 154) #[] #[], .func (.func 155) #[] #[], .func (.func 156) #[] #[]]) (by simp [results, results104, go_sem]) rfl ⟨rfl, hb _⟩
end Go.Proofs.YtkoplblbeapfgaaGreatDoor
