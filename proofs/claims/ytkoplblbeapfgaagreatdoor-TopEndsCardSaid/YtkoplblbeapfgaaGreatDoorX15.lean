/-
Parts of the walk of TopEnds. Conditions stand in each statement.
-/
import Derived.Test.YtkoplblbeapfgaaGreatDoorX13
import Derived.Test.YtkoplblbeapfgaaGreatDoorX14
namespace Go.Proofs.YtkoplblbeapfgaaGreatDoor
open Go.RowKit
open Tryz
set_option linter.all false
set_option maxRecDepth 100000
set_option maxHeartbeats 8000000
structure CL where
 cb : Nat
 pb : Nat
 gb : Nat
structure CC where
 c0 : CL
 c1 : CL
def CC.at (C : CC) (i : Int) : CL := if (i == 0) = true then C.c0 else C.c1
def SE.ent (e : SE) : Sb.Ent := ⟨e.kind, e.line, e.word, e.val, false⟩
def BY (C : CL) (id : Int) (c : Core) : Array Value := #[I id, U (BO 0 c.regs 0), U (BO 0 c.regs 1), U (BO 0 c.regs 2), U (BO 0 c.regs 3), U (BO 0 c.regs 4), U (BO 0 c.regs 5), U (BO 0 c.regs 6), U (BO 0 c.regs 7), I c.place, .slice (some C.pb) c.prog.length c.prog.length, C.gb, I c.waits, c.runs]
def Ct (u : Int) : List Value := [.int .u32 0, .int .i32 0, .int .u32 0, U u, I 0, I 0, I 0, I 0, I 0, .bool false]
def Eg (u : Int) (i : Ins) : List Value := [.int .u32 1, .int .i32 0, .int .u32 0, U u, I i.op, I i.a, I i.b, I i.c, I i.imm, .bool true]
def EF (w : World) (pb : Nat) (l : List Ins) : Prop :=
 ∃ cs, w.heap[pb]? = some (.cells cs 249) ∧ cs.size = l.length * 10 ∧ ∀ (k : Nat) (i : Ins), l[k]? = some i → CF i = true ∧ ((∀ j u, (Ct (BG i))[j]? = some u → cs[k * 10 + j]? = some u) ∨ (∀ j u, (Eg (BG i) i)[j]? = some u → cs[k * 10 + j]? = some u))
structure CoreAt (w : World) (C : CL) (id : Int) (c : Core) : Prop where
 head : w.heap[C.cb]? = some (.cells (BY C id c) 138)
 len : c.regs.length = 8
 prog : EF w C.pb c.prog
 buf : Sb.SQ w C.gb 2 (c.buf.map SE.ent)
theorem EF.block {w w' : World} {pb : Nat} {l : List Ins} (h : EF w pb l) (hb : w'.heap[pb]? = w.heap[pb]?) : EF w' pb l := by
 obtain ⟨cs, h1, h2⟩ := h
 exact ⟨cs, hb.trans h1, h2⟩
theorem EF.lt {w : World} {pb : Nat} {l : List Ins} (h : EF w pb l) : pb < w.heap.size := by
 obtain ⟨cs, h1, _⟩ := h
 exact AF h1
theorem CoreAt.kept {w w' : World} {C : CL} {id : Int} {c : Core} (h : CoreAt w C id c) (h1 : w'.heap[C.cb]? = w.heap[C.cb]?) (h2 : w'.heap[C.pb]? = w.heap[C.pb]?) (h3 : w'.heap[C.gb]? = w.heap[C.gb]?) : CoreAt w' C id c :=
 ⟨h1.trans h.head, h.len, h.prog.block h2, h.buf.block h3⟩
structure McAt (T : Nat → Nat) (w : World) (L : SL) (V : SV) (C : CC) (m : Mach) : Prop where
 sys : SysAt T w L V m.s
 k0 : CoreAt w C.c0 0 m.c0
 k1 : CoreAt w C.c1 1 m.c1
 c0 : T C.c0.cb = 20
 p0 : T C.c0.pb = 21
 g0 : T C.c0.gb = 22
 c1 : T C.c1.cb = 24
 p1 : T C.c1.pb = 25
 g1 : T C.c1.gb = 26
def DU (n : Nat) : Bool := decide (0 < n) && decide (n < 28)
def Mc (T0 : Nat → Nat) (w0 : World) (L : SL) (C : CC) (m : Mach) (w : World) : Prop :=
 ∃ T V, McAt T w L V C m ∧ (∀ k, k < w0.heap.size → T k = T0 k) ∧ Ad DU T0 w0 w
theorem EU {c : Nat → Bool} {T : Nat → Nat} {w w' : World} {C : CL} {id : Int} {x : Core} {a : Nat} (hp : Ad c T w w') (h : CoreAt w C id x) (h1 : T C.cb = a) (h2 : T C.pb = a + 1) (h3 : T C.gb = a + 2) (c1 : c a = false) (c2 : c (a + 1) = false) (c3 : c (a + 2) = false) : CoreAt w' C id x :=
 h.kept (hp.block _ (AF h.head) (by show c (T C.cb) = false; rw [h1]; exact c1)) (hp.block _ h.prog.lt (by show c (T C.pb) = false; rw [h2]; exact c2)) (hp.block _ h.buf.lt (by show c (T C.gb) = false; rw [h3]; exact c3))
theorem Mc.start {T : Nat → Nat} {w : World} {L : SL} {V : SV} {C : CC} {m : Mach} (h : McAt T w L V C m) : Mc T w L C m w := ⟨T, V, h, fun _ _ => rfl, Pres.refl _ _⟩
theorem McAt.below {T : Nat → Nat} {w w' : World} {L : SL} {V : SV} {C : CC} {m : Mach} (h : McAt T w L V C m) (hb : Below w w w') : McAt T w' L V C m :=
 ⟨h.sys.below hb, h.k0.kept (hb.block _ (AF h.k0.head)) (hb.block _ h.k0.prog.lt) (hb.block _ h.k0.buf.lt), h.k1.kept (hb.block _ (AF h.k1.head)) (hb.block _ h.k1.prog.lt) (hb.block _ h.k1.buf.lt), h.c0, h.p0, h.g0, h.c1, h.p1, h.g1⟩
theorem Mc.below {T0 : Nat → Nat} {w0 w w' : World} {L : SL} {C : CC} {m : Mach} (h : Mc T0 w0 L C m w) (hb : Below w w w') : Mc T0 w0 L C m w' := by
 obtain ⟨T, V, a, b, c⟩ := h
 exact ⟨T, V, a.below hb, b, c.trans (Pres.of_below hb)⟩
theorem Mc.drew {T0 : Nat → Nat} {w0 w : World} {L : SL} {C : CC} {m : Mach} (h : Mc T0 w0 L C m w) : Mc T0 w0 L C m w.drew := h.below (Below.refl _ _).drew
theorem DQ {T T0 : Nat → Nat} {w0 w w' : World} {c : Nat → Bool} (hb : ∀ k, k < w0.heap.size → T k = T0 k) (hc : Ad DU T0 w0 w) (hp : Ad c T w w') (hcc : ∀ n, c n = true → DU n = true) : Ad DU T0 w0 w' :=
 ⟨hp.os.trans hc.os, hp.tape.trans hc.tape, hp.output.trans hc.output, Vx hc.size hp.size, fun k hk ha => (hp.block k (Vy hk hc.size) (by
  show c (T k) = false
  rw [hb k hk]
  cases hx : c (T0 k) with
  | false => rfl
  | true =>
    have h2 : DU (T0 k) = false := ha
    rw [hcc _ hx] at h2
    cases h2)).trans (hc.block k hk ha)⟩
theorem Mc.trans {T0 T : Nat → Nat} {w0 w w' : World} {L : SL} {C : CC} {m : Mach} (hb : ∀ k, k < w0.heap.size → T k = T0 k) (hc : Ad DU T0 w0 w) (h : Mc T w L C m w') : Mc T0 w0 L C m w' := by
 obtain ⟨T', V', h', h2, h3⟩ := h
 exact ⟨T', V', h', fun k hk => (h2 k (Vy hk hc.size)).trans (hb k hk), DQ hb hc h3 (fun _ h => h)⟩
theorem McAt.sy {T : Nat → Nat} {w w' : World} {L : SL} {V : SV} {C : CC} {m : Mach} {s' : Sys} (h : McAt T w L V C m) (hs : Sy T w L s' w') : ∃ T' V', McAt T' w' L V' C { m with s := s' } ∧ (∀ k, k < w.heap.size → T' k = T k) ∧ Ad (fun n => decide (0 < n) && decide (n < 20)) T w w' := by
 obtain ⟨T', V', a, b, c⟩ := hs
 have hl0 := AF h.k0.head
 have hl1 := AF h.k1.head
 exact ⟨T', V', ⟨a, EU c h.k0 h.c0 h.p0 h.g0 rfl rfl rfl, EU c h.k1 h.c1 h.p1 h.g1 rfl rfl rfl, (b _ hl0).trans h.c0, (b _ h.k0.prog.lt).trans h.p0, (b _ h.k0.buf.lt).trans h.g0, (b _ hl1).trans h.c1, (b _ h.k1.prog.lt).trans h.p1, (b _ h.k1.buf.lt).trans h.g1⟩, b, c⟩
theorem Mc.sy {T0 : Nat → Nat} {w0 w : World} {L : SL} {C : CC} {m : Mach} (h : Mc T0 w0 L C m w) : ∃ T, Sy T w L m.s w ∧ (∀ k, w.heap.size ≤ k → T k = 0) ∧ (∀ k, k < w0.heap.size → T k = T0 k) ∧ ∀ s' w', Sy T w L s' w' → Mc T0 w0 L C { m with s := s' } w' := by
 obtain ⟨T, V, a, b, c⟩ := h
 refine ⟨T, Sy.start a.sys, fun k hk => ?_, b, fun s' w' hs => ?_⟩
 · by_cases h0 : T k = 0
   · exact h0
   · exact absurd (a.sys.low k h0) (by omega)
 · obtain ⟨T', V', a', b', c'⟩ := a.sy hs
   exact ⟨T', V', a', fun k hk => (b' k (Vy hk c.size)).trans (b k hk), DQ b c c' (fun n hn => by simp [DU] at hn ⊢; omega)⟩
def GT (i : Int) (n : Nat) : Bool := if (i == 0) = true then n == 20 || n == 21 || n == 22 else n == 24 || n == 25 || n == 26
theorem McAt.core {T : Nat → Nat} {w : World} {L : SL} {V : SV} {C : CC} {m : Mach} (h : McAt T w L V C m) {i : Int} (hi : AK i = true) : CoreAt w (C.at i) i (m.core i) := by
 rcases Aa hi with rfl | rfl
 · exact h.k0
 · exact h.k1
theorem McAt.setCore {T : Nat → Nat} {w w' : World} {L : SL} {V : SV} {C : CC} {m : Mach} (h : McAt T w L V C m) {i : Int} (hi : AK i = true) {c' : Core} (hp : Ad (GT i) T w w') (hc : CoreAt w' (C.at i) i c') : McAt T w' L V C (m.put i c' m.s) := by
 have hs : SysAt T w' L V m.s := by
  have h := h.sys
  have hiF : ∀ n, n < 20 → GT i n = false := fun n hn => by
   unfold GT
   split <;> simp <;> omega
  exact ⟨AM hp h.sys h.tsb (hiF _ (by decide)), AM hp h.nodes h.tnb (hiF _ (by decide)), AM hp h.ag0 h.tg0 (hiF _ (by decide)), AM hp h.ag1 h.tg1 (hiF _ (by decide)), BC hp h.arr0 h.ta0 (hiF _ (by decide)) h.tl0 (hiF _ (by decide)), BC hp h.arr1 h.ta1 (hiF _ (by decide)) h.tl1 (hiF _ (by decide)), AQ hp h.ru0 h.tu0 (hiF _ (by decide)), AQ hp h.rs0 h.ts0 (hiF _ (by decide)), AQ hp h.rd0 h.td0 (hiF _ (by decide)), AQ hp h.ru1 h.tu1 (hiF _ (by decide)), AQ hp h.rs1 h.ts1 (hiF _ (by decide)), AQ hp h.rd1 h.td1 (hiF _ (by decide)), AM hp h.dir h.tdb (hiF _ (by decide)), h.dlen, AM hp h.wq h.tqb (hiF _ (by decide)), AQ hp h.rq h.tq (hiF _ (by decide)), CU hp h.mem h.tdv (hiF _ (by decide)) h.tmb (hiF _ (by decide)), h.tsb, h.tnb, h.tdb, h.tqb, h.tdv, h.tmb, h.tg0, h.tg1, h.ta0, h.ta1, h.tl0, h.tl1, h.tu0, h.ts0, h.td0, h.tu1, h.ts1, h.td1, h.tq, fun k hk => Vy (h.low k hk) hp.size⟩
 rcases Aa hi with rfl | rfl
 · exact ⟨hs, hc, EU hp h.k1 h.c1 h.p1 h.g1 rfl rfl rfl, h.c0, h.p0, h.g0, h.c1, h.p1, h.g1⟩
 · exact ⟨hs, EU hp h.k0 h.c0 h.p0 h.g0 rfl rfl rfl, hc, h.c0, h.p0, h.g0, h.c1, h.p1, h.g1⟩
theorem OB {i : Int} (n : Nat) (h : GT i n = true) : DU n = true := by
 unfold GT at h
 split at h <;> simp [DU] at h ⊢ <;> omega
theorem Mc.setCore {T0 T : Nat → Nat} {w0 w w' : World} {L : SL} {V : SV} {C : CC} {m : Mach} (h : McAt T w L V C m) (b : ∀ k, k < w0.heap.size → T k = T0 k) (c : Ad DU T0 w0 w) {i : Int} (hi : AK i = true) {c' : Core} (hp : Ad (GT i) T w w') (hc : CoreAt w' (C.at i) i c') : Mc T0 w0 L C (m.put i c' m.s) w' :=
 ⟨T, V, h.setCore hi hp hc, b, DQ b c hp OB⟩
def Ev.l (e : Ev) : List Value := [I e.kind, I e.core, I e.line, I e.word, U e.val]
def AY (l : List Ev) : List Value := l.flatMap Ev.l
theorem EV (l : List Ev) : ∀ u ∈ AY l, u.oneCell' = true := by
 intro u hu
 simp only [AY, List.mem_flatMap, Ev.l, List.mem_cons, List.not_mem_nil, or_false] at hu
 obtain ⟨a, _, h⟩ := hu
 rcases h with rfl | rfl | rfl | rfl | rfl <;> rfl
def FR (cb sb : Nat) (i : Ins) (S : Value) : Array Value := #[cb, sb, I i.op, I i.a, I i.b, I i.c, I i.imm, S]
theorem RM (m : Mach) {i : Int} (hi : AK i = true) (c : Core) (s : Sys) : (m.put i c s).core i = c := by rcases Aa hi with rfl | rfl <;> rfl
theorem OZ (m : Mach) (i : Int) (c : Core) (s : Sys) : (m.put i c s).s = s := by unfold Mach.put; split <;> rfl
theorem Tr (m : Mach) (i : Int) (c : Core) (s s' : Sys) : ({ m.put i c s with s := s' } : Mach) = m.put i c s' := by unfold Mach.put; split <;> rfl
theorem Sr (m : Mach) (i : Int) (c c' : Core) (s s' : Sys) : (m.put i c s).put i c' s' = m.put i c' s' := by unfold Mach.put; split <;> rfl
theorem Gg (m : Mach) {i : Int} (hi : AK i = true) : m.put i (m.core i) m.s = m := by rcases Aa hi with rfl | rfl <;> rfl
theorem McAt.keep {T : Nat → Nat} {w w' : World} {L : SL} {V : SV} {C : CC} {m : Mach} (h : McAt T w L V C m) (hp : Ad (fun n => n == 0) T w w') : McAt T w' L V C m :=
 ⟨h.sys.keep (hp.mono fun k _ ha => by simp only [Bool.or_eq_false_iff] at ha; exact ha.1), EU hp h.k0 h.c0 h.p0 h.g0 rfl rfl rfl, EU hp h.k1 h.c1 h.p1 h.g1 rfl rfl rfl, h.c0, h.p0, h.g0, h.c1, h.p1, h.g1⟩
def Sp (T0 : Nat → Nat) (w0 : World) (L : SL) (C : CC) (m : Mach) (i : Int) (xb : Nat) (x : Ins) (c : Core) (s : Sys) (evs : List Ev) (w : World) : Prop :=
 ∃ T V S, McAt T w L V C (m.put i c s) ∧ (∀ k, k < w0.heap.size → T k = T0 k) ∧ Ad DU T0 w0 w ∧ T xb = 0 ∧ w0.heap.size ≤ xb ∧ w.heap[xb]? = some (.cells (FR (C.at i).cb L.sb x S) 362) ∧ AH w 92 5 S evs.length (AY evs) ∧ ∀ k, S.ownBlock = some k → w0.heap.size ≤ k ∧ T k = 0
section
variable {T0 : Nat → Nat} {w0 : World} {L : SL} {C : CC} {m : Mach} {i : Int} {xb : Nat} {x : Ins} {c : Core} {s : Sys} {evs : List Ev}
theorem Sp.below {w w' : World} (h : Sp T0 w0 L C m i xb x c s evs w) (hb : Below w w w') : Sp T0 w0 L C m i xb x c s evs w' := by
 obtain ⟨T, V, S, h1, h2, h3, h4, h5, h6, h7, h8⟩ := h
 exact ⟨T, V, S, h1.below hb, h2, h3.trans (Pres.of_below hb), h4, h5, AB hb h6, h7.below hb, h8⟩
theorem Sp.drew {w : World} (h : Sp T0 w0 L C m i xb x c s evs w) : Sp T0 w0 L C m i xb x c s evs w.drew := h.below (Below.refl _ _).drew
theorem Sp.sy {w : World} (h : Sp T0 w0 L C m i xb x c s evs w) : ∃ T, Sy T w L s w ∧ ∀ s' w', Sy T w L s' w' → Sp T0 w0 L C m i xb x c s' evs w' := by
 obtain ⟨T, V, S, h1, h2, h3, h4, h5, h6, h7, h8⟩ := h
 have hs := h1.sys
 rw [OZ] at hs
 refine ⟨T, Sy.start hs, fun s' w' k => ?_⟩
 rw [← OZ m i c s] at hs
 obtain ⟨T', V', a, b, d⟩ := h1.sy k
 rw [Tr] at a
 have hx := AF h6
 refine ⟨T', V', S, a, fun k hk => (b k (Vy hk h3.size)).trans (h2 k hk), DQ h2 h3 d (fun n hn => by simp [DU] at hn ⊢; omega), (b xb hx).trans h4, h5, (d.block xb hx (by show _ = false; rw [h4]; rfl)).trans h6, h7.kept fun k hk => d.block k (h7.lt k hk) (by show _ = false; rw [(h8 k hk).2]; rfl), fun k hk => ⟨(h8 k hk).1, (b k (h7.lt k hk)).trans (h8 k hk).2⟩⟩
theorem Sp.cells {w : World} (h : Sp T0 w0 L C m i xb x c s evs w) : ∃ S, w.heap[xb]? = some (.cells (FR (C.at i).cb L.sb x S) 362) := by
 obtain ⟨T, V, S, h1, h2, h3, h4, h5, h6, h7, h8⟩ := h
 exact ⟨S, h6⟩
theorem Sp.coreAt {w : World} (hi : AK i = true) (h : Sp T0 w0 L C m i xb x c s evs w) : CoreAt w (C.at i) i c := by
 obtain ⟨T, V, S, h1, h2, h3, h4, h5, h6, h7, h8⟩ := h
 have := h1.core hi
 rwa [RM m hi] at this
theorem Sp.setCore {w w' : World} (hi : AK i = true) (h : Sp T0 w0 L C m i xb x c s evs w) {c' : Core} (hp : Pres (fun k => k ≠ (C.at i).cb ∧ k ≠ (C.at i).pb ∧ k ≠ (C.at i).gb) w w') (hc : CoreAt w' (C.at i) i c') : Sp T0 w0 L C m i xb x c' s evs w' := by
 obtain ⟨T, V, S, h1, h2, h3, h4, h5, h6, h7, h8⟩ := h
 have hcore := h1.core hi
 have hl : ∀ k, GT i (T k) = false → k ≠ (C.at i).cb ∧ k ≠ (C.at i).pb ∧ k ≠ (C.at i).gb := fun k hk => by
  rcases Aa hi with rfl | rfl
  · exact ⟨fun e => (by rw [e, show (C.at 0).cb = C.c0.cb from rfl, h1.c0] at hk; cases hk), fun e => (by rw [e, show (C.at 0).pb = C.c0.pb from rfl, h1.p0] at hk; cases hk), fun e => (by rw [e, show (C.at 0).gb = C.c0.gb from rfl, h1.g0] at hk; cases hk)⟩
  · exact ⟨fun e => (by rw [e, show (C.at 1).cb = C.c1.cb from rfl, h1.c1] at hk; cases hk), fun e => (by rw [e, show (C.at 1).pb = C.c1.pb from rfl, h1.p1] at hk; cases hk), fun e => (by rw [e, show (C.at 1).gb = C.c1.gb from rfl, h1.g1] at hk; cases hk)⟩
 have hp' : Ad (GT i) T w w' := hp.mono fun k _ hk => hl k hk
 have hn0 : GT i 0 = false := by unfold GT; split <;> rfl
 have hm := h1.setCore hi hp' hc
 rw [OZ, Sr] at hm
 refine ⟨T, V, S, hm, h2, DQ h2 h3 hp' OB, h4, h5, (hp'.block xb (AF h6) (by show GT i (T xb) = false; rw [h4]; exact hn0)).trans h6, h7.kept fun k hk => hp'.block k (h7.lt k hk) (by show GT i (T k) = false; rw [(h8 k hk).2]; exact hn0), h8⟩
end
theorem PR (C : CL) (id : Int) (c : Core) (p : Int) : (BY C id c).setIfInBounds 9 (I p) = BY C id { c with place := p } := rfl
theorem Qr (C : CL) (id : Int) (c : Core) (p : Int) : (BY C id c).setIfInBounds 12 (I p) = BY C id { c with waits := p } := rfl
theorem US (C : CL) (id : Int) (c : Core) (p : Bool) : (BY C id c).setIfInBounds 13 (.bool p) = BY C id { c with runs := p } := rfl
theorem Uf {l : List Int} (h : l.length = 8) : ∃ a b c d e f g k, l = [a, b, c, d, e, f, g, k] := by
 match l, h with
 | [a, b, c, d, e, f, g, k], _ => exact ⟨a, b, c, d, e, f, g, k, rfl⟩
theorem Ch {n : Int} (h : BH n = true) : 0 ≤ n ∧ n < 8 := by simpa [BH] using h
theorem Hr {n : Int} (h : BH n = true) : n = 0 ∨ n = 1 ∨ n = 2 ∨ n = 3 ∨ n = 4 ∨ n = 5 ∨ n = 6 ∨ n = 7 := by have := Ch h; omega
theorem VE (C : CL) (id : Int) (c : Core) (hl : c.regs.length = 8) (a : Int) (ha : BH a = true) (v : Int) : (BY C id c).setIfInBounds (1 + a.toNat) (U v) = BY C id (c.setReg a v) := by
 obtain ⟨regs, place, prog, buf, waits, runs⟩ := c
 obtain ⟨r0, r1, r2, r3, r4, r5, r6, r7, rfl⟩ := Uf hl
 rcases Hr ha with rfl | rfl | rfl | rfl | rfl | rfl | rfl | rfl <;> rfl
theorem CoreAt.reg {w : World} {C : CL} {id : Int} {c : Core} (h : CoreAt w C id c) {a : Int} (ha : BH a = true) : w.cell? ⟨C.cb, 1 + a.toNat, none⟩ = U (c.reg a) := by
 rcases Hr ha with rfl | rfl | rfl | rfl | rfl | rfl | rfl | rfl <;> exact AD h.head _ rfl
theorem CoreAt.set {w : World} {C : CL} {id : Int} {c c' : Core} (h : CoreAt w C id c) (k : Nat) (v : Value) (e : (BY C id c).setIfInBounds k v = BY C id c') (hl : c'.regs.length = 8) (hp : c'.prog = c.prog) (hb : c'.buf = c.buf) : CoreAt (w.setCell ⟨C.cb, k, none⟩ v) C id c' := by
 have h1 := AI h.head k v
 rw [e] at h1
 have hpb : C.pb ≠ C.cb := by
  obtain ⟨cs, hcs, _⟩ := h.prog
  exact AG hcs h.head (by decide)
 have hgb : C.gb ≠ C.cb := fun e => by
  obtain ⟨es, first, hb, _⟩ := h.buf
  have h80 := hb.room
  rw [e] at h80
  have := AD (w := w) h.head 13 rfl
  have h81 : w.cell? ⟨C.cb, 80, none⟩ = none := by rw [World.cell?, h.head]; rfl
  rw [h81] at h80
  cases h80
 refine ⟨h1, hl, ?_, ?_⟩
 · rw [hp]; exact h.prog.block (Vz _ _ _ _ hpb)
 · rw [hb]; exact h.buf.block (Vz _ _ _ _ hgb)
theorem CK (T0 : Nat → Nat) (w0 : World) (L : SL) (C : CC) (m : Mach) (i : Int) (hi : AK i = true) (xb : Nat) (x : Ins) (c : Core) (s : Sys) (evs : List Ev) (h0 : 0 ≤ c.place) (h1 : c.place < 1000000) (w : World) (h : Sp T0 w0 L C m i xb x c s evs w) : Y 308 #[xb] w fun e w' => e = Z (.tuple #[]) ∧ Sp T0 w0 L C m i xb x c.next s evs w' := by
 obtain ⟨S, hx⟩ := h.cells
 have hc := h.coreAt hi
 unfold FR at hx
 have c1 := AA hx
 have hh := hc.head
 unfold BY at hh
 have c2 := AA hh
 have f2 := AJ hh
 have hset := Vw (hc.set 9 (I (c.place + 1)) (PR _ _ _ _) hc.len rfl rfl)
 have H := Vw h
 clear h hx hc hh
 go_enter func308, ntmps308
 go_wp2_with fail
 go_end0
 exact ⟨rfl, H.out.setCore hi ((Pres.refl _ w).setCell (p := ⟨(C.at i).cb, 9, none⟩) (by simp) _) hset.out⟩
theorem BU (T0 : Nat → Nat) (w0 : World) (L : SL) (C : CC) (m : Mach) (i : Int) (hi : AK i = true) (xb : Nat) (x : Ins) (c : Core) (s : Sys) (evs : List Ev) (kind line word v : Int) (hl : evs.length < 1000) (w : World) (h : Sp T0 w0 L C m i xb x c s evs w) : Y 263 #[xb, I kind, I line, I word, v] w fun e w' => e = Z (.tuple #[]) ∧ Sp T0 w0 L C m i xb x c s (evs ++ [⟨kind, i, line, word, v⟩]) w' := by
 have hc := h.coreAt hi
 obtain ⟨T, V, S, h1, h2, h3, h4, h5, h6, h7, h8⟩ := h
 obtain ⟨A, AV, rfl⟩ := h7.form
 have hx := h6
 unfold FR at hx
 have c1 := AA hx
 have hh := hc.head
 unfold BY at hh
 have c2 := AA hh
 have HC := Vw (AC w (.cells #[I kind, I i, I line, I word, v] 92))
 have a3 : (w.alloc (.cells #[I kind, I i, I line, I word, v] 92)).cell? ⟨xb, 7, none⟩ = some (.slice A evs.length AV) := AD (AB HC.out h6) 7 rfl
 have hcx := AA (AB HC.out hx)
 have hcc := AA (AB HC.out hh)
 have fx := Aq h6
 have hltx := AF h6
 have hltc := AF hc.head
 have H := Vw (WA h6 h7)
 have HR := Vw (WA h1 (WA h2 (WA h3 (WA h4 (WA h5 h8)))))
 clear h1 h2 h3 h4 h5 h6 h7 h8 hx hh hc
 go_enter func263, ntmps263
 go_wp2_with fail
 go_region_law
  (first
   | (refine Bb (by rfl) (.tmp 14) (.tmp 27) 42 42 (by rfl) Ki (.slice A evs.length AV) evs.length (AY evs) (by rfl) (H.out.2.below HC.out.drew) _ 1 _ (by rfl) (Src.one underlying42 (AE w _) rfl (EV [⟨kind, i, line, word, v⟩])) (by omega) (by omega) ?_; intro A3 cap3 w3 hr3 hg3 hm3; have d0 : w3.cell? ⟨xb, 7, none⟩ = some (.slice A evs.length AV) := AD (AW (H.out.2.below HC.out.drew) hg3 (AB HC.out.drew H.out.1) (by decide)) 7 rfl; have e0 := Aq (AW (H.out.2.below HC.out.drew) hg3 (AB HC.out.drew H.out.1) (by decide)) 7))
 all_goals
  have hb3 := AW (H.out.2.below HC.out.drew) hg3 (AB HC.out.drew H.out.1) (by decide)
  go_wp2_with fail
  go_end0
  obtain ⟨h1, h2, h3, h4, h5, h8⟩ := HR.out
  have hlow : ∀ k, T k ≠ 0 → k < w.heap.size := h1.sys.low
  have hT : ∀ k, w.heap.size ≤ k → T k = 0 := fun k hk => by
   by_cases h0 : T k = 0
   · exact h0
   · exact absurd (hlow k h0) (by omega)
  have hm1 : ∀ k, (Value.slice A3 (evs.length + 1) cap3).ownBlock = some k → w0.heap.size ≤ k ∧ T k = 0 := fun k hk => by
   rcases hm3 with e | ⟨g, e, hg4⟩
   · exact h8 k (e ▸ hk)
   · rw [e] at hk
     cases hk
     exact ⟨Vx h3.size (Vx HC.out.drew.size hg4), hT _ (Vx HC.out.drew.size hg4)⟩
  have hp : Ad (fun n => n == 0) T w (w3.setCell ⟨xb, 7, none⟩ (.slice A3 (evs.length + 1) cap3)) := ((Pres.of_below HC.out.drew).trans (Pres.of_grown hg3 fun k hk ha => by
   have := (h8 k hk).2
   rw [this] at ha
   cases ha)).setCell (p := ⟨xb, 7, none⟩) (by show ¬ ((T xb == 0) = false); rw [h4]; decide) _
  have hb : Below w0 w (w3.setCell ⟨xb, 7, none⟩ (.slice A3 (evs.length + 1) cap3)) := ((HC.out.drew.mono h3.size).grown hg3 (Vx h3.size HC.out.drew.size) (fun k hk => (h8 k hk).1)).setCell (p := ⟨xb, 7, none⟩) h5 _
  refine ⟨rfl, T, V, .slice A3 (evs.length + 1) cap3, h1.keep hp, h2, ⟨hb.os.trans h3.os, hb.tape.trans h3.tape, hb.output.trans h3.output, Vx h3.size hb.size, fun k hk ha => (hb.block k hk).trans (h3.block k hk ha)⟩, h4, h5, AI hb3 7 _, ?_, hm1⟩
  have hr4 := hr3.stored hb3 (by decide) 7 (.slice A3 (evs.length + 1) cap3)
  rw [List.length_append]
  simpa [AY, Ev.l] using hr4
end Go.Proofs.YtkoplblbeapfgaaGreatDoor
