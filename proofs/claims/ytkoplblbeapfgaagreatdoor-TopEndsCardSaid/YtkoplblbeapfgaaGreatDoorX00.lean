/-
Parts of the walk of TopEnds. Conditions stand in each statement.
-/
import Derived.WalkKit
import Derived.WalkLawsBesides
import Derived.Lib.Hide
import Derived.StillTailTactics
import Derived.Deep.QuietTactic
import Derived.BigQuiet
import Derived.RegionTactic
import Derived.BigRegion
import Derived.Deep.RegionHeld3
import Derived.Deep.RegionWith
import Derived.Deep.RegionLaw
import Derived.Deep.AppendSrc
import Derived.Deep.Upon
import Derived.Below
import Derived.Test.YtkoplblbeapfgaaGreatDoorChecked
namespace Go.Proofs.YtkoplblbeapfgaaGreatDoor
open Go.RowKit
open Tryz
set_option linter.all false
set_option maxRecDepth 100000
set_option maxHeartbeats 8000000
structure Sg (n : Nat)
def I : Sg 0 := ⟨⟩
def U : Sg 1 := ⟨⟩
def Y : Sg 2 := ⟨⟩
def Z : Sg 3 := ⟨⟩
instance : CoeFun (Sg 0) (fun _ => Int → Value) := ⟨fun _ => Value.int .i64⟩
instance : CoeFun (Sg 1) (fun _ => Int → Value) := ⟨fun _ => Value.int .u64⟩
instance : CoeFun (Sg 2) (fun _ => FuncId → Array Value → World → (Ending → World → Prop) → Prop) := ⟨fun _ => Calls Tryz.prog⟩
instance : CoeFun (Sg 3) (fun _ => Value → Ending) := ⟨fun _ => .returned⟩
instance : Coe Int Value := ⟨Value.int .u64⟩
instance : Coe Bool Value := ⟨Value.bool⟩
instance : Coe World Nat := ⟨fun w => w.heap.size⟩
instance : Coe Nat Addr := ⟨fun b => ⟨b, 0, none⟩⟩
instance : Coe Nat Value := ⟨fun b => Value.pointer (some ⟨b, 0, none⟩)⟩
def KA : Sg 10 := ⟨⟩
def KB : Sg 11 := ⟨⟩
def KC : Sg 12 := ⟨⟩
def KD : Sg 13 := ⟨⟩
def KE : Sg 14 := ⟨⟩
def KF : Sg 15 := ⟨⟩
def KG : Sg 16 := ⟨⟩
instance : Coe (Sg 10) (Array Value) := ⟨fun _ => #[I 2, I 5, I 1, I 1, I 2, I 2, I 2, I 2, I 1]⟩
instance : Coe (Sg 11) (Array Value) := ⟨fun _ => #[I 0, I 0, false, false, U 0, U 0, U 0, U 0, U 0, U 0, U 0, U 0]⟩
instance : Coe (Sg 12) (Array Value) := ⟨fun _ => #[false, false, U 0, U 0, U 0, U 0, U 0, U 0, U 0, U 0, I 0, .int .u8 0, I 0, I 0, .int .u8 0]⟩
instance : Coe (Sg 13) (Array Value) := ⟨fun _ => #[U 0, U 0, U 0, U 0, U 0, U 0, U 0, U 0]⟩
instance : Coe (Sg 14) (Array Value) := ⟨fun _ => #[I 2, I 5, I 1, I 1, I 2, I 2, I 2]⟩
instance : Coe (Sg 15) (Array Value) := ⟨fun _ => #[I 0, I 0, U 0]⟩
instance : Coe (Sg 16) (Array Value) := ⟨fun _ => #[false, false, U 0, U 0, U 0, U 0, U 0, U 0, U 0, U 0, I (-1), .int .u8 0, I 0, I 0, .int .u8 0]⟩
theorem ex_ {α : Sort _} (a : α) : ∃ b, a = b := ⟨a, rfl⟩
theorem alloc_new (w : World) (o : Obj) : ∃ W, w.alloc o = W ∧ Below w.heap.size w W ∧ W.heap[w.heap.size]? = some o := ⟨_, rfl, (Below.refl _ _).alloc (Nat.le_refl _) o, heap_alloc_new w o⟩
theorem Vw {p : Prop} (h : p) : RowKit.Hid p := Lib.hid h
theorem Vx {n m k : Nat} (h : n ≤ m) (g : m ≤ k) : n ≤ k := Nat.le_trans h g
theorem Vy {n m k : Nat} (h : n < m) (g : m ≤ k) : n < k := Nat.lt_of_lt_of_le h g
theorem WA {a b : Prop} (h : a) (k : b) : a ∧ b := ⟨h, k⟩
theorem Vz (w : World) (a : Addr) (u : Value) (k : Nat) (h : k ≠ a.block) : (w.setCell a u).heap[k]? = w.heap[k]? := Below.heap_setCell w a u k h
structure Pres (Av : Nat → Prop) (w w' : World) : Prop where
 os : w'.os = w.os
 tape : w'.tape = w.tape
 output : w'.output = w.output
 size : w.heap.size ≤ w'.heap.size
 block : ∀ k, k < w.heap.size → Av k → w'.heap[k]? = w.heap[k]?
theorem Pres.refl (Av : Nat → Prop) (w : World) : Pres Av w w := ⟨rfl, rfl, rfl, Nat.le_refl _, fun _ _ _ => rfl⟩
theorem Pres.trans {Av : Nat → Prop} {a b c : World} (h : Pres Av a b) (k : Pres Av b c) : Pres Av a c :=
 ⟨k.os.trans h.os, k.tape.trans h.tape, k.output.trans h.output, Vx h.size k.size, fun i hi ha => (k.block i (Vy hi h.size) ha).trans (h.block i hi ha)⟩
theorem Pres.mono {Av Bv : Nat → Prop} {a b : World} (h : Pres Av a b) (hs : ∀ k, k < a.heap.size → Bv k → Av k) : Pres Bv a b := ⟨h.os, h.tape, h.output, h.size, fun k hk hb => h.block k hk (hs k hk hb)⟩
theorem Pres.of_below {Av : Nat → Prop} {a b : World} (h : Below a a b) : Pres Av a b := ⟨h.os, h.tape, h.output, h.size, fun k hk _ => h.block k hk⟩
theorem Pres.of_grown {Av : Nat → Prop} {a b : World} {g : Option Nat} (h : a.grownBy b g) (hg : ∀ k, g = some k → ¬ Av k) : Pres Av a b :=
 ⟨h.os, h.tape, h.output, h.size, fun k hk ha => h.block k hk (fun e => hg k e.symm ha)⟩
theorem Pres.alloc {Av : Nat → Prop} {a b : World} (h : Pres Av a b) (o : Obj) : Pres Av a (b.alloc o) :=
 ⟨h.os, h.tape, h.output, Vx h.size (by simp), fun k hk ha => (Below.heap_alloc b o k (Vy hk h.size)).trans (h.block k hk ha)⟩
theorem Pres.drew {Av : Nat → Prop} {a b : World} (h : Pres Av a b) : Pres Av a b.drew := ⟨h.os, h.tape, h.output, h.size, h.block⟩
theorem Pres.setCell {Av : Nat → Prop} {a b : World} (h : Pres Av a b) {p : Addr} (hp : ¬ Av p.block) (u : Value) : Pres Av a (b.setCell p u) :=
 ⟨h.os, h.tape, h.output, by simpa [World.setCell] using h.size, fun k hk ha => (Vz b p u k (fun e => hp (e ▸ ha))).trans (h.block k hk ha)⟩
theorem Pres.setNew {Av : Nat → Prop} {a b : World} (h : Pres Av a b) {p : Addr} (hp : a.heap.size ≤ p.block) (u : Value) : Pres Av a (b.setCell p u) :=
 ⟨h.os, h.tape, h.output, by simpa [World.setCell] using h.size, fun k hk ha => (Vz b p u k (by omega)).trans (h.block k hk ha)⟩
theorem AC (w : World) (o : Obj) : Below w w (w.alloc o) := (Below.refl _ _).alloc (Nat.le_refl _) o
theorem AB {w w' : World} (hb : Below w w w') {g : Nat} {o : Obj} (h : w.heap[g]? = some o) : w'.heap[g]? = some o := (hb.block g (Array.getElem?_eq_some_iff.1 h).1).trans h
theorem AE (w : World) (o : Obj) : (w.alloc o).heap[w.heap.size]? = some o := heap_alloc_new w o
theorem AF {w : World} {g : Nat} {o : Obj} (h : w.heap[g]? = some o) : g < w.heap.size := (Array.getElem?_eq_some_iff.1 h).1
theorem AI {w : World} {g : Nat} {cs : Array Value} {e : TypeId} {f : Nat × Nat} (h : w.heap[g]? = some (.cells cs e f)) (k : Nat) (v : Value) : (w.setCell ⟨g, k, none⟩ v).heap[g]? = some (.cells (cs.setIfInBounds k v) e f) := by
 simp [World.setCell, Array.getElem?_modify, h]
theorem AD {w : World} {g : Nat} {cs : Array Value} {e : TypeId} {f : Nat × Nat} (h : w.heap[g]? = some (.cells cs e f)) (k : Nat) {v : Value} (hv : cs[k]? = some v) : w.cell? ⟨g, k, none⟩ = some v := by
 simp [World.cell?, h, hv]
theorem AA {w : World} {g : Nat} {cs : Array Value} {e : TypeId} {f : Nat × Nat} (h : w.heap[g]? = some (.cells cs e f)) : ∀ k, w.cell? ⟨g, k, none⟩ = cs[k]? := fun k => by simp [World.cell?, h]
theorem AJ {w : World} {g : Nat} {cs : Array Value} {e : TypeId} (h : w.heap[g]? = some (.cells cs e (0, 0))) : ∀ k, w.frozen? ⟨g, k, none⟩ = false := fun k => by simp [World.frozen?, h]
theorem Aq {w : World} {g : Nat} {cs : Array Value} {e : TypeId} (h : w.heap[g]? = some (.cells cs e (0, 0))) (k : Nat) : w.frozen? ⟨g, k, none⟩ = false := by
 simp [World.frozen?, h]
theorem AG {w : World} {g g' : Nat} {cs cs' : Array Value} {e e' : TypeId} {f f' : Nat × Nat} (h : w.heap[g]? = some (.cells cs e f)) (h' : w.heap[g']? = some (.cells cs' e' f')) (hne : e ≠ e') : g ≠ g' := by
 rintro rfl
 rw [h] at h'
 injection h' with h'
 injection h' with _ h2
 exact hne h2
theorem Hb {g : Nat} {e : TypeId} : ∀ (vs : List Value) (o : Nat) (w : World) (cs : Array Value), w.heap[g]? = some (.cells cs e (0, 0)) → o + vs.length ≤ cs.size →
 ∃ cs', (w.setCells g o vs).heap[g]? = some (.cells cs' e (0, 0)) ∧ cs'.size = cs.size ∧ (∀ j, j < o → cs'[j]? = cs[j]?) ∧ ∀ j u, vs[j]? = some u → cs'[o + j]? = some u
 | [], o, w, cs, h, _ => ⟨cs, h, rfl, fun _ _ => rfl, fun j u hu => by simp at hu⟩
 | v :: vs, o, w, cs, h, hl => by
   obtain ⟨cs', h1, h2, h3, h4⟩ := Hb vs (o + 1) (w.setCell ⟨g, o, none⟩ v) (cs.setIfInBounds o v) (AI h o v) (by simp at hl ⊢; omega)
   refine ⟨cs', h1, by simpa using h2, fun j hj => (h3 j (by omega)).trans (Array.getElem?_setIfInBounds_ne (by omega)), fun j u hu => ?_⟩
   cases j with
   | zero =>
     simp only [List.getElem?_cons_zero, Option.some.injEq] at hu
     subst hu
     rw [Nat.add_zero, h3 o (by omega), Array.getElem?_setIfInBounds_self_of_lt (by simp at hl; omega)]
   | succ j =>
     have := h4 j u (by simpa using hu)
     rwa [show o + 1 + j = o + (j + 1) by omega] at this
theorem Ha {g : Nat} : ∀ (vs : List Value) (o : Nat) (w : World), (w.setCells g o vs).tape = w.tape
 | [], _, _ => rfl
 | v :: vs, o, w => by rw [World.setCells, Ha vs (o + 1)]; rfl
theorem Dl {g : Nat} : ∀ (vs : List Value) (o : Nat) (w : World), w.heap.size ≤ (w.setCells g o vs).heap.size
 | [], _, _ => Nat.le_refl _
 | v :: vs, o, w => by rw [World.setCells]; refine Vx ?_ (Dl vs (o + 1) _); simp [World.setCell]
def AH (w : World) (e : TypeId) (size : Nat) (v : Value) (n : Nat) (xs : List Value) : Prop :=
 xs.length = n * size ∧ ((v = .slice none 0 0 ∧ n = 0) ∨
  ∃ g off AV cs, v = .slice (some ⟨g, off, none⟩) n AV ∧ w.heap[g]? = some (.cells cs e (0, 0)) ∧ n ≤ AV ∧ off + AV * size ≤ cs.size ∧ ∀ j u, xs[j]? = some u → cs[off + j]? = some u)
section
variable {w : World} {e : TypeId} {size : Nat} {v : Value} {n : Nat} {xs : List Value}
theorem AH.nil (w : World) (e : TypeId) (size : Nat) : AH w e size (.slice none 0 0) 0 [] := ⟨by simp, .inl ⟨rfl, rfl⟩⟩
theorem AH.lt (h : AH w e size v n xs) : ∀ k, v.ownBlock = some k → k < w.heap.size := by
 intro k hk
 rcases h.2 with ⟨rfl, _⟩ | ⟨g, off, AV, cs, rfl, hg, _⟩
 · simp [Value.ownBlock] at hk
 · simp [Value.ownBlock] at hk
   subst hk
   exact AF hg
theorem AH.kept (h : AH w e size v n xs) {w' : World} (hk : ∀ k, v.ownBlock = some k → w'.heap[k]? = w.heap[k]?) : AH w' e size v n xs := by
 refine ⟨h.1, ?_⟩
 rcases h.2 with hn | ⟨g, off, AV, cs, rfl, hg, rest⟩
 · exact .inl hn
 · exact .inr ⟨g, off, AV, cs, rfl, (hk g (by simp [Value.ownBlock])).trans hg, rest⟩
theorem AH.below (h : AH w e size v n xs) {w' : World} (hb : Below w w w') : AH w' e size v n xs := h.kept fun k hk => hb.block k (h.lt k hk)
theorem AH.form (h : AH w e size v n xs) : ∃ A AV, v = .slice A n AV := by
 rcases h.2 with ⟨rfl, rfl⟩ | ⟨g, off, AV, cs, rfl, _⟩
 · exact ⟨none, 0, rfl⟩
 · exact ⟨_, AV, rfl⟩
theorem AH.type (h : AH w e size v n xs) : ∀ k, v.ownBlock = some k → ∃ cs, w.heap[k]? = some (.cells cs e (0, 0)) := by
 intro k hk
 rcases h.2 with ⟨rfl, _⟩ | ⟨g, off, AV, cs, rfl, hg, _⟩
 · simp [Value.ownBlock] at hk
 · simp [Value.ownBlock] at hk
   subst hk
   exact ⟨cs, hg⟩
theorem AH.lies (h : AH w e size v n xs) (hn : 0 < n) : ∃ g off AV cs, v = .slice (Option.some ⟨g, off, none⟩) n AV ∧ w.heap[g]? = Option.some (.cells cs e (0, 0)) ∧ n ≤ AV ∧ off + AV * size ≤ cs.size ∧ ∀ j u, xs[j]? = Option.some u → cs[off + j]? = Option.some u := by
 rcases h.2 with ⟨_, h0⟩ | h'
 · omega
 · exact h'
theorem AH.one {g : Nat} {cs : Array Value} (h : w.heap[g]? = some (.cells cs e (0, 0))) (hs : cs.size = size) : AH w e size (.slice (some g) 1 1) 1 cs.toList :=
 ⟨by simp [hs], .inr ⟨g, 0, 1, cs, rfl, h, Nat.le_refl _, by omega, fun j u hu => by rw [Nat.zero_add]; simpa using hu⟩⟩
theorem AH.made {g m : Nat} {cs : Array Value} (h : w.heap[g]? = some (.cells cs e (0, 0))) (hs : cs.size = m * size) : AH w e size (.slice (some g) m m) m cs.toList :=
 ⟨by simp [hs], .inr ⟨g, 0, m, cs, rfl, h, Nat.le_refl _, by omega, fun j u hu => by rw [Nat.zero_add]; simpa using hu⟩⟩
theorem AH.set {g off AV : Nat} {cs : Array Value} (hl : xs.length = n * size) (hg : w.heap[g]? = some (.cells cs e (0, 0))) (h1 : n ≤ AV) (h2 : off + AV * size ≤ cs.size) (h3 : ∀ j u, xs[j]? = some u → cs[off + j]? = some u) (k : Nat) (u : Value) :
 AH (w.setCell ⟨g, off + k, none⟩ u) e size (.slice (some ⟨g, off, none⟩) n AV) n (xs.set k u) := by
 refine ⟨by simpa using hl, .inr ⟨g, off, AV, cs.setIfInBounds (off + k) u, rfl, AI hg _ _, h1, by simpa using h2, fun j x hx => ?_⟩⟩
 by_cases hjk : k = j
 · subst hjk
   have hk : k < xs.length := by have := (List.getElem?_eq_some_iff.1 hx).1; simpa using this
   have : (xs.set k u)[k]? = some u := by simp [hk]
   rw [this] at hx
   have hlt : off + k < cs.size := (Array.getElem?_eq_some_iff.1 (h3 k _ (List.getElem?_eq_getElem hk))).1
   rw [Array.getElem?_setIfInBounds_self_of_lt hlt, hx]
 · rw [List.getElem?_set_ne hjk] at hx
   rw [Array.getElem?_setIfInBounds_ne (by omega)]
   exact h3 j x hx
theorem Fp (g o j : Nat) : (⟨g, o, none⟩ : Addr).add j = ⟨g, o + j, none⟩ := by unfold Addr.add; split <;> simp_all
theorem AH.src {P : Program} (h : AH w e size v n xs) {t e' : TypeId} (hk : P.underlying t = some (.slice e')) (h1 : ∀ u ∈ xs, u.oneCell' = true) : Go.Src P size t v n xs w := by
 rcases h.2 with ⟨rfl, rfl⟩ | ⟨g, off, AV, cs, rfl, hg, _, _, hc⟩
 · have : xs = [] := List.eq_nil_of_length_eq_zero (by have := h.1; omega)
   subst this
   exact Go.Src.ofNil w hk 0
 · exact Go.Src.ofSlice w hk _ n AV xs h.1 (fun j u hu => by rw [Fp]; exact AD hg _ (hc j u hu)) h1
def Bf (w : World) (v v' : Value) : Prop := v'.ownBlock = v.ownBlock ∨ ∃ g, v'.ownBlock = some g ∧ w.heap.size ≤ g
theorem Sq {P : Program} (t tx ty : TypeId) (i : TypeInfo) (z : Value) (bytes : Nat) (ht : P.underlying t = some (.slice e)) (hi : P.info? e = some i) (hz : i.zero = some z)
 (hsize : i.size = size) (hby : i.bytes = bytes) (hzs : z.cells.size = size) (hr : AH w e size v n xs) (x : Value) (m : Nat) (news : List Value) (hs : Go.Src P size tx x m news w) (hb : (n + m) * bytes ≤ 140737488355328) (h63 : n + m ≤ 1000000) :
 ∃ v' w', (Builtin.append_ #[t, tx] ty #[v, x]).run P w = .ok v' w' ∧ AH w' e size v' (n + m) (xs ++ news) ∧ w.grownBy w' v.ownBlock ∧ Bf w v v' := by
 subst hsize
 subst hby
 have hlen : (xs ++ news).length = (n + m) * i.size := by rw [List.length_append, hr.1, hs.newsLen, Nat.add_mul]
 have grow : ∀ (A : Option Addr) (AV : Nat), v = .slice A n AV → AV < n + m → (Builtin.firstCells i.size n v).run P w.drew = .ok xs.toArray w.drew →
  ∃ v' w', (Builtin.append_ #[t, tx] ty #[v, x]).run P w = .ok v' w' ∧ AH w' e i.size v' (n + m) (xs ++ news) ∧ w.grownBy w' v.ownBlock ∧ Bf w v v' := by
  rintro A AV rfl hc hold
  have hrun := run_append_grow_src w t tx ty e i z ht hi hz A n AV xs hold x m news hs hc (by omega) (growslice_fits hc hb)
  have hge := grownCap_ge w (n + m) AV e
  refine ⟨_, _, hrun, ⟨hlen, .inr ⟨w.heap.size, 0, _, _, rfl, heap_alloc_new w.drew _, hge, ?_, ?_⟩⟩, ⟨rfl, rfl, rfl, by simp, fun k hk _ => Below.heap_alloc w.drew _ k hk⟩, .inr ⟨_, rfl, Nat.le_refl _⟩⟩
  · simp only [Array.size_append, List.size_toArray, size_zeroCells, hzs, hlen, ← Nat.add_mul]
    rw [Nat.zero_add]
    exact Nat.mul_le_mul_right _ (by omega)
  · intro j u hu
    rw [Nat.zero_add, Array.getElem?_append_left (by simpa using (List.getElem?_eq_some_iff.1 hu).1)]
    simpa using hu
 rcases hr.2 with ⟨rfl, rfl⟩ | ⟨g, off, AV, cs, rfl, hg, hnc, hfit, hc⟩
 · have hx : xs = [] := List.eq_nil_of_length_eq_zero (by have := hr.1; omega)
   subst hx
   by_cases hm : m = 0
   · subst hm
     have hn : news = [] := List.eq_nil_of_length_eq_zero (by have := hs.newsLen; omega)
     subst hn
     refine ⟨.slice none 0 0, w, ?_, AH.nil w e i.size, ⟨rfl, rfl, rfl, Nat.le_refl _, fun _ _ _ => rfl⟩, .inl rfl⟩
     have := hs.len w
     have h2 := hs.cells
     rcases hs.kind with ⟨e', hk⟩ | hk <;> simp [Builtin.append_, run_underlying ht, run_underlying hk, sizeOf, typeInfo, hi, this, h2]
   · exact grow none 0 rfl (by omega) (run_firstCells_none w.drew i.size 0 0 0)
 · by_cases hroom : n + m ≤ AV
   · have hmul : n * i.size + m * i.size ≤ AV * i.size := by rw [← Nat.add_mul]; exact Nat.mul_le_mul_right _ hroom
     have hfit2 : off + n * i.size + news.length ≤ cs.size := by rw [hs.newsLen]; omega
     have hrun := run_append_room_src w t tx ty e i ht hi g off n AV x m news hs hroom (fun j hj => by
      have : off + n * i.size + j < cs.size := by omega
      rw [AD hg _ (Array.getElem?_eq_getElem this)]; rfl) (fun j _ => Aq hg _)
     obtain ⟨cs', h1, h2, h3, h4⟩ := Hb news (off + n * i.size) w cs hg hfit2
     refine ⟨_, _, hrun, ⟨hlen, .inr ⟨g, off, AV, cs', rfl, h1, hroom, by omega, fun j u hu => ?_⟩⟩, ⟨World.os_setCells _ _ _ _, ?_, World.output_setCells _ _ _ _, ?_, fun k hk hne => World.heap_setCells_other w g _ news hk (fun e => hne (by simp [Value.ownBlock, e]))⟩, .inl rfl⟩
     · by_cases hj : j < xs.length
       · rw [List.getElem?_append_left hj] at hu
         rw [h3 _ (by have := hr.1; omega)]
         exact hc j u hu
       · rw [List.getElem?_append_right (by omega)] at hu
         have := h4 _ u hu
         rw [hr.1] at this hj
         rwa [show off + n * i.size + (j - n * i.size) = off + j by omega] at this
     · exact Ha news _ w
     · exact Dl news _ w
   · refine grow _ AV rfl (by omega) ?_
     exact run_firstCells_some w.drew i.size n ⟨g, off, none⟩ n AV xs hr.1 (fun j u hu => by rw [Fp]; exact AD (w := w.drew) hg _ (hc j u hu))
theorem Ph {P : Program} {o : Oper} {a : Act} {K : Act → World → Prop} {Q : Exit → Act → World → Prop} (s x : Operand) (t tx : TypeId)
 (ho : o.op = .call { callee := .builtin .append, args := #[s, x], argTypes := #[t, tx] }) (i : TypeInfo) (z : Value) (bytes : Nat) (ht : P.underlying t = some (.slice e)) (hi : P.info? e = some i) (hz : i.zero = some z)
 (hsize : i.size = size) (hby : i.bytes = bytes) (hzs : z.cells.size = size) (hs : a.eval s = v) (hr : AH w e size v n xs) (X : Value) (m : Nat) (news : List Value) (hx : a.eval x = X) (hsrc : Go.Src P size tx X m news w) (hb : (n + m) * bytes ≤ 140737488355328) (h63 : n + m ≤ 1000000)
 (h : ∀ v' w', AH w' e size v' (n + m) (xs ++ news) → w.grownBy w' v.ownBlock → Bf w v v' → K (a.put o.dst v') w') : o.wp P a w K Q := by
 obtain ⟨v', w', hrun, h1, h2, h3⟩ := Sq (P := P) t tx o.type i z bytes ht hi hz hsize hby hzs hr X m news hsrc hb h63
 unfold Oper.wp
 simp only [execOp, ho, resolve, invoke, builtin, Sem.run_bind, Sem.run_pure, Result.andThen_ok, List.map_toArray, List.map_cons, List.map_nil, hs, hx, hrun]
 exact h v' w' h1 h2 h3
end
theorem AW {w w' : World} {e : TypeId} {size n : Nat} {v : Value} {xs : List Value} (h : AH w e size v n xs) (hg : w.grownBy w' v.ownBlock) {k : Nat} {cs : Array Value} {e' : TypeId} {f : Nat × Nat} (hk : w.heap[k]? = some (.cells cs e' f)) (hne : e' ≠ e) : w'.heap[k]? = some (.cells cs e' f) :=
 (hg.block k (AF hk) (fun hh => by
  obtain ⟨cs', h'⟩ := h.type k hh.symm
  exact AG hk h' hne rfl)).trans hk
theorem AH.beside {w w' : World} {e1 s1 n1 e2 s2 n2 : Nat} {v1 v2 : Value} {x1 x2 : List Value} (h : AH w e1 s1 v1 n1 x1) (h2 : AH w e2 s2 v2 n2 x2) (hne : e1 ≠ e2) (hg : w.grownBy w' v2.ownBlock) {bb : Nat} {cs : Array Value} {eb : TypeId} {f : Nat × Nat} (hb : w.heap[bb]? = some (.cells cs eb f)) (hb1 : eb ≠ e1) (k : Nat) (u : Value) :
 AH (w'.setCell ⟨bb, k, none⟩ u) e1 s1 v1 n1 x1 := by
 refine h.kept fun j hj => ?_
 obtain ⟨cs', h'⟩ := h.type j hj
 rw [Vz _ _ _ _ (show j ≠ bb from fun e => AG hb h' hb1 e.symm), AW h2 hg h' hne, h']
theorem AH.stored {w : World} {e1 s1 n1 : Nat} {v1 : Value} {x1 : List Value} (h : AH w e1 s1 v1 n1 x1) {bb : Nat} {cs : Array Value} {eb : TypeId} {f : Nat × Nat} (hb : w.heap[bb]? = some (.cells cs eb f)) (hb1 : eb ≠ e1) (k : Nat) (u : Value) :
 AH (w.setCell ⟨bb, k, none⟩ u) e1 s1 v1 n1 x1 := by
 refine h.kept fun j hj => ?_
 obtain ⟨cs', h'⟩ := h.type j hj
 exact Vz _ _ _ _ (show j ≠ bb from fun e => AG hb h' hb1 e.symm)
def Qz (Av : Nat → Prop) (v : Value) : Prop := ∀ k, v.ownBlock = some k → ¬ Av k
theorem Li {Av : Nat → Prop} {w : World} {v v' : Value} (h : Qz Av v) (hv : Bf w v v') (hA : ∀ k, Av k → k < w.heap.size) : Qz Av v' := by
 intro k hk
 rcases hv with e | ⟨g, e, hg⟩
 · exact h k (e ▸ hk)
 · rw [e] at hk
   cases hk
   exact fun ha => absurd (hA _ ha) (by omega)
structure ET (P : Program) (t e : TypeId) (size bytes : Nat) : Prop where
 under : P.underlying t = some (.slice e)
 info : ∃ i z, P.info? e = some i ∧ i.zero = some z ∧ i.size = size ∧ i.bytes = bytes ∧ z.cells.size = size
theorem ET.of {P : Program} {t e : TypeId} {z : Value} {size bytes : Nat} (hu : P.underlying t = some (.slice e)) (h : (P.info? e).map (fun i => (i.zero, i.size, i.bytes)) = some (some z, size, bytes)) (hz : z.cells.size = size) : ET P t e size bytes := by
 obtain ⟨i0, h0, h1, h2, h3⟩ := info_parts h
 exact ⟨hu, i0, z, h0, h1, h2, h3, hz⟩
theorem Ab {P : Program} {w : World} {e size bytes : Nat} {ops : Array Oper} {rest : List Oper} {o : Oper} {a : Act} {Q : Exit → Act → World → Prop} (hgd : o.guard = none) (s x : Operand) (t tx : TypeId)
 (ho : o.op = .call { callee := .builtin .append, args := #[s, x], argTypes := #[t, tx] }) (hE : ET P t e size bytes) (v : Value) (n : Nat) (xs : List Value) (hs : a.eval s = v) (hr : AH w e size v n xs) (X : Value) (m : Nat) (news : List Value) (hx : a.eval x = X) (hsrc : Go.Src P size tx X m news w)
 (h63 : n + m ≤ 1000000) (hb : (n + m) * bytes ≤ 140737488355328)
 (h : ∀ A' c' w', AH w' e size (.slice A' (n + m) c') (n + m) (xs ++ news) → w.grownBy w' v.ownBlock → Bf w v (.slice A' (n + m) c') → wpList P ops Q rest (a.put o.dst (.slice A' (n + m) c')) w') : wpList P ops Q (o :: rest) a w := by
 obtain ⟨hu, i, z, h0, h1, h2, h3, h4⟩ := hE
 exact wpList_plain hgd fun K hK => Ph s x t tx ho i z bytes hu h0 h1 h2 h3 h4 hs hr X m news hx hsrc hb h63 fun v' w' k1 k2 k3 => by
  obtain ⟨A', c', rfl⟩ := k1.form
  exact hK _ _ (h A' c' w' k1 k2 k3)
theorem Bb {P : Program} {w : World} {e size bytes : Nat} {ops : Array Oper} {o : Oper} {a : Act} {K : Act → World → Prop} {Q : Exit → Act → World → Prop} {E : Prop} (hgd : o.guard = none) (s x : Operand) (t tx : TypeId)
 (ho : o.op = .call { callee := .builtin .append, args := #[s, x], argTypes := #[t, tx] }) (hE : ET P t e size bytes) (v : Value) (n : Nat) (xs : List Value) (hs : a.eval s = v) (hr : AH w e size v n xs) (X : Value) (m : Nat) (news : List Value) (hx : a.eval x = X) (hsrc : Go.Src P size tx X m news w)
 (h63 : n + m ≤ 1000000) (hb : (n + m) * bytes ≤ 140737488355328)
 (h : ∀ A' c' w', AH w' e size (.slice A' (n + m) c') (n + m) (xs ++ news) → w.grownBy w' v.ownBlock → Bf w v (.slice A' (n + m) c') → K (a.put o.dst (.slice A' (n + m) c')) w') :
 if Region.wanted o (yielded ops a.tmps) = true then Oper.wp P o a w K Q else E := by
 have hw : Region.wanted o (yielded ops a.tmps) = true := by simp [Region.wanted, hgd]
 rw [if_pos hw]
 obtain ⟨hu, i, z, h0, h1, h2, h3, h4⟩ := hE
 exact Ph s x t tx ho i z bytes hu h0 h1 h2 h3 h4 hs hr X m news hx hsrc hb h63 fun v' w' k1 k2 k3 => by
  obtain ⟨A', c', rfl⟩ := k1.form
  exact h A' c' w' k1 k2 k3
end Go.Proofs.YtkoplblbeapfgaaGreatDoor
