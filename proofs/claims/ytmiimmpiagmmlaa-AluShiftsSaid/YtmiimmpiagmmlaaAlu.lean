/-
  The contracts of bellows/alu: what units, Do and Goes return for any words, and that they only make new memory. Conditions: the words are in uint64's range.
-/
import Derived.Test.YtmiimmpiagmmlaaChecked
import Derived.WalkKit
import Derived.WalkLawsBesides
import Derived.MapKept
import Derived.Laws.EntriesVeiled
namespace Go.Proofs.Ytmiimmpiagmmlaa
open Go.RowKit
set_option linter.unusedVariables false

theorem run_checkKey_i64 {P : Program} {k : TypeId} (hk : P.underlying k = some (.int .i64)) (em : Bool) (v : Value) (w : World) :
    (Instr.checkKey em 10000 k v).run P w = .ok () w := by
  show (Instr.checkKey em (9999 + 1) k v).run P w = .ok () w
  unfold Instr.checkKey
  simp [run_underlying hk]
theorem run_findKey_i64 {P : Program} {k : TypeId} (hk : P.underlying k = some (.int .i64)) (v : Value) (es : List MapEntry) (r : Option (Nat × Value)) (w : World)
    (hf : Instr.findNow (.int .i64) v es 0 = some r) : (Instr.findKey k v es).run P w = .ok r w := by
  unfold Instr.findKey
  simp [run_underlying hk, hf]
theorem run_getObj_new {P : Program} (w : World) (es : Array MapEntry) (c : Nat) : (getObj w.heap.size).run P (w.alloc (.map es c)) = .ok (.map es c) (w.alloc (.map es c)) :=
  MapKept.run_getObj_map (heap_alloc_new w _)
theorem run_setObj_new {P : Program} (w : World) (es : Array MapEntry) (c : Nat) (o' : Obj) : (setObj w.heap.size o').run P (w.alloc (.map es c)) = .ok () (w.alloc o') := by
  rw [MapKept.run_setObj_map o' (heap_alloc_new w _)]
  have h : (w.alloc (.map es c)).heap.setIfInBounds w.heap.size o' = (w.alloc o').heap := by
    show (w.heap.push _).setIfInBounds w.heap.size o' = w.heap.push o'
    apply Array.ext'
    simp
  rw [h]
  rfl
theorem run_insert_fresh {P : Program} {t k e : TypeId} (ht : P.underlying t = some (.map k e)) (hk : P.underlying k = some (.int .i64)) (w : World) (es : Array MapEntry) (c : Nat) (x : Int) (v : Value)
    (hf : Instr.findNow (.int .i64) (.int .i64 x) es.toList 0 = some none) :
    (Instr.mapUpdate t (.map (some w.heap.size)) (.int .i64 x) v).run P (w.alloc (.map es c)) = .ok () (w.alloc (.map (es.push { key := .int .i64 x, val := v, born := c }) (c + 1))) := by
  unfold Instr.mapUpdate
  have hc := fun W => run_checkKey_i64 (P := P) hk false (.int .i64 x) W
  have hg := fun W => run_findKey_i64 (P := P) hk (.int .i64 x) es.toList none W hf
  simp [run_underlying ht, hc, hg, run_getObj_new, run_setObj_new]

/-- What a call may do to the world here: new blocks, none of them frozen. -/
def Mk (w w' : World) : Prop := Below w.heap.size w w' ∧ ∀ a, w'.frozen? a = w.frozen? a
theorem Mk.refl (w : World) : Mk w w := ⟨Below.refl _ _, fun _ => rfl⟩
theorem Mk.trans {a b c : World} (h : Mk a b) (k : Mk b c) : Mk a c := ⟨h.1.trans (k.1.mono h.1.size), fun x => (k.2 x).trans (h.2 x)⟩
theorem Mk.alloc {a w : World} (h : Mk a w) (c : Array Value) (t : TypeId) : Mk a (w.alloc (.cells c t)) :=
  ⟨h.1.alloc h.1.size _, fun x => (frozen?_alloc_cells _ _ _ x).trans (h.2 x)⟩
theorem frozen?_alloc_map (w : World) (es : Array MapEntry) (n : Nat) (a : Addr) : (w.alloc (.map es n)).frozen? a = w.frozen? a := by
  by_cases h : a.block = w.heap.size
  · have e1 : (w.alloc (.map es n)).heap[a.block]? = some (.map es n) := by rw [h]; exact (MapKept.heap_alloc w _).1
    have e2 : w.heap[a.block]? = none := by rw [h]; simp
    simp [World.frozen?, e1, e2]
  · exact World.frozen?_alloc_old _ _ _ h
theorem Mk.allocMap {a w : World} (h : Mk a w) (es : Array MapEntry) (n : Nat) : Mk a (w.alloc (.map es n)) :=
  ⟨h.1.alloc h.1.size _, fun x => (frozen?_alloc_map _ _ _ x).trans (h.2 x)⟩
theorem Mk.drew {a w : World} (h : Mk a w) : Mk a w.drew := ⟨h.1.drew, h.2⟩
theorem Mk.drewN {a w : World} (h : Mk a w) (n : Nat) : Mk a (w.drewN n) := ⟨⟨h.1.os, h.1.tape, h.1.output, h.1.size, h.1.block⟩, h.2⟩
theorem Mk.setCell {a w : World} (h : Mk a w) {p : Addr} (hp : a.heap.size ≤ p.block) (v : Value) : Mk a (w.setCell p v) :=
  ⟨h.1.setCell hp v, fun x => (World.frozen?_setCell _ _ _ _).trans (h.2 x)⟩
theorem Mk.grown {a w : World} (h : Mk a w) : Grown a w := ⟨h.1.frame _, h.2, h.1.size⟩

def ents : Array MapEntry := #[{ key := .int .i64 2, val := .agg #[.func (.func 14) #[] #[]], born := 0 }, { key := .int .i64 3, val := .agg #[.func (.func 15) #[] #[]], born := 1 }, { key := .int .i64 4, val := .agg #[.func (.func 16) #[] #[]], born := 2 }, { key := .int .i64 5, val := .agg #[.func (.func 17) #[] #[]], born := 3 }, { key := .int .i64 6, val := .agg #[.func (.func 18) #[] #[]], born := 4 }, { key := .int .i64 7, val := .agg #[.func (.func 19) #[] #[]], born := 5 }]
set_option maxHeartbeats 400000 in
theorem units_any (w : World) : Calls Try.prog 13 #[] w fun e w' => e = .returned (.map (some w.heap.size)) ∧ w.alloc (.map ents 6) = w' := by
  have hmm := @run_makeMap Try.prog
  have h2 : ∀ W : World, (Instr.mapUpdate 44 (.map (some W.heap.size)) (.int .i64 2) (.agg #[.func (.func 14) #[] #[]])).run Try.prog (W.alloc (.map #[] 0)) = .ok () (W.alloc (.map #[{ key := .int .i64 2, val := .agg #[.func (.func 14) #[] #[]], born := 0 }] 1)) :=
    fun W => run_insert_fresh Try.underlying44 Try.underlying3 W _ _ _ _ (by rfl)
  have h3 : ∀ W : World, (Instr.mapUpdate 44 (.map (some W.heap.size)) (.int .i64 3) (.agg #[.func (.func 15) #[] #[]])).run Try.prog (W.alloc (.map #[{ key := .int .i64 2, val := .agg #[.func (.func 14) #[] #[]], born := 0 }] 1)) = .ok () (W.alloc (.map #[{ key := .int .i64 2, val := .agg #[.func (.func 14) #[] #[]], born := 0 }, { key := .int .i64 3, val := .agg #[.func (.func 15) #[] #[]], born := 1 }] 2)) :=
    fun W => run_insert_fresh Try.underlying44 Try.underlying3 W _ _ _ _ (by rfl)
  have h4 : ∀ W : World, (Instr.mapUpdate 44 (.map (some W.heap.size)) (.int .i64 4) (.agg #[.func (.func 16) #[] #[]])).run Try.prog (W.alloc (.map #[{ key := .int .i64 2, val := .agg #[.func (.func 14) #[] #[]], born := 0 }, { key := .int .i64 3, val := .agg #[.func (.func 15) #[] #[]], born := 1 }] 2)) = .ok () (W.alloc (.map #[{ key := .int .i64 2, val := .agg #[.func (.func 14) #[] #[]], born := 0 }, { key := .int .i64 3, val := .agg #[.func (.func 15) #[] #[]], born := 1 }, { key := .int .i64 4, val := .agg #[.func (.func 16) #[] #[]], born := 2 }] 3)) :=
    fun W => run_insert_fresh Try.underlying44 Try.underlying3 W _ _ _ _ (by rfl)
  have h5 : ∀ W : World, (Instr.mapUpdate 44 (.map (some W.heap.size)) (.int .i64 5) (.agg #[.func (.func 17) #[] #[]])).run Try.prog (W.alloc (.map #[{ key := .int .i64 2, val := .agg #[.func (.func 14) #[] #[]], born := 0 }, { key := .int .i64 3, val := .agg #[.func (.func 15) #[] #[]], born := 1 }, { key := .int .i64 4, val := .agg #[.func (.func 16) #[] #[]], born := 2 }] 3)) = .ok () (W.alloc (.map #[{ key := .int .i64 2, val := .agg #[.func (.func 14) #[] #[]], born := 0 }, { key := .int .i64 3, val := .agg #[.func (.func 15) #[] #[]], born := 1 }, { key := .int .i64 4, val := .agg #[.func (.func 16) #[] #[]], born := 2 }, { key := .int .i64 5, val := .agg #[.func (.func 17) #[] #[]], born := 3 }] 4)) :=
    fun W => run_insert_fresh Try.underlying44 Try.underlying3 W _ _ _ _ (by rfl)
  have h6 : ∀ W : World, (Instr.mapUpdate 44 (.map (some W.heap.size)) (.int .i64 6) (.agg #[.func (.func 18) #[] #[]])).run Try.prog (W.alloc (.map #[{ key := .int .i64 2, val := .agg #[.func (.func 14) #[] #[]], born := 0 }, { key := .int .i64 3, val := .agg #[.func (.func 15) #[] #[]], born := 1 }, { key := .int .i64 4, val := .agg #[.func (.func 16) #[] #[]], born := 2 }, { key := .int .i64 5, val := .agg #[.func (.func 17) #[] #[]], born := 3 }] 4)) = .ok () (W.alloc (.map #[{ key := .int .i64 2, val := .agg #[.func (.func 14) #[] #[]], born := 0 }, { key := .int .i64 3, val := .agg #[.func (.func 15) #[] #[]], born := 1 }, { key := .int .i64 4, val := .agg #[.func (.func 16) #[] #[]], born := 2 }, { key := .int .i64 5, val := .agg #[.func (.func 17) #[] #[]], born := 3 }, { key := .int .i64 6, val := .agg #[.func (.func 18) #[] #[]], born := 4 }] 5)) :=
    fun W => run_insert_fresh Try.underlying44 Try.underlying3 W _ _ _ _ (by rfl)
  have h7 : ∀ W : World, (Instr.mapUpdate 44 (.map (some W.heap.size)) (.int .i64 7) (.agg #[.func (.func 19) #[] #[]])).run Try.prog (W.alloc (.map #[{ key := .int .i64 2, val := .agg #[.func (.func 14) #[] #[]], born := 0 }, { key := .int .i64 3, val := .agg #[.func (.func 15) #[] #[]], born := 1 }, { key := .int .i64 4, val := .agg #[.func (.func 16) #[] #[]], born := 2 }, { key := .int .i64 5, val := .agg #[.func (.func 17) #[] #[]], born := 3 }, { key := .int .i64 6, val := .agg #[.func (.func 18) #[] #[]], born := 4 }] 5)) = .ok () (W.alloc (.map #[{ key := .int .i64 2, val := .agg #[.func (.func 14) #[] #[]], born := 0 }, { key := .int .i64 3, val := .agg #[.func (.func 15) #[] #[]], born := 1 }, { key := .int .i64 4, val := .agg #[.func (.func 16) #[] #[]], born := 2 }, { key := .int .i64 5, val := .agg #[.func (.func 17) #[] #[]], born := 3 }, { key := .int .i64 6, val := .agg #[.func (.func 18) #[] #[]], born := 4 }, { key := .int .i64 7, val := .agg #[.func (.func 19) #[] #[]], born := 5 }] 6)) :=
    fun W => run_insert_fresh Try.underlying44 Try.underlying3 W _ _ _ _ (by rfl)
  go_enter Try.func13, Try.ntmps13
  go_wp2_with fail
  go_ret
  exact ⟨rfl, rfl⟩

set_option maxHeartbeats 400000 in
theorem fn14_any (b c : Int) (w : World) (hb : 0 ≤ b ∧ b < 18446744073709551616) (hc : 0 ≤ c ∧ c < 18446744073709551616) : Calls Try.prog 14 #[.int .u64 b, .int .u64 c] w fun e w' => e = .returned (.int .u64 (IntKind.u64.wrap (b + c))) ∧ w = w' := by
  go_enter Try.func14, Try.ntmps14
  go_wp2
  go_ret
  exact ⟨rfl, rfl⟩

set_option maxHeartbeats 400000 in
theorem fn15_any (b c : Int) (w : World) (hb : 0 ≤ b ∧ b < 18446744073709551616) (hc : 0 ≤ c ∧ c < 18446744073709551616) : Calls Try.prog 15 #[.int .u64 b, .int .u64 c] w fun e w' => e = .returned (.int .u64 (IntKind.u64.wrap (b - c))) ∧ w = w' := by
  go_enter Try.func15, Try.ntmps15
  go_wp2
  go_ret
  exact ⟨rfl, rfl⟩

set_option maxHeartbeats 400000 in
theorem fn16_any (b c : Int) (w : World) (hb : 0 ≤ b ∧ b < 18446744073709551616) (hc : 0 ≤ c ∧ c < 18446744073709551616) : Calls Try.prog 16 #[.int .u64 b, .int .u64 c] w fun e w' => e = .returned (.int .u64 (bits .and .u64 b c)) ∧ w = w' := by
  go_enter Try.func16, Try.ntmps16
  go_wp2
  go_ret
  exact ⟨rfl, rfl⟩

set_option maxHeartbeats 400000 in
theorem fn17_any (b c : Int) (w : World) (hb : 0 ≤ b ∧ b < 18446744073709551616) (hc : 0 ≤ c ∧ c < 18446744073709551616) : Calls Try.prog 17 #[.int .u64 b, .int .u64 c] w fun e w' => e = .returned (.int .u64 (bits .xor .u64 b c)) ∧ w = w' := by
  go_enter Try.func17, Try.ntmps17
  go_wp2
  go_ret
  exact ⟨rfl, rfl⟩

set_option maxHeartbeats 400000 in
theorem fn18_any (b c : Int) (w : World) (hb : 0 ≤ b ∧ b < 18446744073709551616) (hc : 0 ≤ c ∧ c < 18446744073709551616) : Calls Try.prog 18 #[.int .u64 b, .int .u64 c] w fun e w' => e = .returned (.int .u64 (IntKind.u64.wrap (b * 2 ^ (c % 64).toNat))) ∧ w = w' := by
  go_enter Try.func18, Try.ntmps18
  go_wp2
  go_ret
  exact ⟨rfl, rfl⟩

set_option maxHeartbeats 400000 in
theorem fn19_any (b c : Int) (w : World) (hb : 0 ≤ b ∧ b < 18446744073709551616) (hc : 0 ≤ c ∧ c < 18446744073709551616) : Calls Try.prog 19 #[.int .u64 b, .int .u64 c] w fun e w' => e = .returned (.int .u64 (b / 2 ^ (c % 64).toNat)) ∧ w = w' := by
  go_enter Try.func19, Try.ntmps19
  go_wp2
  go_ret
  exact ⟨rfl, rfl⟩

def doV (op b c : Int) : Int := if op = 2 then IntKind.u64.wrap (b + c) else if op = 3 then IntKind.u64.wrap (b - c) else if op = 4 then bits .and .u64 b c else if op = 5 then bits .xor .u64 b c else if op = 6 then IntKind.u64.wrap (b * 2 ^ (c % 64).toNat) else if op = 7 then b / 2 ^ (c % 64).toNat else 0
def doOk (op : Int) : Bool := decide (2 ≤ op ∧ op ≤ 7)

theorem run_lookup_new {P : Program} {t k e : TypeId} (ht : P.underlying t = some (.map k e)) (hk : P.underlying k = some (.int .i64)) (w : World) (es : Array MapEntry) (c : Nat) (x : Int) (i : Nat) (v : Value)
    (hf : Instr.findNow (.int .i64) (.int .i64 x) es.toList 0 = some (some (i, v))) :
    (Instr.lookup t (.map (some w.heap.size)) (.int .i64 x) true).run P (w.alloc (.map es c)) = .ok (.tuple #[v, .bool true]) (w.alloc (.map es c)) := by
  unfold Instr.lookup
  have hc := fun em W => run_checkKey_i64 (P := P) hk em (.int .i64 x) W
  have hg := fun W => run_findKey_i64 (P := P) hk (.int .i64 x) es.toList _ W hf
  simp [run_underlying ht, hc, hg, run_getObj_new]
theorem run_lookup_none {P : Program} {t k e : TypeId} (ht : P.underlying t = some (.map k e)) (hk : P.underlying k = some (.int .i64)) (w : World) (es : Array MapEntry) (c : Nat) (x : Int) (z : Value)
    (hf : Instr.findNow (.int .i64) (.int .i64 x) es.toList 0 = some none) (hz : ∀ W, (zeroValue e).run P W = .ok z W) :
    (Instr.lookup t (.map (some w.heap.size)) (.int .i64 x) true).run P (w.alloc (.map es c)) = .ok (.tuple #[z, .bool false]) (w.alloc (.map es c)) := by
  unfold Instr.lookup
  have hc := fun em W => run_checkKey_i64 (P := P) hk em (.int .i64 x) W
  have hg := fun W => run_findKey_i64 (P := P) hk (.int .i64 x) es.toList _ W hf
  simp [run_underlying ht, hc, hg, run_getObj_new, hz]

set_option maxHeartbeats 400000 in
theorem do_2 (b c : Int) (w : World) (hb : 0 ≤ b ∧ b < 18446744073709551616) (hc : 0 ≤ c ∧ c < 18446744073709551616) : Calls Try.prog 7 #[.int .i64 2, .int .u64 b, .int .u64 c] w fun e w' => e = .returned (.tuple #[.int .u64 (IntKind.u64.wrap (b + c)), .bool true]) ∧ Mk w w' := by
  have hl : ∀ W : World, (Instr.lookup 44 (.map (some W.heap.size)) (.int .i64 2) true).run Try.prog (W.alloc (.map ents 6)) = .ok (.tuple #[.agg #[.func (.func 14) #[] #[]], .bool true]) (W.alloc (.map ents 6)) :=
    fun W => run_lookup_new Try.underlying44 Try.underlying3 W ents 6 2 0 _ (by rfl)
  go_enter Try.func7, Try.ntmps7
  go_wp2_with (first | (go_at_call 13; refine (units_any _).mono ?_; rintro e w1 ⟨rfl, rfl⟩) | (go_at_call 14; refine (fn14_any _ _ _ hb hc).mono ?_; rintro e w1 ⟨rfl, rfl⟩))
  go_ret2
  exact ⟨rfl, ((Mk.refl w).allocMap _ _).alloc _ _⟩

set_option maxHeartbeats 400000 in
theorem do_3 (b c : Int) (w : World) (hb : 0 ≤ b ∧ b < 18446744073709551616) (hc : 0 ≤ c ∧ c < 18446744073709551616) : Calls Try.prog 7 #[.int .i64 3, .int .u64 b, .int .u64 c] w fun e w' => e = .returned (.tuple #[.int .u64 (IntKind.u64.wrap (b - c)), .bool true]) ∧ Mk w w' := by
  have hl : ∀ W : World, (Instr.lookup 44 (.map (some W.heap.size)) (.int .i64 3) true).run Try.prog (W.alloc (.map ents 6)) = .ok (.tuple #[.agg #[.func (.func 15) #[] #[]], .bool true]) (W.alloc (.map ents 6)) :=
    fun W => run_lookup_new Try.underlying44 Try.underlying3 W ents 6 3 1 _ (by rfl)
  go_enter Try.func7, Try.ntmps7
  go_wp2_with (first | (go_at_call 13; refine (units_any _).mono ?_; rintro e w1 ⟨rfl, rfl⟩) | (go_at_call 15; refine (fn15_any _ _ _ hb hc).mono ?_; rintro e w1 ⟨rfl, rfl⟩))
  go_ret2
  exact ⟨rfl, ((Mk.refl w).allocMap _ _).alloc _ _⟩

set_option maxHeartbeats 400000 in
theorem do_4 (b c : Int) (w : World) (hb : 0 ≤ b ∧ b < 18446744073709551616) (hc : 0 ≤ c ∧ c < 18446744073709551616) : Calls Try.prog 7 #[.int .i64 4, .int .u64 b, .int .u64 c] w fun e w' => e = .returned (.tuple #[.int .u64 (bits .and .u64 b c), .bool true]) ∧ Mk w w' := by
  have hl : ∀ W : World, (Instr.lookup 44 (.map (some W.heap.size)) (.int .i64 4) true).run Try.prog (W.alloc (.map ents 6)) = .ok (.tuple #[.agg #[.func (.func 16) #[] #[]], .bool true]) (W.alloc (.map ents 6)) :=
    fun W => run_lookup_new Try.underlying44 Try.underlying3 W ents 6 4 2 _ (by rfl)
  go_enter Try.func7, Try.ntmps7
  go_wp2_with (first | (go_at_call 13; refine (units_any _).mono ?_; rintro e w1 ⟨rfl, rfl⟩) | (go_at_call 16; refine (fn16_any _ _ _ hb hc).mono ?_; rintro e w1 ⟨rfl, rfl⟩))
  go_ret2
  exact ⟨rfl, ((Mk.refl w).allocMap _ _).alloc _ _⟩

set_option maxHeartbeats 400000 in
theorem do_5 (b c : Int) (w : World) (hb : 0 ≤ b ∧ b < 18446744073709551616) (hc : 0 ≤ c ∧ c < 18446744073709551616) : Calls Try.prog 7 #[.int .i64 5, .int .u64 b, .int .u64 c] w fun e w' => e = .returned (.tuple #[.int .u64 (bits .xor .u64 b c), .bool true]) ∧ Mk w w' := by
  have hl : ∀ W : World, (Instr.lookup 44 (.map (some W.heap.size)) (.int .i64 5) true).run Try.prog (W.alloc (.map ents 6)) = .ok (.tuple #[.agg #[.func (.func 17) #[] #[]], .bool true]) (W.alloc (.map ents 6)) :=
    fun W => run_lookup_new Try.underlying44 Try.underlying3 W ents 6 5 3 _ (by rfl)
  go_enter Try.func7, Try.ntmps7
  go_wp2_with (first | (go_at_call 13; refine (units_any _).mono ?_; rintro e w1 ⟨rfl, rfl⟩) | (go_at_call 17; refine (fn17_any _ _ _ hb hc).mono ?_; rintro e w1 ⟨rfl, rfl⟩))
  go_ret2
  exact ⟨rfl, ((Mk.refl w).allocMap _ _).alloc _ _⟩

set_option maxHeartbeats 400000 in
theorem do_6 (b c : Int) (w : World) (hb : 0 ≤ b ∧ b < 18446744073709551616) (hc : 0 ≤ c ∧ c < 18446744073709551616) : Calls Try.prog 7 #[.int .i64 6, .int .u64 b, .int .u64 c] w fun e w' => e = .returned (.tuple #[.int .u64 (IntKind.u64.wrap (b * 2 ^ (c % 64).toNat)), .bool true]) ∧ Mk w w' := by
  have hl : ∀ W : World, (Instr.lookup 44 (.map (some W.heap.size)) (.int .i64 6) true).run Try.prog (W.alloc (.map ents 6)) = .ok (.tuple #[.agg #[.func (.func 18) #[] #[]], .bool true]) (W.alloc (.map ents 6)) :=
    fun W => run_lookup_new Try.underlying44 Try.underlying3 W ents 6 6 4 _ (by rfl)
  go_enter Try.func7, Try.ntmps7
  go_wp2_with (first | (go_at_call 13; refine (units_any _).mono ?_; rintro e w1 ⟨rfl, rfl⟩) | (go_at_call 18; refine (fn18_any _ _ _ hb hc).mono ?_; rintro e w1 ⟨rfl, rfl⟩))
  go_ret2
  exact ⟨rfl, ((Mk.refl w).allocMap _ _).alloc _ _⟩

set_option maxHeartbeats 400000 in
theorem do_7 (b c : Int) (w : World) (hb : 0 ≤ b ∧ b < 18446744073709551616) (hc : 0 ≤ c ∧ c < 18446744073709551616) : Calls Try.prog 7 #[.int .i64 7, .int .u64 b, .int .u64 c] w fun e w' => e = .returned (.tuple #[.int .u64 (b / 2 ^ (c % 64).toNat), .bool true]) ∧ Mk w w' := by
  have hl : ∀ W : World, (Instr.lookup 44 (.map (some W.heap.size)) (.int .i64 7) true).run Try.prog (W.alloc (.map ents 6)) = .ok (.tuple #[.agg #[.func (.func 19) #[] #[]], .bool true]) (W.alloc (.map ents 6)) :=
    fun W => run_lookup_new Try.underlying44 Try.underlying3 W ents 6 7 5 _ (by rfl)
  go_enter Try.func7, Try.ntmps7
  go_wp2_with (first | (go_at_call 13; refine (units_any _).mono ?_; rintro e w1 ⟨rfl, rfl⟩) | (go_at_call 19; refine (fn19_any _ _ _ hb hc).mono ?_; rintro e w1 ⟨rfl, rfl⟩))
  go_ret2
  exact ⟨rfl, ((Mk.refl w).allocMap _ _).alloc _ _⟩

set_option maxHeartbeats 400000 in
theorem do_none (op b c : Int) (w : World) (hop : op < 2 ∨ 7 < op) : Calls Try.prog 7 #[.int .i64 op, .int .u64 b, .int .u64 c] w fun e w' => e = .returned (.tuple #[.int .u64 0, .bool false]) ∧ Mk w w' := by
  have hl : ∀ W : World, (Instr.lookup 44 (.map (some W.heap.size)) (.int .i64 op) true).run Try.prog (W.alloc (.map ents 6)) = .ok (.tuple #[.agg #[.nilFunc], .bool false]) (W.alloc (.map ents 6)) :=
    fun W => run_lookup_none Try.underlying44 Try.underlying3 W ents 6 op _ (by
      have h2 : (op == 2) = false := by simpa using (by omega : ¬ op = 2)
      have h3 : (op == 3) = false := by simpa using (by omega : ¬ op = 3)
      have h4 : (op == 4) = false := by simpa using (by omega : ¬ op = 4)
      have h5 : (op == 5) = false := by simpa using (by omega : ¬ op = 5)
      have h6 : (op == 6) = false := by simpa using (by omega : ¬ op = 6)
      have h7 : (op == 7) = false := by simpa using (by omega : ¬ op = 7)
      simp [ents, Instr.findNow, Instr.sameNow, h2, h3, h4, h5, h6, h7]) (fun _ => by kernel_rfl)
  clear hop
  go_enter Try.func7, Try.ntmps7
  go_wp2_with (go_at_call 13; refine (units_any _).mono ?_; rintro e w1 ⟨rfl, rfl⟩)
  go_ret2
  exact ⟨rfl, ((Mk.refl w).allocMap _ _).alloc _ _⟩

theorem do_any (op b c : Int) (w : World) (hb : 0 ≤ b ∧ b < 18446744073709551616) (hc : 0 ≤ c ∧ c < 18446744073709551616) : Calls Try.prog 7 #[.int .i64 op, .int .u64 b, .int .u64 c] w fun e w' => e = .returned (.tuple #[.int .u64 (doV op b c), .bool (doOk op)]) ∧ Mk w w' := by
  rcases Decidable.em (2 ≤ op ∧ op ≤ 7) with h | h
  · have h' : op = 2 ∨ op = 3 ∨ op = 4 ∨ op = 5 ∨ op = 6 ∨ op = 7 := by omega
    rcases h' with rfl | rfl | rfl | rfl | rfl | rfl
    · exact do_2 b c w hb hc
    · exact do_3 b c w hb hc
    · exact do_4 b c w hb hc
    · exact do_5 b c w hb hc
    · exact do_6 b c w hb hc
    · exact do_7 b c w hb hc
  · have e1 : doV op b c = 0 := by
      unfold doV
      rw [if_neg (by omega), if_neg (by omega), if_neg (by omega), if_neg (by omega), if_neg (by omega), if_neg (by omega)]
    have e2 : doOk op = false := by simp only [doOk, h, decide_false]
    rw [e1, e2]
    exact do_none op b c w (by omega)

def goV (op a b : Int) : Bool := if op = 17 then true else if op = 18 then a == b else if op = 19 then a != b else if op = 20 then decide (a < b) else false
def goOk (op : Int) : Bool := decide (17 ≤ op ∧ op ≤ 20)
set_option maxHeartbeats 400000 in
theorem goes_any (op a b : Int) (w : World) : Calls Try.prog 11 #[.int .i64 op, .int .u64 a, .int .u64 b] w fun e w' => e = .returned (.tuple #[.bool (goV op a b), .bool (goOk op)]) ∧ w = w' := by
  rcases Decidable.em (17 ≤ op ∧ op ≤ 20) with h | h
  · have h' : op = 17 ∨ op = 18 ∨ op = 19 ∨ op = 20 := by omega
    rcases h' with rfl | rfl | rfl | rfl
    all_goals
      clear h
      go_enter Try.func11, Try.ntmps11
      go_wp2
      go_ret2
      exact ⟨rfl, rfl⟩
  · have h17 : (op == 17) = false := by simpa using (by omega : ¬ op = 17)
    have h18 : (op == 18) = false := by simpa using (by omega : ¬ op = 18)
    have h19 : (op == 19) = false := by simpa using (by omega : ¬ op = 19)
    have h20 : (op == 20) = false := by simpa using (by omega : ¬ op = 20)
    have e1 : goV op a b = false := by
      unfold goV
      rw [if_neg (by omega), if_neg (by omega), if_neg (by omega), if_neg (by omega)]
    have e2 : goOk op = false := by simp only [goOk, h, decide_false]
    rw [e1, e2]
    clear h e1 e2
    go_enter Try.func11, Try.ntmps11
    go_wp2
    go_ret2
    exact ⟨rfl, rfl⟩

end Go.Proofs.Ytmiimmpiagmmlaa
