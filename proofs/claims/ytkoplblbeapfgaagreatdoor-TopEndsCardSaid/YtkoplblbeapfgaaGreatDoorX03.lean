/-
Parts of the walk of TopEnds. Conditions stand in each statement.
-/
import Derived.Test.YtkoplblbeapfgaaGreatDoorX01
import Derived.Test.YtkoplblbeapfgaaGreatDoorX02
namespace Go.Proofs.YtkoplblbeapfgaaGreatDoor
open Go.RowKit
open Tryz
set_option linter.all false
set_option maxRecDepth 100000
set_option maxHeartbeats 8000000
def Ln.get (l : Ln) : Nat → Int
 | 0 => l.a
 | 1 => l.b
 | 2 => l.c
 | 3 => l.d
 | 4 => l.e
 | 5 => l.f
 | 6 => l.g
 | _ => l.h
def Ln.put (l : Ln) (v : Int) : Nat → Ln
 | 0 => { l with a := v }
 | 1 => { l with b := v }
 | 2 => { l with c := v }
 | 3 => { l with d := v }
 | 4 => { l with e := v }
 | 5 => { l with f := v }
 | 6 => { l with g := v }
 | _ => { l with h := v }
def Ln.eqz (l : Ln) : Bool := l.a == 0 && l.b == 0 && l.c == 0 && l.d == 0 && l.e == 0 && l.f == 0 && l.g == 0 && l.h == 0
def BJ (m : Msg) : Bool :=
 decide (0 ≤ m.line) && decide (m.line < 64) &&
 (if m.kind == 1 || m.kind == 2 || m.kind == 4 || m.kind == 11 || m.kind == 12 || m.kind == 13 || m.kind == 14 then !m.dirty && !m.kept && m.data.eqz
  else if m.kind == 3 || m.kind == 6 then !m.kept && (m.dirty || m.data.eqz)
  else if m.kind == 7 then m.dirty || m.data.eqz
  else (m.kind == 8 || m.kind == 9 || m.kind == 10) && !m.dirty && !m.kept)
def Bu (kind line : Int) : Msg := ⟨kind, line, false, false, Ln.zero⟩
def BK (b : Bool) : Option Unit := if b = true then some () else none
def BO {α : Type} (d : α) : List α → Nat → α
 | [], _ => d
 | x :: _, 0 => x
 | _ :: l, n + 1 => BO d l n
structure Slot where
 st : Int
 line : Int
 data : Ln
 used : Int
def Slot.zero : Slot := ⟨0, 0, Ln.zero, 0⟩
structure Arr where
 s0 : Slot
 s1 : Slot
 used : Int
def Slot.is (s : Slot) (line : Int) : Bool := s.st != 0 && s.line == line
def Arr.ix (a : Arr) (line : Int) : Int := if a.s0.is line = true then 0 else if a.s1.is line = true then 1 else -1
def Arr.find (a : Arr) (line : Int) : Slot := if a.s0.is line = true then a.s0 else if a.s1.is line = true then a.s1 else Slot.zero
def Arr.free (a : Arr) : Int := if (a.s0.st == 0) = true then 0 else if (a.s1.st == 0) = true then 1 else -1
def Arr.putAt (a : Arr) (k : Int) (s : Slot) : Arr := if (k == 0) = true then ⟨s, a.s1, a.used⟩ else ⟨a.s0, s, a.used⟩
def Arr.place (a : Arr) (line : Int) : Int := if decide (a.ix line < 0) = true then a.free else a.ix line
def Arr.num (a : Arr) : Arr := ⟨a.s0, a.s1, a.used + 1⟩
def Arr.put (a : Arr) (line st : Int) (l : Ln) : Option Arr := do
 BK (decide (0 ≤ line) && decide (1 ≤ st) && decide (st ≤ 9) && decide (0 ≤ a.place line) && decide (0 ≤ a.used) && decide (a.used < 1000000))
 some (a.num.putAt (a.place line) ⟨st, line, l, a.used + 1⟩)
def Arr.touch (a : Arr) (line : Int) : Arr :=
 if a.s0.is line = true then ⟨⟨a.s0.st, a.s0.line, a.s0.data, a.used + 1⟩, a.s1, a.used + 1⟩
 else if a.s1.is line = true then ⟨a.s0, ⟨a.s1.st, a.s1.line, a.s1.data, a.used + 1⟩, a.used + 1⟩
 else a
def Arr.drop (a : Arr) (line : Int) : Arr :=
 if a.s0.is line = true then ⟨Slot.zero, a.s1, a.used⟩ else if a.s1.is line = true then ⟨a.s0, Slot.zero, a.used⟩ else a
def EA (st : Int) : Bool := st == 1 || st == 2 || st == 3
def Arr.isFree (a : Arr) : Bool := a.s0.st == 0 || a.s1.st == 0
def Arr.victim (a : Arr) : Int :=
 if EA a.s0.st = true then (if EA a.s1.st && decide (a.s1.used < a.s0.used) then a.s1.line else a.s0.line)
 else if EA a.s1.st = true then a.s1.line else -1
def DN (st : Int) : Bool := decide (0 ≤ st) && decide (st ≤ 3)
def Arr.idle (a : Arr) : Bool := DN a.s0.st && DN a.s1.st
def Arr.owns (a : Arr) (line : Int) : Bool := (a.find line).st == 2 || (a.find line).st == 3
def KL (a : Arr) (s : Slot) : Option (Arr × List Msg) :=
 if (s.st == 3) = true then (a.put s.line 9 s.data).map fun a' => (a', [⟨3, s.line, true, false, s.data⟩])
 else (a.put s.line 7 s.data).map fun a' => (a', [Bu 3 s.line])
def GM (a : Arr) (line st kind : Int) (l : Ln) : Option (Arr × List Msg) :=
 if a.idle = true then
  if (st == 6 || a.isFree) = true then (a.put line st l).map fun a' => (a', [Bu kind line])
  else if (decide (0 ≤ a.s0.line) && decide (0 ≤ a.s1.line)) = true then (if decide (a.victim < 0) = true then some (a, []) else KL a (a.find a.victim)) else none
 else some (a, [])
def UB (st : Int) : Bool := st == 1 || st == 2 || st == 3 || st == 6
def IN (a : Arr) (line word : Int) : Option (Arr × Int × Bool × List Msg) :=
 if UB (a.find line).st = true then (if decide (0 ≤ a.used) && decide (a.used < 1000000) then some (a.touch line, (a.find line).data.get word.toNat, true, []) else none)
 else (GM a line 4 1 Ln.zero).map fun r => (r.1, 0, false, r.2)
def FJ (a : Arr) (line : Int) : Option (Arr × List Msg) :=
 if a.owns line = true then some (a, [])
 else if ((a.find line).st == 1) = true then GM a line 6 2 (a.find line).data else GM a line 5 2 Ln.zero
def GQ (a : Arr) (line word v : Int) : Option (Arr × Bool × List Msg) :=
 if a.owns line = true then (a.put line 3 ((a.find line).data.put v word.toNat)).map fun a' => (a', true, [])
 else (FJ a line).map fun r => (r.1, false, r.2)
def Fy (a : Arr) (m : Msg) : Option (Arr × List Msg) :=
 if (BJ m && decide (0 ≤ a.used) && decide (a.used < 1000000)) = true then
  if (m.kind == 14 && (a.find m.line).st == 1) = true then some (a, [])
  else if (m.kind == 11 && ((a.find m.line).st == 7 || (a.find m.line).st == 9)) = true then some (a.drop m.line, [])
  else if (m.kind == 12 && ((a.find m.line).st == 1 || (a.find m.line).st == 2)) = true then some (a.drop m.line, [Bu 6 m.line])
  else if (m.kind == 12 && (a.find m.line).st == 3) = true then some (a.drop m.line, [⟨6, m.line, true, false, (a.find m.line).data⟩])
  else if (m.kind == 13 && (a.find m.line).st == 3) = true then (a.put m.line 1 (a.find m.line).data).map fun a' => (a', [⟨7, m.line, true, true, (a.find m.line).data⟩])
  else if (m.kind == 9 && (a.find m.line).st == 4 || m.kind == 10 && ((a.find m.line).st == 5 || (a.find m.line).st == 6)) = true then (a.put m.line 2 m.data).map fun a' => (a', [])
  else none
 else none
structure Ent where
 here : Bool
 dirty : Bool
 data : Ln
 owner : Int
 share : Int
 busy : Int
 who : Int
 wait : Int
def Ent.empty : Ent := ⟨false, false, Ln.zero, -1, 0, 0, 0, 0⟩
def Ent.isEmpty (e : Ent) : Bool := !e.here && !e.dirty && e.data.eqz && e.owner == -1 && e.share == 0 && e.busy == 0 && e.who == 0 && e.wait == 0
def Ax (n : Int) : Int := if (n == 0) = true then 1 else if (n == 1) = true then 2 else 0
def Lj (a b : Int) : Int := bits .or .u8 a b
def Ca (a b : Int) : Int := bits .andNot .u8 a b
def AK (n : Int) : Bool := n == 0 || n == 1
def LH (n : Int) : Bool := n == 0 || n == 1 || n == 2 || n == 3
def KM (n : Int) : Bool := n == 1 || n == 2
def Ent.good (e : Ent) : Bool :=
 e.here && (AK e.owner || e.owner == -1) && LH e.share && LH e.wait && (e.owner == -1 || e.share == 0) && Ca e.wait (Lj e.share (Ax e.owner)) == 0 &&
 (if (e.busy == 0) = true then e.who == 0 && e.wait == 0
  else if (e.busy == 1 || e.busy == 2) = true then AK e.who && e.wait != 0
  else e.busy == 4 && AK e.who)
structure Send where
 to : Int
 m : Msg
def MJ (mask n : Int) : Bool := n == 0 && mask % 2 == 1 || n == 1 && decide (2 ≤ mask)
def UR (mask : Int) : List Int := (if (mask % 2 == 1) = true then [0] else []) ++ (if decide (2 ≤ mask) = true then [1] else [])
def FB (e : Ent) (kind line : Int) : Msg := ⟨kind, line, false, false, if (kind == 8 || kind == 9 || kind == 10) = true then e.data else Ln.zero⟩
def FO (e : Ent) (line who kind : Int) : Ent × List Send := ({ e with owner := who, share := 0 }, [⟨who, FB e kind line⟩])
def Cz (e : Ent) (line busy who cs kind : Int) : Ent × List Send := ({ e with busy := busy, who := who, wait := cs }, (UR cs).map fun c => ⟨c, Bu kind line⟩)
def FC (e : Ent) (m : Msg) : Ent := if m.dirty = true then { e with data := m.data, dirty := true } else e
def Df (e : Ent) : Int := Lj e.share (Ax e.owner)
def Jb (e : Ent) : Ent := { e with busy := 0, who := 0, wait := 0 }
def Pa (e : Ent) (who : Int) (m : Msg) : Option (Ent × List Send) := do
 BK (e.good && AK who && BJ m && e.busy == 0)
 if (m.kind == 1) = true then (if (e.owner == -1 && e.share == 0) = true then some (FO e m.line who 9) else none)
 else if (m.kind == 2) = true then
  (if (Ca (Df e) (Ax who) == 0) = true then some (FO e m.line who 10)
   else if KM (Ca (Df e) (Ax who)) = true then some (Cz e m.line 2 who (Ca (Df e) (Ax who)) 12) else none)
 else if (m.kind == 3) = true then
  some ((if (e.owner == who) = true then FC { e with owner := -1 } m else { e with share := Ca e.share (Ax who) }), [⟨who, Bu 11 m.line⟩])
 else if (m.kind == 4 && AK e.owner) = true then some (Cz e m.line 4 who (Ax e.owner) 13) else none
def JJ (e : Ent) (who : Int) (m : Msg) : Ent := FC { e with wait := Ca e.wait (Ax who) } m
def JI (e : Ent) (who : Int) : Ent := if (e.owner == who) = true then { e with owner := -1 } else e
def JH (e : Ent) (who : Int) (m : Msg) : Ent := if m.kept = true then { e with share := Lj (Ca e.share (Ax who)) (Ax who) } else { e with share := Ca e.share (Ax who) }
def Dj (e : Ent) (who : Int) (m : Msg) : Ent := JH (JI (JJ e who m) who) who m
def IU (e : Ent) (who : Int) (m : Msg) : Option (Ent × List Send) := do
 BK (e.good && AK who && BJ m && (m.kind == 6 || m.kind == 7) && e.busy != 0 && MJ e.wait who)
 let x := Dj e who m
 if (x.wait != 0) = true then some (x, [])
 else if (x.busy == 2) = true then some (FO (Jb x) m.line x.who 10)
 else if (x.busy == 4) = true then some (x, []) else none
def LM (e : Ent) (who : Int) (m : Msg) : Bool := Ca e.wait (Ax who) == 0 && (m.kind == 6 && e.busy == 2 || m.kind == 7 && m.kept && e.owner == who && e.busy == 4)
def De (e : Ent) : Bool := e.busy == 4 && e.wait == 0
def FX (e : Ent) : Ent := { e with dirty := false, busy := 0, who := 0, wait := 0 }
structure Node where
 arr : Arr
 up : List Msg
 ans : List Msg
 down : List Msg
structure Sys where
 n0 : Node
 n1 : Node
 dir : List Ent
 wq : List (Int × Ln)
 mem : List Ln
def Sys.node (s : Sys) (i : Int) : Node := if (i == 0) = true then s.n0 else s.n1
def Sys.setNode (s : Sys) (i : Int) (n : Node) : Sys := if (i == 0) = true then { s with n0 := n } else { s with n1 := n }
def Sys.ent (s : Sys) (line : Int) : Ent := BO Ent.empty s.dir line.toNat
def Sys.setEnt (s : Sys) (line : Int) (e : Ent) : Sys := { s with dir := s.dir.set line.toNat e }
def BQ (k : Int) : Bool := decide (0 ≤ k) && decide (k < 5)
def LE (k : Int) : Bool := decide (0 ≤ k) && decide (k < 8)
def Et : List Msg → Bool
 | [] => true
 | m :: l => BJ m && Et l
def Eb (q l : List Msg) : Option (List Msg) := if (Et l && decide (q.length < 900) && decide (l.length ≤ 2)) = true then some (q ++ l) else none
def Sys.load (s : Sys) (i line word : Int) : Option (Sys × Int × Bool) := do
 BK (AK i && BQ line && LE word)
 let (a, v, hit, l) ← IN (s.node i).arr line word
 let up ← Eb (s.node i).up l
 some (s.setNode i { s.node i with arr := a, up := up }, v, hit)
def Sys.reach (s : Sys) (i line : Int) : Option (Sys × Bool) := do
 BK (AK i && BQ line)
 let (a, l) ← FJ (s.node i).arr line
 let up ← Eb (s.node i).up l
 some (s.setNode i { s.node i with arr := a, up := up }, a.owns line)
def Sys.store (s : Sys) (i line word v : Int) : Option (Sys × Bool) := do
 BK (AK i && BQ line && LE word)
 let (a, hit, l) ← GQ (s.node i).arr line word v
 let up ← Eb (s.node i).up l
 some (s.setNode i { s.node i with arr := a, up := up }, hit)
def Sys.flush (s : Sys) (i line : Int) : Option Sys := do
 BK (AK i && BQ line)
 let up ← Eb (s.node i).up [Bu 4 line]
 some (s.setNode i { s.node i with up := up })
def Sys.sends (s : Sys) (line : Int) : List Send → Option Sys
 | [] => some s
 | [x] => do
   BK (AK x.to)
   let d ← Eb (s.node x.to).down [{ x.m with line := line }]
   some (s.setNode x.to { s.node x.to with down := d })
 | _ => none
def Sys.here (s : Sys) (line : Int) : Option Sys :=
 if (s.ent line).here = true then some s
 else if ((s.ent line).isEmpty && s.wq.isEmpty) = true then some (s.setEnt line { s.ent line with here := true, data := BO Ln.zero s.mem line.toNat }) else none
def Sys.up (s : Sys) (i : Int) : Option Sys := do
 BK (AK i)
 match (s.node i).up with
 | [] => some s
 | m :: l =>
   BK (BQ m.line)
   if ((s.ent m.line).busy != 0) = true then some s
   else
    let s1 ← s.here m.line
    let (e, out) ← Pa (s1.ent m.line) i m
    ((s1.setNode i { s1.node i with up := l }).setEnt m.line e).sends m.line out
def Sys.answer (s : Sys) (i : Int) : Option Sys := do
 BK (AK i)
 match (s.node i).ans with
 | [] => some s
 | m :: l =>
   BK (BQ m.line && LM (s.ent m.line) i m)
   let (e, out) ← IU (s.ent m.line) i m
   ((s.setNode i { s.node i with ans := l }).setEnt m.line e).sends m.line out
def Sys.hear (s : Sys) (i : Int) : Option (Sys × Option Msg) := do
 BK (AK i)
 match (s.node i).down with
 | [] => some (s, none)
 | m :: l =>
   let (a, out) ← Fy (s.node i).arr m
   let q ← Eb (s.node i).ans out
   some (s.setNode i { s.node i with arr := a, ans := q, down := l }, some m)
def Sys.push (s : Sys) (line : Int) : Option (Sys × Bool) := do
 BK (BQ line)
 BK ((s.ent line).good || (s.ent line).isEmpty)
 if (De (s.ent line)) = true then
  BK ((s.ent line).dirty && s.wq.isEmpty)
  let s1 ← (({ s with wq := [(line, (s.ent line).data)] } : Sys).setEnt line (FX (s.ent line))).sends line [⟨(s.ent line).who, Bu 14 0⟩]
  some (s1, true)
 else some (s, false)
def Sys.drain (s : Sys) (line : Int) : Option Sys := do
 BK (BQ line)
 match s.wq with
 | [] => some s
 | [(k, x)] => if (k == line) = true then some { s with wq := [], mem := s.mem.set line.toNat x } else some s
 | _ => none
structure SE where
 kind : Int
 line : Int
 word : Int
 val : Int
structure Ev where
 kind : Int
 core : Int
 line : Int
 word : Int
 val : Int
structure Core where
 regs : List Int
 place : Int
 prog : List Ins
 buf : List SE
 waits : Int
 runs : Bool
def Core.reg (c : Core) (i : Int) : Int := BO 0 c.regs i.toNat
def Core.setReg (c : Core) (i v : Int) : Core := { c with regs := c.regs.set i.toNat v }
def Core.next (c : Core) : Core := { c with place := c.place + 1 }
def Gz (n : Int) : Int := n % 18446744073709551616
def Js (line word : Int) : Option Int → List SE → Option Int
 | v, [] => v
 | v, e :: l => Js line word (if (e.kind == 9 && e.line == line && e.word == word) = true then some e.val else v) l
def AL (c : Core) (i : Ins) : Int := Gz (c.reg i.b + i.imm)
def BH (n : Int) : Bool := decide (0 ≤ n) && decide (n < 8)
def Cv (a : Int) : Bool := decide (0 ≤ a) && decide (a < 320) && a % 8 == 0
def Lr : Ins := ⟨0, 0, 0, 0, 0⟩
def Core.load (c : Core) (s : Sys) (k : Int) (i : Ins) : Option (Core × Sys × List Ev) := do
 BK (Cv (AL c i))
 let line := AL c i / 64
 let w := AL c i % 64 / 8
 match Js line w none c.buf with
 | some v => some ((c.setReg i.a v).next, s, [⟨2, k, line, w, v⟩])
 | none =>
   let (s1, v, hit) ← s.load k line w
   if hit = true then some ((c.setReg i.a v).next, s1, [⟨1, k, line, w, v⟩]) else some (c, s1, [])
def Core.still (c : Core) : Bool := c.buf.isEmpty && c.waits == 0
def Core.put (c : Core) (k : Int) (i : Ins) : Option (Core × List Ev) := do
 BK (Cv (AL c i))
 let line := AL c i / 64
 let w := AL c i % 64 / 8
 if decide (2 ≤ c.buf.length) = true then some (c, [])
 else if (i.op == 9) = true then some (({ c with buf := c.buf ++ [⟨9, line, w, c.reg i.a⟩] } : Core).next, [⟨12, k, line, w, c.reg i.a⟩])
 else some (({ c with buf := c.buf ++ [⟨12, line, 0, 0⟩] } : Core).next, [⟨14, k, line, 0, 0⟩])
def Core.locked (c : Core) (s : Sys) (k : Int) (i : Ins) : Option (Core × Sys × List Ev) := do
 BK (Cv (AL c i))
 let line := AL c i / 64
 let w := AL c i % 64 / 8
 if c.still = true then
  let (s1, has) ← s.reach k line
  if has = true then
   let (s2, old, hit) ← s1.load k line w
   BK hit
   if (old == c.reg i.a) = true then
    let (s3, _) ← s2.store k line w (c.reg i.c)
    some ((c.setReg i.a old).next, s3, [⟨4, k, line, w, old⟩, ⟨3, k, line, w, c.reg i.c⟩])
   else some ((c.setReg i.a old).next, s2, [⟨4, k, line, w, old⟩])
  else some (c, s1, [])
 else some (c, s, [])
def RB (n : Int) : Bool := decide (0 ≤ n) && decide (n < 18446744073709551616)
def KS (op b c : Int) : Option Int :=
 if (RB b && RB c) = false then none else if (op == 2) = true then some (Gz (b + c)) else if (op == 3) = true then some (Gz (b - c)) else if (op == 6 && c == 4) = true then some (Gz (b * 16)) else none
def LJ (op a b : Int) : Bool := op == 17 || op == 18 && a == b || op == 19 && a != b
def Core.exec (c : Core) (s : Sys) (k : Int) : Option (Core × Sys × List Ev) :=
 if c.runs = true then do
  let i := BO Lr c.prog c.place.toNat
  BK (decide (0 ≤ c.place) && decide (c.place < c.prog.length) && BH i.a && BH i.b && BH i.c)
  if (i.op == 1) = true then some ((c.setReg i.a (Gz i.imm)).next, s, [])
  else if (i.op == 8) = true then c.load s k i
  else if (i.op == 9 || i.op == 12) = true then (c.put k i).map fun r => (r.1, s, r.2)
  else if (i.op == 15) = true then (if c.still = true then some (c.next, s, [⟨7, k, 0, 0, 0⟩]) else some (c, s, []))
  else if (i.op == 10) = true then c.locked s k i
  else if (i.op == 21) = true then some (c.next, s, [⟨8, k, 0, 0, c.reg i.a⟩])
  else if (i.op == 22) = true then some ({ c with runs := false }, s, [⟨9, k, 0, 0, 0⟩])
  else if (i.op == 2 || i.op == 3 || i.op == 6) = true then
   let v ← KS i.op (c.reg i.b) (c.reg i.c)
   some ((c.next).setReg i.a v, s, [])
  else do
   BK (i.op == 17 || i.op == 18 || i.op == 19)
   some ((if LJ i.op (c.reg i.a) (c.reg i.b) = true then { c with place := i.imm } else c.next), s, [])
 else some (c, s, [])
def Core.drain (c : Core) (s : Sys) (k : Int) : Option (Core × Sys × List Ev) :=
 match c.buf with
 | [] => some (c, s, [])
 | e :: l =>
   if (e.kind == 9) = true then do
    let (s1, hit) ← s.store k e.line e.word e.val
    if hit = true then some ({ c with buf := l }, s1, [⟨3, k, e.line, e.word, e.val⟩]) else some (c, s1, [])
   else do
    BK (e.kind == 12 && decide (0 ≤ c.waits) && decide (c.waits < 16))
    let s1 ← s.flush k e.line
    some ({ c with buf := l, waits := c.waits + 1 }, s1, [⟨13, k, e.line, 0, 0⟩])
def Core.hear (c : Core) (m : Msg) (k : Int) : Core × List Ev :=
 if (m.kind != 14 || c.waits == 0) = true then (c, []) else ({ c with waits := c.waits - 1 }, [⟨6, k, m.line, 0, 0⟩])
structure Mach where
 c0 : Core
 c1 : Core
 s : Sys
def Mach.core (m : Mach) (i : Int) : Core := if (i == 0) = true then m.c0 else m.c1
def Mach.put (m : Mach) (i : Int) (c : Core) (s : Sys) : Mach := if (i == 0) = true then ⟨c, m.c1, s⟩ else ⟨m.c0, c, s⟩
def Mach.act (m : Mach) (kind x : Int) : Option (Mach × List Ev) :=
 if (kind == 1) = true then do
  BK (AK x)
  let (c, s, l) ← (m.core x).exec m.s x
  some (m.put x c s, l)
 else if (kind == 2) = true then do
  BK (AK x)
  let (c, s, l) ← (m.core x).drain m.s x
  some (m.put x c s, l)
 else if (kind == 3) = true then (m.s.up x).map fun s => ({ m with s := s }, [])
 else if (kind == 4) = true then (m.s.answer x).map fun s => ({ m with s := s }, [])
 else if (kind == 5) = true then do
  let (s, r) ← m.s.hear x
  match r with
  | none => some ({ m with s := s }, [])
  | some y => let r := (m.core x).hear y x; some (m.put x r.1 s, r.2)
 else if (kind == 6) = true then do
  let (s, yes) ← m.s.push x
  if yes = true then some ({ m with s := s }, [⟨5, 0, x, 0, 0⟩]) else some ({ m with s := s }, [])
 else if (kind == 9) = true then (m.s.drain x).map fun s => ({ m with s := s }, []) else none
def Cj : List (Int × Int) := [(1, 0), (2, 0), (3, 0), (4, 0), (5, 0), (1, 1), (2, 1), (3, 1), (4, 1), (5, 1), (6, 0), (9, 0), (6, 1), (9, 1), (6, 2), (9, 2), (6, 3), (9, 3), (6, 4), (9, 4)]
def EC (n : Node) : Bool := n.up.isEmpty && n.ans.isEmpty && n.down.isEmpty && decide (n.arr.s0.st ≤ 3) && decide (n.arr.s1.st ≤ 3)
def ED (c : Core) : Bool := !c.runs && c.buf.isEmpty && c.waits == 0
def EW : List Ent → Bool
 | [] => true
 | e :: l => e.busy == 0 && EW l
def Mach.quiet (m : Mach) : Bool := ED m.c0 && EC m.s.n0 && ED m.c1 && EC m.s.n1 && EW m.s.dir
def DY (prog : List Ins) : Core := ⟨[0, 0, 0, 0, 0, 0, 0, 0], 0, prog, [], 0, true⟩
def LG : Node := ⟨⟨Slot.zero, Slot.zero, 0⟩, [], [], []⟩
def Om (p q : List Ins) (words : Ln) : Mach :=
 ⟨DY p, DY q, ⟨LG, LG, [Ent.empty, Ent.empty, Ent.empty, Ent.empty, Ent.empty], [], [Ln.zero, Ln.zero, Ln.zero, Ln.zero, words]⟩⟩
def EG : List (Nat × Nat) → List Int → List Ins → List Ins
 | [], _, l => l
 | j :: js, marks, l => EG js marks (l.set j.1 { BO Lr l j.1 with imm := BO (-1) marks j.2 })
def BS.fin (B : BS) : List Ins := EG B.jumps B.marks B.l
def BT (k : Int) : List Ev → List Int
 | [] => []
 | e :: l => if (e.kind == 8 && e.core == k) = true then e.val :: BT k l else BT k l
instance : Coe Slot (Array Value) := ⟨fun x => #[I x.st, I x.line, x.data.a, x.data.b, x.data.c, x.data.d, x.data.e, x.data.f, x.data.g, x.data.h, I x.used]⟩
instance : Coe Ent (Array Value) := ⟨fun x => #[x.here, x.dirty, x.data.a, x.data.b, x.data.c, x.data.d, x.data.e, x.data.f, x.data.g, x.data.h, I x.owner, .int .u8 x.share, I x.busy, I x.who, .int .u8 x.wait]⟩
instance : Coe Ev (Array Value) := ⟨fun x => #[I x.kind, I x.core, I x.line, I x.word, x.val]⟩
theorem PZ (k : Int) (h0 : 1 ≤ k) (h1 : k ≤ 5) (w : World) : Y 321 #[I k] w fun e w' => e = Z (.bool true) ∧ w = w' := by
 go_enter func321, ntmps321
 go_wp2_with fail
 go_ret
 exact ⟨by simp [h0, h1], rfl⟩
theorem Hi (k : Int) (h : k = 6 ∨ k = 7) (w : World) : Y 323 #[I k] w fun e w' => e = Z (.bool true) ∧ w = w' := by
 rcases h with rfl | rfl
 all_goals
  go_enter func323, ntmps323
  go_wp2_with fail
  go_ret
  exact ⟨rfl, rfl⟩
theorem ND (k : Int) (h0 : 8 ≤ k) (h1 : k ≤ 14) (w : World) : Y 330 #[I k] w fun e w' => e = Z (.bool true) ∧ w = w' := by
 go_enter func330, ntmps330
 go_wp2_with fail
 go_ret
 exact ⟨by simp [h0, h1], rfl⟩
def Ao (l : List Msg) : List Value := l.flatMap fun m => m.cells.toList
def GA (w : World) (b o : Nat) (cs : Array Value) (T : TypeId) (v : Value) (l : List Msg) : Prop :=
 w.heap[b]? = some (.cells cs T (0, 0)) ∧ cs[o]? = some v ∧ AH w 253 12 v l.length (Ao l) ∧ T ≠ 253
theorem JZ (b o : Nat) (cs : Array Value) (T : TypeId) (v : Value) (l : List Msg) (w : World) (h : GA w b o cs T v l) :
 Y 316 #[.pointer (some ⟨b, o, none⟩)] w fun e w' => e = Z (I l.length) ∧ w = w' := by
 obtain ⟨h1, h2, h3, h4⟩ := h
 obtain ⟨A, AV, rfl⟩ := h3.form
 have c1 : w.cell? ⟨b, o, none⟩ = some (.slice A l.length AV) := AD h1 o h2
 clear h1 h2 h3 h4
 go_enter func316, ntmps316
 go_wp2_with fail
 go_ret
 exact ⟨rfl, rfl⟩
theorem Gr {w : World} {v : Value} {m : Msg} {l : List Msg} (h : AH w 253 12 v (l.length + 1) (Ao (m :: l))) : ∃ g off AV, v = .slice (some ⟨g, off, none⟩) (l.length + 1) AV ∧ l.length + 1 ≤ AV ∧
 w.cell? ⟨g, off, none⟩ = I m.kind ∧ w.cell? ⟨g, off + 1, none⟩ = I m.line ∧ w.cell? ⟨g, off + 2, none⟩ = m.dirty ∧ w.cell? ⟨g, off + 3, none⟩ = m.kept ∧
 w.cell? ⟨g, off + 4, none⟩ = U m.data.a ∧ w.cell? ⟨g, off + 5, none⟩ = U m.data.b ∧ w.cell? ⟨g, off + 6, none⟩ = U m.data.c ∧ w.cell? ⟨g, off + 7, none⟩ = U m.data.d ∧
 w.cell? ⟨g, off + 8, none⟩ = U m.data.e ∧ w.cell? ⟨g, off + 9, none⟩ = U m.data.f ∧ w.cell? ⟨g, off + 10, none⟩ = U m.data.g ∧ w.cell? ⟨g, off + 11, none⟩ = U m.data.h := by
 obtain ⟨g, off, AV, cs, rfl, hg, hc1, hc2, hc3⟩ := h.lies (by omega)
 have f : ∀ j u, m.cells.toList[j]? = some u → w.cell? ⟨g, off + j, none⟩ = some u := fun j u hu => AD hg _ (hc3 j u (by
  simp only [Ao, List.flatMap_cons]
  rw [List.getElem?_append_left (List.getElem?_eq_some_iff.1 hu).1]
  exact hu))
 exact ⟨g, off, AV, rfl, hc1, f 0 _ rfl, f 1 _ rfl, f 2 _ rfl, f 3 _ rfl, f 4 _ rfl, f 5 _ rfl, f 6 _ rfl, f 7 _ rfl, f 8 _ rfl, f 9 _ rfl, f 10 _ rfl, f 11 _ rfl⟩
theorem DO (b o : Nat) (cs : Array Value) (T : TypeId) (v : Value) (w : World) (h : GA w b o cs T v []) :
 Y 267 #[.pointer (some ⟨b, o, none⟩)] w fun e w' => e = Z (.tuple #[.agg (Msg.mk 0 0 false false Ln.zero).cells, false]) ∧ Below w w w' := by
 have hl := fun w' hb => JZ b o cs T v [] w' (show GA w' b o cs T v [] from ⟨AB hb h.1, h.2.1, h.2.2.1.below hb, h.2.2.2⟩)
 have HB := Vw (AC w (.cells (Msg.mk 0 0 false false Ln.zero).cells 253))
 simp only [Msg.cells, Ln.zero] at HB ⊢
 clear h
 go_enter func267, ntmps267
 go_wp2_with fail
 refine (hl _ HB.out).mono ?_
 rintro e w1 ⟨rfl, rfl⟩
 go_wp2_with fail
 refine bodyPost_ret (v := .tuple #[.agg KB, false]) (by simp [results, results267, go_sem]) rfl ⟨rfl, HB.out⟩
theorem DP (b o : Nat) (cs : Array Value) (T : TypeId) (v : Value) (m : Msg) (l : List Msg) (w : World) (h : GA w b o cs T v (m :: l)) :
 Y 267 #[.pointer (some ⟨b, o, none⟩)] w fun e w' => e = Z (.tuple #[.agg m.cells, true]) ∧ Below w w w' := by
 have hl := fun w' hb => JZ b o cs T v (m :: l) w' (show GA w' b o cs T v (m :: l) from ⟨AB hb h.1, h.2.1, h.2.2.1.below hb, h.2.2.2⟩)
 have hba := AC w (.cells (Msg.mk 0 0 false false Ln.zero).cells 253)
 obtain ⟨h1, h2, h3, h4⟩ := h
 obtain ⟨g, off, AV, rfl, hcap, r0, r1, r2, r3, r4, r5, r6, r7, r8, r9, r10, r11⟩ := Gr (h3.below hba)
 have c1 : (w.alloc (.cells (Msg.mk 0 0 false false Ln.zero).cells 253)).cell? ⟨b, o, none⟩ = some (.slice (some ⟨g, off, none⟩) (l.length + 1) AV) := AD (AB hba h1) o h2
 have hn : (((m :: l).length : Nat) : Int) = (l.length : Int) + 1 := by simp
 have hnz : ((l.length : Int) + 1 == 0) = false := by simp; omega
 have HB := Vw hba
 have HI := Vw (AE w (.cells (Msg.mk 0 0 false false Ln.zero).cells 253))
 rw [hn] at hl
 simp only [Msg.cells, Ln.zero] at HB HI hl c1 r0 r1 r2 r3 r4 r5 r6 r7 r8 r9 r10 r11 ⊢
 clear h1 h2 h3 h4 hn hba
 go_enter func267, ntmps267
 go_wp2_with fail
 refine (hl _ HB.out).mono ?_
 rintro e w1 ⟨rfl, rfl⟩
 go_wp2_with fail
 refine bodyPost_ret (v := .tuple #[.agg m, true]) (by simp [results, results267, go_sem]) rfl ⟨rfl, AC _ _⟩
theorem SU {w : World} {p : Nat} {e : TypeId} {u0 u1 u2 u3 u4 u5 u6 u7 u8 u9 u10 u11 : Value} (h : w.heap[p]? = some (.cells #[u0, u1, u2, u3, u4, u5, u6, u7, u8, u9, u10, u11] e)) (v0 v1 v2 v3 v4 v5 v6 v7 v8 v9 v10 v11 : Value) :
 ((((((((((((w.setCell p v0).setCell ⟨p, 1, none⟩ v1).setCell ⟨p, 2, none⟩ v2).setCell ⟨p, 3, none⟩ v3).setCell ⟨p, 4, none⟩ v4).setCell ⟨p, 5, none⟩ v5).setCell ⟨p, 6, none⟩ v6).setCell ⟨p, 7, none⟩ v7).setCell ⟨p, 8, none⟩ v8).setCell ⟨p, 9, none⟩ v9).setCell ⟨p, 10, none⟩ v10).setCell ⟨p, 11, none⟩ v11).heap[p]? = some (.cells #[v0, v1, v2, v3, v4, v5, v6, v7, v8, v9, v10, v11] e) := by
 have h1 : (w.setCell p v0).heap[p]? = some (.cells #[v0, u1, u2, u3, u4, u5, u6, u7, u8, u9, u10, u11] e) := AI h 0 v0
 have h2 : ((w.setCell p v0).setCell ⟨p, 1, none⟩ v1).heap[p]? = some (.cells #[v0, v1, u2, u3, u4, u5, u6, u7, u8, u9, u10, u11] e) := AI h1 1 v1
 have h3 : (((w.setCell p v0).setCell ⟨p, 1, none⟩ v1).setCell ⟨p, 2, none⟩ v2).heap[p]? = some (.cells #[v0, v1, v2, u3, u4, u5, u6, u7, u8, u9, u10, u11] e) := AI h2 2 v2
 have h4 : ((((w.setCell p v0).setCell ⟨p, 1, none⟩ v1).setCell ⟨p, 2, none⟩ v2).setCell ⟨p, 3, none⟩ v3).heap[p]? = some (.cells #[v0, v1, v2, v3, u4, u5, u6, u7, u8, u9, u10, u11] e) := AI h3 3 v3
 have h5 : (((((w.setCell p v0).setCell ⟨p, 1, none⟩ v1).setCell ⟨p, 2, none⟩ v2).setCell ⟨p, 3, none⟩ v3).setCell ⟨p, 4, none⟩ v4).heap[p]? = some (.cells #[v0, v1, v2, v3, v4, u5, u6, u7, u8, u9, u10, u11] e) := AI h4 4 v4
 have h6 : ((((((w.setCell p v0).setCell ⟨p, 1, none⟩ v1).setCell ⟨p, 2, none⟩ v2).setCell ⟨p, 3, none⟩ v3).setCell ⟨p, 4, none⟩ v4).setCell ⟨p, 5, none⟩ v5).heap[p]? = some (.cells #[v0, v1, v2, v3, v4, v5, u6, u7, u8, u9, u10, u11] e) := AI h5 5 v5
 have h7 : (((((((w.setCell p v0).setCell ⟨p, 1, none⟩ v1).setCell ⟨p, 2, none⟩ v2).setCell ⟨p, 3, none⟩ v3).setCell ⟨p, 4, none⟩ v4).setCell ⟨p, 5, none⟩ v5).setCell ⟨p, 6, none⟩ v6).heap[p]? = some (.cells #[v0, v1, v2, v3, v4, v5, v6, u7, u8, u9, u10, u11] e) := AI h6 6 v6
 have h8 : ((((((((w.setCell p v0).setCell ⟨p, 1, none⟩ v1).setCell ⟨p, 2, none⟩ v2).setCell ⟨p, 3, none⟩ v3).setCell ⟨p, 4, none⟩ v4).setCell ⟨p, 5, none⟩ v5).setCell ⟨p, 6, none⟩ v6).setCell ⟨p, 7, none⟩ v7).heap[p]? = some (.cells #[v0, v1, v2, v3, v4, v5, v6, v7, u8, u9, u10, u11] e) := AI h7 7 v7
 have h9 : (((((((((w.setCell p v0).setCell ⟨p, 1, none⟩ v1).setCell ⟨p, 2, none⟩ v2).setCell ⟨p, 3, none⟩ v3).setCell ⟨p, 4, none⟩ v4).setCell ⟨p, 5, none⟩ v5).setCell ⟨p, 6, none⟩ v6).setCell ⟨p, 7, none⟩ v7).setCell ⟨p, 8, none⟩ v8).heap[p]? = some (.cells #[v0, v1, v2, v3, v4, v5, v6, v7, v8, u9, u10, u11] e) := AI h8 8 v8
 have h10 : ((((((((((w.setCell p v0).setCell ⟨p, 1, none⟩ v1).setCell ⟨p, 2, none⟩ v2).setCell ⟨p, 3, none⟩ v3).setCell ⟨p, 4, none⟩ v4).setCell ⟨p, 5, none⟩ v5).setCell ⟨p, 6, none⟩ v6).setCell ⟨p, 7, none⟩ v7).setCell ⟨p, 8, none⟩ v8).setCell ⟨p, 9, none⟩ v9).heap[p]? = some (.cells #[v0, v1, v2, v3, v4, v5, v6, v7, v8, v9, u10, u11] e) := AI h9 9 v9
 have h11 : (((((((((((w.setCell p v0).setCell ⟨p, 1, none⟩ v1).setCell ⟨p, 2, none⟩ v2).setCell ⟨p, 3, none⟩ v3).setCell ⟨p, 4, none⟩ v4).setCell ⟨p, 5, none⟩ v5).setCell ⟨p, 6, none⟩ v6).setCell ⟨p, 7, none⟩ v7).setCell ⟨p, 8, none⟩ v8).setCell ⟨p, 9, none⟩ v9).setCell ⟨p, 10, none⟩ v10).heap[p]? = some (.cells #[v0, v1, v2, v3, v4, v5, v6, v7, v8, v9, v10, u11] e) := AI h10 10 v10
 have h12 : ((((((((((((w.setCell p v0).setCell ⟨p, 1, none⟩ v1).setCell ⟨p, 2, none⟩ v2).setCell ⟨p, 3, none⟩ v3).setCell ⟨p, 4, none⟩ v4).setCell ⟨p, 5, none⟩ v5).setCell ⟨p, 6, none⟩ v6).setCell ⟨p, 7, none⟩ v7).setCell ⟨p, 8, none⟩ v8).setCell ⟨p, 9, none⟩ v9).setCell ⟨p, 10, none⟩ v10).setCell ⟨p, 11, none⟩ v11).heap[p]? = some (.cells #[v0, v1, v2, v3, v4, v5, v6, v7, v8, v9, v10, v11] e) := AI h11 11 v11
 exact h12
theorem NN {B : Nat} {a w : World} {p : Nat} (hb : Below B a w) (hp : B ≤ p) (v0 v1 v2 v3 v4 v5 v6 v7 v8 v9 v10 v11 : Value) : Below B a ((((((((((((w.setCell p v0).setCell ⟨p, 1, none⟩ v1).setCell ⟨p, 2, none⟩ v2).setCell ⟨p, 3, none⟩ v3).setCell ⟨p, 4, none⟩ v4).setCell ⟨p, 5, none⟩ v5).setCell ⟨p, 6, none⟩ v6).setCell ⟨p, 7, none⟩ v7).setCell ⟨p, 8, none⟩ v8).setCell ⟨p, 9, none⟩ v9).setCell ⟨p, 10, none⟩ v10).setCell ⟨p, 11, none⟩ v11) := ((((((((((((hb.setCell (p := p) hp v0).setCell (p := ⟨p, 1, none⟩) hp v1).setCell (p := ⟨p, 2, none⟩) hp v2).setCell (p := ⟨p, 3, none⟩) hp v3).setCell (p := ⟨p, 4, none⟩) hp v4).setCell (p := ⟨p, 5, none⟩) hp v5).setCell (p := ⟨p, 6, none⟩) hp v6).setCell (p := ⟨p, 7, none⟩) hp v7).setCell (p := ⟨p, 8, none⟩) hp v8).setCell (p := ⟨p, 9, none⟩) hp v9).setCell (p := ⟨p, 10, none⟩) hp v10).setCell (p := ⟨p, 11, none⟩) hp v11)
theorem Id {w : World} {p k : Nat} (hk : k ≠ p) (v0 v1 v2 v3 v4 v5 v6 v7 v8 v9 v10 v11 : Value) : ((((((((((((w.setCell p v0).setCell ⟨p, 1, none⟩ v1).setCell ⟨p, 2, none⟩ v2).setCell ⟨p, 3, none⟩ v3).setCell ⟨p, 4, none⟩ v4).setCell ⟨p, 5, none⟩ v5).setCell ⟨p, 6, none⟩ v6).setCell ⟨p, 7, none⟩ v7).setCell ⟨p, 8, none⟩ v8).setCell ⟨p, 9, none⟩ v9).setCell ⟨p, 10, none⟩ v10).setCell ⟨p, 11, none⟩ v11).heap[k]? = w.heap[k]? := by
 rw [Vz _ _ _ _ hk, Vz _ _ _ _ hk, Vz _ _ _ _ hk, Vz _ _ _ _ hk, Vz _ _ _ _ hk, Vz _ _ _ _ hk, Vz _ _ _ _ hk, Vz _ _ _ _ hk, Vz _ _ _ _ hk, Vz _ _ _ _ hk, Vz _ _ _ _ hk, Vz _ _ _ _ hk]
theorem Oa {Av : Nat → Prop} {a w : World} {p : Nat} (hb : Pres Av a w) (hp : a.heap.size ≤ p) (v0 v1 v2 v3 v4 v5 v6 v7 v8 v9 v10 v11 : Value) : Pres Av a ((((((((((((w.setCell p v0).setCell ⟨p, 1, none⟩ v1).setCell ⟨p, 2, none⟩ v2).setCell ⟨p, 3, none⟩ v3).setCell ⟨p, 4, none⟩ v4).setCell ⟨p, 5, none⟩ v5).setCell ⟨p, 6, none⟩ v6).setCell ⟨p, 7, none⟩ v7).setCell ⟨p, 8, none⟩ v8).setCell ⟨p, 9, none⟩ v9).setCell ⟨p, 10, none⟩ v10).setCell ⟨p, 11, none⟩ v11) := ((((((((((((hb.setNew (p := p) hp v0).setNew (p := ⟨p, 1, none⟩) hp v1).setNew (p := ⟨p, 2, none⟩) hp v2).setNew (p := ⟨p, 3, none⟩) hp v3).setNew (p := ⟨p, 4, none⟩) hp v4).setNew (p := ⟨p, 5, none⟩) hp v5).setNew (p := ⟨p, 6, none⟩) hp v6).setNew (p := ⟨p, 7, none⟩) hp v7).setNew (p := ⟨p, 8, none⟩) hp v8).setNew (p := ⟨p, 9, none⟩) hp v9).setNew (p := ⟨p, 10, none⟩) hp v10).setNew (p := ⟨p, 11, none⟩) hp v11)
theorem EP (b o : Nat) (cs : Array Value) (T : TypeId) (v : Value) (w : World) (h : GA w b o cs T v []) :
 Y 270 #[.pointer (some ⟨b, o, none⟩)] w fun e w' => e = Z (.tuple #[.agg (Msg.mk 0 0 false false Ln.zero).cells, false]) ∧ Below w w w' := by
 have hl := fun w' hb => DO b o cs T v w' (show GA w' b o cs T v [] from ⟨AB hb h.1, h.2.1, h.2.2.1.below hb, h.2.2.2⟩)
 have HB := Vw (AC w (.cells (Msg.mk 0 0 false false Ln.zero).cells 253))
 have HI := Vw (AE w (.cells (Msg.mk 0 0 false false Ln.zero).cells 253))
 simp only [Msg.cells, Ln.zero] at HB HI hl ⊢
 clear h
 go_enter func270, ntmps270
 go_wp2_with fail
 refine (hl _ HB.out).mono ?_
 rintro e w1 ⟨rfl, hb1⟩
 have hlt := Vy (AF HI.out) hb1.size
 have c1 := AA (AB hb1 HI.out)
 have f1 := AJ (AB hb1 HI.out)
 have c2 := AA (AB (AC w1 (.cells KB 253)) (AB hb1 HI.out))
 have f2 := AJ (AB (AC w1 (.cells KB 253)) (AB hb1 HI.out))
 go_wp2_with fail
 have hP := SU (AB hb1 HI.out) (I 0) (I 0) (.bool false) (.bool false) (U 0) (U 0) (U 0) (U 0) (U 0) (U 0) (U 0) (U 0)
 have hF := AB (AC _ (.cells KB 253)) hP
 have hB := (NN (p := w.heap.size) (HB.out.trans (hb1.mono HB.out.size)) (Nat.le_refl _) (I 0) (I 0) (.bool false) (.bool false) (U 0) (U 0) (U 0) (U 0) (U 0) (U 0) (U 0) (U 0)).alloc (by simp [World.setCell]; omega) (.cells KB 253)
 clear hP c1 c2 f1 f2
 generalize World.alloc _ _ = W5 at hF hB ⊢
 have c5 := AA hF
 refine bodyPost_ret (v := .tuple #[.agg KB, false]) (by simp [results, results270, go_sem, c5]) rfl ⟨rfl, hB⟩
theorem FP (l : List Msg) : (Ao l).length = l.length * 12 := by
 induction l with
 | nil => rfl
 | cons a l ih => simp only [Ao, List.flatMap_cons, List.length_append, List.length_cons] at *; simp [Msg.cells] at *; omega
theorem EQ (b o : Nat) (cs : Array Value) (T : TypeId) (v : Value) (m : Msg) (l : List Msg) (w : World) (h : GA w b o cs T v (m :: l)) :
 Y 270 #[.pointer (some ⟨b, o, none⟩)] w fun e w' => e = Z (.tuple #[.agg m.cells, true]) ∧ ∃ v', GA w' b o (cs.setIfInBounds o v') T v' l ∧ v'.ownBlock = v.ownBlock ∧ Pres (fun k => k ≠ b) w w' := by
 have hl := fun w' hb => DP b o cs T v m l w' (show GA w' b o cs T v (m :: l) from ⟨AB hb h.1, h.2.1, h.2.2.1.below hb, h.2.2.2⟩)
 have HB := Vw (AC w (.cells (Msg.mk 0 0 false false Ln.zero).cells 253))
 have HI := Vw (AE w (.cells (Msg.mk 0 0 false false Ln.zero).cells 253))
 obtain ⟨h1, h2, h3, h4⟩ := h
 obtain ⟨g, off, AV, gs, rfl, hg, hc1, hc2, hc3⟩ := h3.lies (by simp)
 have hbl := AF h1
 have hgl := AF hg
 have H := Vw (WA h1 (WA h2 (WA hg (WA hc1 (WA hc2 (WA hc3 h4))))))
 rw [List.length_cons] at hc1
 simp only [Msg.cells, Ln.zero, List.length_cons] at HB HI hl ⊢
 clear h1 h2 h3 h4 hg hc2 hc3
 go_enter func270, ntmps270
 go_wp2_with fail
 refine (hl _ HB.out).mono ?_
 rintro e w1 ⟨rfl, hb1⟩
 have hlt := Vy (AF HI.out) hb1.size
 have hw := HB.out.trans (hb1.mono HB.out.size)
 have c1 := AA (AB hb1 HI.out)
 have f1 := AJ (AB hb1 HI.out)
 have a1 : w1.cell? ⟨b, o, none⟩ = some (.slice (some ⟨g, off, none⟩) (l.length + 1) AV) := AD (AB hw H.out.1) o H.out.2.1
 have a2 := Aq (AB hw H.out.1) o
 have hlt2 : b < w1.heap.size := Vy hbl hw.size
 have hne : b ≠ w.heap.size := by omega
 have hne2 : w.heap.size ≠ b := by omega
 have fin : ∀ S W, W = World.alloc (((((((((((((w1.setCell ⟨b, o, none⟩ S).setCell w (I m.kind)).setCell ⟨w, 1, none⟩ (I m.line)).setCell ⟨w, 2, none⟩ (.bool m.dirty)).setCell ⟨w, 3, none⟩ (.bool m.kept)).setCell ⟨w, 4, none⟩ (U m.data.a)).setCell ⟨w, 5, none⟩ (U m.data.b)).setCell ⟨w, 6, none⟩ (U m.data.c)).setCell ⟨w, 7, none⟩ (U m.data.d)).setCell ⟨w, 8, none⟩ (U m.data.e)).setCell ⟨w, 9, none⟩ (U m.data.f)).setCell ⟨w, 10, none⟩ (U m.data.g)).setCell ⟨w, 11, none⟩ (U m.data.h)) (.cells m 253) → (∃ off' cap', S = Value.slice (some ⟨g, off', none⟩) l.length cap' ∧ AH w 253 12 S l.length (Ao l)) →
  W.heap[w.heap.size]? = some (.cells m 253) ∧ ∃ v', GA W b o (cs.setIfInBounds o v') T v' l ∧ v'.ownBlock = (Value.slice (some ⟨g, off, none⟩) (l.length + 1) AV).ownBlock ∧ Pres (fun k => ¬k = b) w W := by
  rintro S W rfl ⟨off', cap', rfl, hr⟩
  have e1 := (Vz w1 ⟨b, o, none⟩ (.slice (some ⟨g, off', none⟩) l.length cap') w.heap.size hne2).trans (AB hb1 HI.out)
  have e2 := AB (AC _ (.cells m 253)) (SU e1 (I m.kind) (I m.line) (.bool m.dirty) (.bool m.kept) (U m.data.a) (U m.data.b) (U m.data.c) (U m.data.d) (U m.data.e) (U m.data.f) (U m.data.g) (U m.data.h))
  have e3 := AB (AC _ (.cells m 253)) ((Id (p := w.heap.size) hne (I m.kind) (I m.line) (.bool m.dirty) (.bool m.kept) (U m.data.a) (U m.data.b) (U m.data.c) (U m.data.d) (U m.data.e) (U m.data.f) (U m.data.g) (U m.data.h)).trans (AI (AB hw H.out.1) o (.slice (some ⟨g, off', none⟩) l.length cap')))
  have hgb : g ≠ b := AG H.out.2.2.1 H.out.1 (fun e => H.out.2.2.2.2.2.2 e.symm)
  have hgp : g ≠ w.heap.size := by omega
  have e4 := AB (AC _ (.cells m 253)) ((Id (p := w.heap.size) hgp (I m.kind) (I m.line) (.bool m.dirty) (.bool m.kept) (U m.data.a) (U m.data.b) (U m.data.c) (U m.data.d) (U m.data.e) (U m.data.f) (U m.data.g) (U m.data.h)).trans ((Vz w1 ⟨b, o, none⟩ (.slice (some ⟨g, off', none⟩) l.length cap') g hgb).trans (AB hw H.out.2.2.1)))
  have hos : o < cs.size := (Array.getElem?_eq_some_iff.1 H.out.2.1).1
  refine ⟨e2, _, ⟨e3, by simp [hos], hr.kept (fun k hk => ?_), H.out.2.2.2.2.2.2⟩, rfl, (Oa ((Pres.of_below hw).setCell (p := ⟨b, o, none⟩) (by simp) _) (Nat.le_refl _) (I m.kind) (I m.line) (.bool m.dirty) (.bool m.kept) (U m.data.a) (U m.data.b) (U m.data.c) (U m.data.d) (U m.data.e) (U m.data.f) (U m.data.g) (U m.data.h)).alloc _⟩
  simp only [Value.ownBlock, Option.some.injEq] at hk
  subst hk
  exact e4.trans H.out.2.2.1.symm
 have rowA : 1 ≤ AV → AH w 253 12 (.slice (some ⟨g, off + 12, none⟩) l.length (AV - 1)) l.length (Ao l) := fun hc => ⟨FP l, .inr ⟨g, off + 12, AV - 1, gs, rfl, H.out.2.2.1, by have := H.out.2.2.2.1; simp at this; omega, by have := H.out.2.2.2.2.1; omega, fun j u hu => by
  have := H.out.2.2.2.2.2.1 (12 + j) u (by
   simp only [Ao, List.flatMap_cons]
   rw [List.getElem?_append_right (by simp [Msg.cells])]
   simpa [Msg.cells, Ao] using hu)
  rwa [← Nat.add_assoc] at this⟩⟩
 have rowB : l.length = 0 → AH w 253 12 (.slice (some ⟨g, off, none⟩) l.length 0) l.length (Ao l) := fun hc => ⟨FP l, .inr ⟨g, off, 0, gs, rfl, H.out.2.2.1, by omega, by have := H.out.2.2.2.2.1; omega, fun j u hu => by
  have := (List.getElem?_eq_some_iff.1 hu).1
  rw [FP, hc] at this
  omega⟩⟩
 have HF := Vw fin
 have HA := Vw rowA
 have HC := Vw rowB
 clear fin rowA rowB
 go_wp2_with fail
 all_goals
  generalize hW : World.alloc _ _ = W5
  have hx := HF.out _ W5 hW.symm ⟨_, _, rfl, by first | exact HA.out (by omega) | exact HC.out (by omega)⟩
  clear hW
  have c5 := AA hx.1
  refine bodyPost_ret (v := .tuple #[.agg m, true]) (by simp [results, results270, go_sem, c5]) rfl ⟨rfl, hx.2⟩
theorem Ub : ET prog 100 253 12 88 := ET.of underlying100 (z := .agg (Msg.mk 0 0 false false Ln.zero).cells) (by kernel_rfl) rfl
theorem Je (m : Msg) : ∀ u ∈ m.cells.toList, u.oneCell' = true := by
 intro u hu
 simp only [Msg.cells, List.mem_cons, List.not_mem_nil, or_false] at hu
 rcases hu with rfl | rfl | rfl | rfl | rfl | rfl | rfl | rfl | rfl | rfl | rfl | rfl <;> rfl
theorem DW (b o : Nat) (cs : Array Value) (T : TypeId) (v : Value) (m : Msg) (l : List Msg) (w : World) (h : GA w b o cs T v l) (hl : l.length < 1000) (hg : ∀ w, Y 320 #[.agg m.cells] w fun e w' => e = Z (.bool true) ∧ Below w w w') :
 Y 274 #[.pointer (some ⟨b, o, none⟩), .agg m.cells] w fun e w' => e = Z (I 0) ∧ ∃ v', GA w' b o (cs.setIfInBounds o v') T v' (l ++ [m]) ∧ Bf w v v' ∧ Pres (fun k => k ≠ b ∧ some k ≠ v.ownBlock) w w' := by
 have HB := Vw (AC w (.cells m.cells 253))
 have HI := Vw (AE w (.cells m.cells 253))
 obtain ⟨h1, h2, h3, h4⟩ := h
 obtain ⟨A, AV, rfl⟩ := h3.form
 have H := Vw (WA h1 (WA h2 (WA h3 h4)))
 have hl' : (l.length : Int) < 1000 := by omega
 simp only [Msg.cells] at HB HI hg ⊢
 clear h1 h2 h3 h4
 go_enter func274, ntmps274
 go_wp2_with fail
 refine (hg _).mono ?_
 rintro e w1 ⟨rfl, hb1⟩
 have hw := HB.out.trans (hb1.mono HB.out.size)
 have hi1 := AB hb1 HI.out
 have c1 := AA hi1
 have a1 : w1.cell? ⟨b, o, none⟩ = some (.slice A l.length AV) := AD (AB hw H.out.1) o H.out.2.1
 have a2 := Aq (AB hw H.out.1) o
 go_wp2_with fail
 have hba := AC w1 (.cells m 253)
 have a3 : (w1.alloc (.cells m 253)).cell? ⟨b, o, none⟩ = some (.slice A l.length AV) := AD (AB hba (AB hw H.out.1)) o H.out.2.1
 have HC := Vw hba
 have HR := Vw (H.out.2.2.1.below hw)
 have HE := Vw (AB hw H.out.1)
 have HW := Vw hw
 have HM := Vw (Je m)
 clear hba hw hi1
 go_region_law
  (first
   | (refine Bb (by rfl) (.tmp 23) (.tmp 25) 100 100 (by rfl) Ub (.slice A l.length AV) l.length (Ao l) (by rfl) (HR.out.below HC.out.drew) _ 1 _ (by rfl) (Src.one underlying100 (AE w1 _) rfl HM.out) (by omega) (by omega) ?_; intro A3 cap3 w3 hr3 hg3 hm3; have d0 : w3.cell? ⟨b, o, none⟩ = some (.slice A l.length AV) := AD (AW (HR.out.below HC.out.drew) hg3 (AB HC.out.drew HE.out) H.out.2.2.2) o H.out.2.1; have e0 := Aq (AW (HR.out.below HC.out.drew) hg3 (AB HC.out.drew HE.out) H.out.2.2.2) o))
 all_goals
  have hb3 := AW (HR.out.below HC.out.drew) hg3 (AB HC.out.drew HE.out) H.out.2.2.2
  have hos : o < cs.size := (Array.getElem?_eq_some_iff.1 H.out.2.1).1
  go_wp2_with fail
  go_ret
  have hr4 := hr3.stored hb3 H.out.2.2.2 o (.slice A3 (l.length + 1) cap3)
  have hp := ((((Pres.of_below (Av := fun k => ¬k = b ∧ ¬some k = (Value.slice A l.length AV).ownBlock) HW.out).trans (Pres.of_below HC.out.drew)).trans (Pres.of_grown hg3 (fun k hk ha => ha.2 hk.symm))).setCell (p := ⟨b, o, none⟩) (by simp) (.slice A3 (l.length + 1) cap3))
  refine ⟨rfl, .slice A3 (l.length + 1) cap3, ⟨AI hb3 o _, by simp [hos], ?_, H.out.2.2.2⟩, ?_, hp⟩
  · rw [List.length_append]
    simpa [Ao, Msg.cells] using hr4
  · rcases hm3 with e | ⟨g, e, hg4⟩
    · exact .inl e
    · exact .inr ⟨g, e, Vx (Vx HW.out.size HC.out.drew.size) hg4⟩
def Ln.cells (l : Ln) : List Value := [U l.a, U l.b, U l.c, U l.d, U l.e, U l.f, U l.g, U l.h]
def Bh (w : World) (d mb : Nat) (r s : Int) (L : List Ln) : Prop :=
 w.heap[d]? = some (.cells #[.slice (some mb) 5 5, I 1, I r, I s] 292) ∧ w.heap[mb]? = some (.cells (L.flatMap Ln.cells).toArray 109) ∧ L.length = 5
theorem CJ (d mb : Nat) (r s k : Int) (L : List Ln) (h0 : 0 ≤ k) (h1 : k < 5) (w : World) (h : Bh w d mb r s L) : Y 390 #[d, I k] w fun e w' => e = Z (I 0) ∧ w = w' := by
 have c1 := AA h.1
 clear h
 go_enter func390, ntmps390
 go_wp2_with fail
 go_ret
 exact ⟨rfl, rfl⟩
def Slot.cells (s : Slot) : Array Value := s
def Ent.cells (e : Ent) : List Value := [.bool e.here, .bool e.dirty, U e.data.a, U e.data.b, U e.data.c, U e.data.d, U e.data.e, U e.data.f, U e.data.g, U e.data.h, I e.owner, .int .u8 e.share, I e.busy, I e.who, .int .u8 e.wait]
def MQ (l : List Ent) : List Value := l.flatMap Ent.cells
def ST (l : List (Int × Ln)) : List Value := l.flatMap fun x => I x.1 :: Ln.cells x.2
structure ArrAt (w : World) (ab sb : Nat) (a : Arr) : Prop where
 head : w.heap[ab]? = some (.cells #[I 1, I 2, .slice (some sb) 2 2, I a.used] 301)
 row : w.heap[sb]? = some (.cells #[I a.s0.st, I a.s0.line, U a.s0.data.a, U a.s0.data.b, U a.s0.data.c, U a.s0.data.d, U a.s0.data.e, U a.s0.data.f, U a.s0.data.g, U a.s0.data.h, I a.s0.used, I a.s1.st, I a.s1.line, U a.s1.data.a, U a.s1.data.b, U a.s1.data.c, U a.s1.data.d, U a.s1.data.e, U a.s1.data.f, U a.s1.data.g, U a.s1.data.h, I a.s1.used] 111)
theorem ArrAt.kept {w w' : World} {ab sb : Nat} {a : Arr} (h : ArrAt w ab sb a) (h1 : w'.heap[ab]? = w.heap[ab]?) (h2 : w'.heap[sb]? = w.heap[sb]?) : ArrAt w' ab sb a := ⟨h1.trans h.head, h2.trans h.row⟩
theorem ArrAt.below {w w' : World} {ab sb : Nat} {a : Arr} (h : ArrAt w ab sb a) (hb : Below w w w') : ArrAt w' ab sb a := ⟨AB hb h.head, AB hb h.row⟩
structure SL where
 sb : Nat
 nb : Nat
 db : Nat
 qb : Nat
 dv : Nat
 mb : Nat
 g0 : Nat
 g1 : Nat
 a0 : Nat
 a1 : Nat
 l0 : Nat
 l1 : Nat
structure SV where
 u0 : Value
 s0 : Value
 d0 : Value
 u1 : Value
 s1 : Value
 d1 : Value
 q : Value
 steps : Int
 rd : Int
 wr : Int
def JA (L : SL) (V : SV) : Array Value := #[I 2, I 5, I 1, I 1, I 2, I 2, I 2, .slice (some L.nb) 2 2, .slice (some L.db) 5 5, L.qb, I V.steps]
def BB (L : SL) (V : SV) : Array Value := #[L.g0, V.u0, V.s0, V.d0, L.g1, V.u1, V.s1, V.d1]
def Fq (T : Nat → Nat) (v : Value) (r : Nat) : Prop := ∀ k, v.ownBlock = some k → T k = r
structure SysAt (T : Nat → Nat) (w : World) (L : SL) (V : SV) (s : Sys) : Prop where
 sys : w.heap[L.sb]? = some (.cells (JA L V) 190)
 nodes : w.heap[L.nb]? = some (.cells (BB L V) 183)
 ag0 : w.heap[L.g0]? = some (.cells #[L.a0] 262)
 ag1 : w.heap[L.g1]? = some (.cells #[L.a1] 262)
 arr0 : ArrAt w L.a0 L.l0 s.n0.arr
 arr1 : ArrAt w L.a1 L.l1 s.n1.arr
 ru0 : AH w 253 12 V.u0 s.n0.up.length (Ao s.n0.up)
 rs0 : AH w 253 12 V.s0 s.n0.ans.length (Ao s.n0.ans)
 rd0 : AH w 253 12 V.d0 s.n0.down.length (Ao s.n0.down)
 ru1 : AH w 253 12 V.u1 s.n1.up.length (Ao s.n1.up)
 rs1 : AH w 253 12 V.s1 s.n1.ans.length (Ao s.n1.ans)
 rd1 : AH w 253 12 V.d1 s.n1.down.length (Ao s.n1.down)
 dir : w.heap[L.db]? = some (.cells (MQ s.dir).toArray 114)
 dlen : s.dir.length = 5
 wq : w.heap[L.qb]? = some (.cells #[L.dv, I 2, V.q] 295)
 rq : AH w 304 9 V.q s.wq.length (ST s.wq)
 mem : Bh w L.dv L.mb V.rd V.wr s.mem
 tsb : T L.sb = 1
 tnb : T L.nb = 2
 tdb : T L.db = 3
 tqb : T L.qb = 4
 tdv : T L.dv = 5
 tmb : T L.mb = 6
 tg0 : T L.g0 = 7
 tg1 : T L.g1 = 8
 ta0 : T L.a0 = 9
 ta1 : T L.a1 = 10
 tl0 : T L.l0 = 11
 tl1 : T L.l1 = 12
 tu0 : Fq T V.u0 13
 ts0 : Fq T V.s0 14
 td0 : Fq T V.d0 15
 tu1 : Fq T V.u1 16
 ts1 : Fq T V.s1 17
 td1 : Fq T V.d1 18
 tq : Fq T V.q 19
 low : ∀ k, T k ≠ 0 → k < w.heap.size
abbrev Ad (c : Nat → Bool) (T : Nat → Nat) (w w' : World) : Prop := Pres (fun k => c (T k) = false) w w'
theorem AM {c : Nat → Bool} {T : Nat → Nat} {w w' : World} (hp : Ad c T w w') {b r : Nat} {o : Obj} (h : w.heap[b]? = some o) (ht : T b = r) (hc : c r = false) : w'.heap[b]? = some o :=
 (hp.block b (AF h) (by show c (T b) = false; rw [ht]; exact hc)).trans h
theorem AQ {c : Nat → Bool} {T : Nat → Nat} {w w' : World} (hp : Ad c T w w') {e size n r : Nat} {v : Value} {xs : List Value} (h : AH w e size v n xs) (ht : Fq T v r) (hc : c r = false) : AH w' e size v n xs :=
 h.kept fun k hk => hp.block k (h.lt k hk) (by show c (T k) = false; rw [ht k hk]; exact hc)
theorem BC {c : Nat → Bool} {T : Nat → Nat} {w w' : World} (hp : Ad c T w w') {ab sb r q : Nat} {a : Arr} (h : ArrAt w ab sb a) (ht : T ab = r) (hc : c r = false) (ht2 : T sb = q) (hc2 : c q = false) : ArrAt w' ab sb a :=
 ⟨AM hp h.head ht hc, AM hp h.row ht2 hc2⟩
theorem CU {c : Nat → Bool} {T : Nat → Nat} {w w' : World} (hp : Ad c T w w') {d mb : Nat} {r s : Int} {l : List Ln} (h : Bh w d mb r s l) (ht : T d = 5) (hc : c 5 = false) (ht2 : T mb = 6) (hc2 : c 6 = false) : Bh w' d mb r s l :=
 ⟨AM hp h.1 ht hc, AM hp h.2.1 ht2 hc2, h.2.2⟩
def relab (T : Nat → Nat) (v : Value) (r : Nat) : Nat → Nat := fun k => if v.ownBlock = some k then r else T k
theorem BA {T : Nat → Nat} {w : World} {v v' : Value} {r : Nat} (hm : Bf w v v') (hl : Fq T v r) (low : ∀ k, T k ≠ 0 → k < w.heap.size) {b : Nat} (hb : b < w.heap.size) : relab T v' r b = T b := by
 unfold relab
 split
 · rename_i h
   rcases hm with e | ⟨g, e, hg⟩
   · exact (hl b (e ▸ h)).symm
   · rw [h] at e; cases e; omega
 · rfl
theorem Dd {T : Nat → Nat} {v' : Value} {r : Nat} : Fq (relab T v' r) v' r := fun k hk => by simp [relab, hk]
theorem SysAt.keep {T : Nat → Nat} {w w' : World} {L : SL} {V : SV} {s : Sys} (h : SysAt T w L V s) (hp : Ad (fun n => n == 0 || decide (20 ≤ n)) T w w') : SysAt T w' L V s :=
 ⟨AM hp h.sys h.tsb rfl, AM hp h.nodes h.tnb rfl, AM hp h.ag0 h.tg0 rfl, AM hp h.ag1 h.tg1 rfl, BC hp h.arr0 h.ta0 rfl h.tl0 rfl, BC hp h.arr1 h.ta1 rfl h.tl1 rfl, AQ hp h.ru0 h.tu0 rfl, AQ hp h.rs0 h.ts0 rfl, AQ hp h.rd0 h.td0 rfl, AQ hp h.ru1 h.tu1 rfl, AQ hp h.rs1 h.ts1 rfl, AQ hp h.rd1 h.td1 rfl, AM hp h.dir h.tdb rfl, h.dlen, AM hp h.wq h.tqb rfl, AQ hp h.rq h.tq rfl, CU hp h.mem h.tdv rfl h.tmb rfl, h.tsb, h.tnb, h.tdb, h.tqb, h.tdv, h.tmb, h.tg0, h.tg1, h.ta0, h.ta1, h.tl0, h.tl1, h.tu0, h.ts0, h.td0, h.tu1, h.ts1, h.td1, h.tq, fun k hk => Vy (h.low k hk) hp.size⟩
theorem SysAt.below {T : Nat → Nat} {w w' : World} {L : SL} {V : SV} {s : Sys} (h : SysAt T w L V s) (hb : Below w w w') : SysAt T w' L V s := h.keep (Pres.of_below hb)
theorem SysAt.setArr0 {T : Nat → Nat} {w w' : World} {L : SL} {V : SV} {s : Sys} (h : SysAt T w L V s) {a : Arr} (hp : Ad (fun n => n == 9 || n == 11) T w w') (ha : ArrAt w' L.a0 L.l0 a) : SysAt T w' L V { s with n0 := { s.n0 with arr := a } } :=
 ⟨AM hp h.sys h.tsb rfl, AM hp h.nodes h.tnb rfl, AM hp h.ag0 h.tg0 rfl, AM hp h.ag1 h.tg1 rfl, ha, BC hp h.arr1 h.ta1 rfl h.tl1 rfl, AQ hp h.ru0 h.tu0 rfl, AQ hp h.rs0 h.ts0 rfl, AQ hp h.rd0 h.td0 rfl, AQ hp h.ru1 h.tu1 rfl, AQ hp h.rs1 h.ts1 rfl, AQ hp h.rd1 h.td1 rfl, AM hp h.dir h.tdb rfl, h.dlen, AM hp h.wq h.tqb rfl, AQ hp h.rq h.tq rfl, CU hp h.mem h.tdv rfl h.tmb rfl, h.tsb, h.tnb, h.tdb, h.tqb, h.tdv, h.tmb, h.tg0, h.tg1, h.ta0, h.ta1, h.tl0, h.tl1, h.tu0, h.ts0, h.td0, h.tu1, h.ts1, h.td1, h.tq, fun k hk => Vy (h.low k hk) hp.size⟩
theorem SysAt.setArr1 {T : Nat → Nat} {w w' : World} {L : SL} {V : SV} {s : Sys} (h : SysAt T w L V s) {a : Arr} (hp : Ad (fun n => n == 10 || n == 12) T w w') (ha : ArrAt w' L.a1 L.l1 a) : SysAt T w' L V { s with n1 := { s.n1 with arr := a } } :=
 ⟨AM hp h.sys h.tsb rfl, AM hp h.nodes h.tnb rfl, AM hp h.ag0 h.tg0 rfl, AM hp h.ag1 h.tg1 rfl, BC hp h.arr0 h.ta0 rfl h.tl0 rfl, ha, AQ hp h.ru0 h.tu0 rfl, AQ hp h.rs0 h.ts0 rfl, AQ hp h.rd0 h.td0 rfl, AQ hp h.ru1 h.tu1 rfl, AQ hp h.rs1 h.ts1 rfl, AQ hp h.rd1 h.td1 rfl, AM hp h.dir h.tdb rfl, h.dlen, AM hp h.wq h.tqb rfl, AQ hp h.rq h.tq rfl, CU hp h.mem h.tdv rfl h.tmb rfl, h.tsb, h.tnb, h.tdb, h.tqb, h.tdv, h.tmb, h.tg0, h.tg1, h.ta0, h.ta1, h.tl0, h.tl1, h.tu0, h.ts0, h.td0, h.tu1, h.ts1, h.td1, h.tq, fun k hk => Vy (h.low k hk) hp.size⟩
theorem SysAt.setDir {T : Nat → Nat} {w w' : World} {L : SL} {V : SV} {s : Sys} (h : SysAt T w L V s) {l : List Ent} (hp : Ad (fun n => n == 3) T w w') (hd : w'.heap[L.db]? = some (.cells (MQ l).toArray 114)) (hl : l.length = 5) : SysAt T w' L V { s with dir := l } :=
 ⟨AM hp h.sys h.tsb rfl, AM hp h.nodes h.tnb rfl, AM hp h.ag0 h.tg0 rfl, AM hp h.ag1 h.tg1 rfl, BC hp h.arr0 h.ta0 rfl h.tl0 rfl, BC hp h.arr1 h.ta1 rfl h.tl1 rfl, AQ hp h.ru0 h.tu0 rfl, AQ hp h.rs0 h.ts0 rfl, AQ hp h.rd0 h.td0 rfl, AQ hp h.ru1 h.tu1 rfl, AQ hp h.rs1 h.ts1 rfl, AQ hp h.rd1 h.td1 rfl, hd, hl, AM hp h.wq h.tqb rfl, AQ hp h.rq h.tq rfl, CU hp h.mem h.tdv rfl h.tmb rfl, h.tsb, h.tnb, h.tdb, h.tqb, h.tdv, h.tmb, h.tg0, h.tg1, h.ta0, h.ta1, h.tl0, h.tl1, h.tu0, h.ts0, h.td0, h.tu1, h.ts1, h.td1, h.tq, fun k hk => Vy (h.low k hk) hp.size⟩
theorem SysAt.setSteps {T : Nat → Nat} {w w' : World} {L : SL} {V : SV} {s : Sys} (h : SysAt T w L V s) {n : Int} (hp : Ad (fun n => n == 1) T w w') (hd : w'.heap[L.sb]? = some (.cells (JA L { V with steps := n }) 190)) : SysAt T w' L { V with steps := n } s :=
 ⟨hd, AM hp h.nodes h.tnb rfl, AM hp h.ag0 h.tg0 rfl, AM hp h.ag1 h.tg1 rfl, BC hp h.arr0 h.ta0 rfl h.tl0 rfl, BC hp h.arr1 h.ta1 rfl h.tl1 rfl, AQ hp h.ru0 h.tu0 rfl, AQ hp h.rs0 h.ts0 rfl, AQ hp h.rd0 h.td0 rfl, AQ hp h.ru1 h.tu1 rfl, AQ hp h.rs1 h.ts1 rfl, AQ hp h.rd1 h.td1 rfl, AM hp h.dir h.tdb rfl, h.dlen, AM hp h.wq h.tqb rfl, AQ hp h.rq h.tq rfl, CU hp h.mem h.tdv rfl h.tmb rfl, h.tsb, h.tnb, h.tdb, h.tqb, h.tdv, h.tmb, h.tg0, h.tg1, h.ta0, h.ta1, h.tl0, h.tl1, h.tu0, h.ts0, h.td0, h.tu1, h.ts1, h.td1, h.tq, fun k hk => Vy (h.low k hk) hp.size⟩
theorem SysAt.setMem {T : Nat → Nat} {w w' : World} {L : SL} {V : SV} {s : Sys} (h : SysAt T w L V s) {r q : Int} {l : List Ln} (hp : Ad (fun n => n == 5 || n == 6) T w w') (hd : Bh w' L.dv L.mb r q l) : SysAt T w' L { V with rd := r, wr := q } { s with mem := l } :=
 ⟨AM hp h.sys h.tsb rfl, AM hp h.nodes h.tnb rfl, AM hp h.ag0 h.tg0 rfl, AM hp h.ag1 h.tg1 rfl, BC hp h.arr0 h.ta0 rfl h.tl0 rfl, BC hp h.arr1 h.ta1 rfl h.tl1 rfl, AQ hp h.ru0 h.tu0 rfl, AQ hp h.rs0 h.ts0 rfl, AQ hp h.rd0 h.td0 rfl, AQ hp h.ru1 h.tu1 rfl, AQ hp h.rs1 h.ts1 rfl, AQ hp h.rd1 h.td1 rfl, AM hp h.dir h.tdb rfl, h.dlen, AM hp h.wq h.tqb rfl, AQ hp h.rq h.tq rfl, hd, h.tsb, h.tnb, h.tdb, h.tqb, h.tdv, h.tmb, h.tg0, h.tg1, h.ta0, h.ta1, h.tl0, h.tl1, h.tu0, h.ts0, h.td0, h.tu1, h.ts1, h.td1, h.tq, fun k hk => Vy (h.low k hk) hp.size⟩
theorem Dc {T : Nat → Nat} {w w' : World} {v : Value} {r : Nat} (low : ∀ k, T k ≠ 0 → k < w.heap.size) (hs : w.heap.size ≤ w'.heap.size) (hv : ∀ k, v.ownBlock = some k → k < w'.heap.size) : ∀ k, relab T v r k ≠ 0 → k < w'.heap.size := by
 intro k hk
 unfold relab at hk
 split at hk
 · rename_i h; exact hv k h
 · exact Vy (low k hk) hs
theorem SysAt.set_u0 {T : Nat → Nat} {w w' : World} {L : SL} {V : SV} {s : Sys} (h : SysAt T w L V s) {v : Value} {l : List Msg} (hp : Ad (fun n => n == 2 || n == 13) T w w') (hn : w'.heap[L.nb]? = some (.cells (BB L { V with u0 := v }) 183)) (hr : AH w' 253 12 v l.length (Ao l)) (hm : Bf w V.u0 v) : SysAt (relab T v 13) w' L { V with u0 := v } { s with n0 := { s.n0 with up := l } } :=
 have hsame : ∀ b, b < w.heap.size → relab T v 13 b = T b := fun b hb => BA hm h.tu0 h.low hb
 ⟨AM hp h.sys h.tsb rfl, hn, AM hp h.ag0 h.tg0 rfl, AM hp h.ag1 h.tg1 rfl, BC hp h.arr0 h.ta0 rfl h.tl0 rfl, BC hp h.arr1 h.ta1 rfl h.tl1 rfl, hr, AQ hp h.rs0 h.ts0 rfl, AQ hp h.rd0 h.td0 rfl, AQ hp h.ru1 h.tu1 rfl, AQ hp h.rs1 h.ts1 rfl, AQ hp h.rd1 h.td1 rfl, AM hp h.dir h.tdb rfl, h.dlen, AM hp h.wq h.tqb rfl, AQ hp h.rq h.tq rfl, CU hp h.mem h.tdv rfl h.tmb rfl, (hsame _ (h.low _ (by rw [h.tsb]; decide))).trans h.tsb, (hsame _ (h.low _ (by rw [h.tnb]; decide))).trans h.tnb, (hsame _ (h.low _ (by rw [h.tdb]; decide))).trans h.tdb, (hsame _ (h.low _ (by rw [h.tqb]; decide))).trans h.tqb, (hsame _ (h.low _ (by rw [h.tdv]; decide))).trans h.tdv, (hsame _ (h.low _ (by rw [h.tmb]; decide))).trans h.tmb, (hsame _ (h.low _ (by rw [h.tg0]; decide))).trans h.tg0, (hsame _ (h.low _ (by rw [h.tg1]; decide))).trans h.tg1, (hsame _ (h.low _ (by rw [h.ta0]; decide))).trans h.ta0, (hsame _ (h.low _ (by rw [h.ta1]; decide))).trans h.ta1, (hsame _ (h.low _ (by rw [h.tl0]; decide))).trans h.tl0, (hsame _ (h.low _ (by rw [h.tl1]; decide))).trans h.tl1, Dd, fun k hk => (hsame _ (h.rs0.lt k hk)).trans (h.ts0 k hk), fun k hk => (hsame _ (h.rd0.lt k hk)).trans (h.td0 k hk), fun k hk => (hsame _ (h.ru1.lt k hk)).trans (h.tu1 k hk), fun k hk => (hsame _ (h.rs1.lt k hk)).trans (h.ts1 k hk), fun k hk => (hsame _ (h.rd1.lt k hk)).trans (h.td1 k hk), fun k hk => (hsame _ (h.rq.lt k hk)).trans (h.tq k hk), Dc h.low hp.size hr.lt⟩
theorem SysAt.set_s0 {T : Nat → Nat} {w w' : World} {L : SL} {V : SV} {s : Sys} (h : SysAt T w L V s) {v : Value} {l : List Msg} (hp : Ad (fun n => n == 2 || n == 14) T w w') (hn : w'.heap[L.nb]? = some (.cells (BB L { V with s0 := v }) 183)) (hr : AH w' 253 12 v l.length (Ao l)) (hm : Bf w V.s0 v) : SysAt (relab T v 14) w' L { V with s0 := v } { s with n0 := { s.n0 with ans := l } } :=
 have hsame : ∀ b, b < w.heap.size → relab T v 14 b = T b := fun b hb => BA hm h.ts0 h.low hb
 ⟨AM hp h.sys h.tsb rfl, hn, AM hp h.ag0 h.tg0 rfl, AM hp h.ag1 h.tg1 rfl, BC hp h.arr0 h.ta0 rfl h.tl0 rfl, BC hp h.arr1 h.ta1 rfl h.tl1 rfl, AQ hp h.ru0 h.tu0 rfl, hr, AQ hp h.rd0 h.td0 rfl, AQ hp h.ru1 h.tu1 rfl, AQ hp h.rs1 h.ts1 rfl, AQ hp h.rd1 h.td1 rfl, AM hp h.dir h.tdb rfl, h.dlen, AM hp h.wq h.tqb rfl, AQ hp h.rq h.tq rfl, CU hp h.mem h.tdv rfl h.tmb rfl, (hsame _ (h.low _ (by rw [h.tsb]; decide))).trans h.tsb, (hsame _ (h.low _ (by rw [h.tnb]; decide))).trans h.tnb, (hsame _ (h.low _ (by rw [h.tdb]; decide))).trans h.tdb, (hsame _ (h.low _ (by rw [h.tqb]; decide))).trans h.tqb, (hsame _ (h.low _ (by rw [h.tdv]; decide))).trans h.tdv, (hsame _ (h.low _ (by rw [h.tmb]; decide))).trans h.tmb, (hsame _ (h.low _ (by rw [h.tg0]; decide))).trans h.tg0, (hsame _ (h.low _ (by rw [h.tg1]; decide))).trans h.tg1, (hsame _ (h.low _ (by rw [h.ta0]; decide))).trans h.ta0, (hsame _ (h.low _ (by rw [h.ta1]; decide))).trans h.ta1, (hsame _ (h.low _ (by rw [h.tl0]; decide))).trans h.tl0, (hsame _ (h.low _ (by rw [h.tl1]; decide))).trans h.tl1, fun k hk => (hsame _ (h.ru0.lt k hk)).trans (h.tu0 k hk), Dd, fun k hk => (hsame _ (h.rd0.lt k hk)).trans (h.td0 k hk), fun k hk => (hsame _ (h.ru1.lt k hk)).trans (h.tu1 k hk), fun k hk => (hsame _ (h.rs1.lt k hk)).trans (h.ts1 k hk), fun k hk => (hsame _ (h.rd1.lt k hk)).trans (h.td1 k hk), fun k hk => (hsame _ (h.rq.lt k hk)).trans (h.tq k hk), Dc h.low hp.size hr.lt⟩
theorem SysAt.set_d0 {T : Nat → Nat} {w w' : World} {L : SL} {V : SV} {s : Sys} (h : SysAt T w L V s) {v : Value} {l : List Msg} (hp : Ad (fun n => n == 2 || n == 15) T w w') (hn : w'.heap[L.nb]? = some (.cells (BB L { V with d0 := v }) 183)) (hr : AH w' 253 12 v l.length (Ao l)) (hm : Bf w V.d0 v) : SysAt (relab T v 15) w' L { V with d0 := v } { s with n0 := { s.n0 with down := l } } :=
 have hsame : ∀ b, b < w.heap.size → relab T v 15 b = T b := fun b hb => BA hm h.td0 h.low hb
 ⟨AM hp h.sys h.tsb rfl, hn, AM hp h.ag0 h.tg0 rfl, AM hp h.ag1 h.tg1 rfl, BC hp h.arr0 h.ta0 rfl h.tl0 rfl, BC hp h.arr1 h.ta1 rfl h.tl1 rfl, AQ hp h.ru0 h.tu0 rfl, AQ hp h.rs0 h.ts0 rfl, hr, AQ hp h.ru1 h.tu1 rfl, AQ hp h.rs1 h.ts1 rfl, AQ hp h.rd1 h.td1 rfl, AM hp h.dir h.tdb rfl, h.dlen, AM hp h.wq h.tqb rfl, AQ hp h.rq h.tq rfl, CU hp h.mem h.tdv rfl h.tmb rfl, (hsame _ (h.low _ (by rw [h.tsb]; decide))).trans h.tsb, (hsame _ (h.low _ (by rw [h.tnb]; decide))).trans h.tnb, (hsame _ (h.low _ (by rw [h.tdb]; decide))).trans h.tdb, (hsame _ (h.low _ (by rw [h.tqb]; decide))).trans h.tqb, (hsame _ (h.low _ (by rw [h.tdv]; decide))).trans h.tdv, (hsame _ (h.low _ (by rw [h.tmb]; decide))).trans h.tmb, (hsame _ (h.low _ (by rw [h.tg0]; decide))).trans h.tg0, (hsame _ (h.low _ (by rw [h.tg1]; decide))).trans h.tg1, (hsame _ (h.low _ (by rw [h.ta0]; decide))).trans h.ta0, (hsame _ (h.low _ (by rw [h.ta1]; decide))).trans h.ta1, (hsame _ (h.low _ (by rw [h.tl0]; decide))).trans h.tl0, (hsame _ (h.low _ (by rw [h.tl1]; decide))).trans h.tl1, fun k hk => (hsame _ (h.ru0.lt k hk)).trans (h.tu0 k hk), fun k hk => (hsame _ (h.rs0.lt k hk)).trans (h.ts0 k hk), Dd, fun k hk => (hsame _ (h.ru1.lt k hk)).trans (h.tu1 k hk), fun k hk => (hsame _ (h.rs1.lt k hk)).trans (h.ts1 k hk), fun k hk => (hsame _ (h.rd1.lt k hk)).trans (h.td1 k hk), fun k hk => (hsame _ (h.rq.lt k hk)).trans (h.tq k hk), Dc h.low hp.size hr.lt⟩
theorem SysAt.set_u1 {T : Nat → Nat} {w w' : World} {L : SL} {V : SV} {s : Sys} (h : SysAt T w L V s) {v : Value} {l : List Msg} (hp : Ad (fun n => n == 2 || n == 16) T w w') (hn : w'.heap[L.nb]? = some (.cells (BB L { V with u1 := v }) 183)) (hr : AH w' 253 12 v l.length (Ao l)) (hm : Bf w V.u1 v) : SysAt (relab T v 16) w' L { V with u1 := v } { s with n1 := { s.n1 with up := l } } :=
 have hsame : ∀ b, b < w.heap.size → relab T v 16 b = T b := fun b hb => BA hm h.tu1 h.low hb
 ⟨AM hp h.sys h.tsb rfl, hn, AM hp h.ag0 h.tg0 rfl, AM hp h.ag1 h.tg1 rfl, BC hp h.arr0 h.ta0 rfl h.tl0 rfl, BC hp h.arr1 h.ta1 rfl h.tl1 rfl, AQ hp h.ru0 h.tu0 rfl, AQ hp h.rs0 h.ts0 rfl, AQ hp h.rd0 h.td0 rfl, hr, AQ hp h.rs1 h.ts1 rfl, AQ hp h.rd1 h.td1 rfl, AM hp h.dir h.tdb rfl, h.dlen, AM hp h.wq h.tqb rfl, AQ hp h.rq h.tq rfl, CU hp h.mem h.tdv rfl h.tmb rfl, (hsame _ (h.low _ (by rw [h.tsb]; decide))).trans h.tsb, (hsame _ (h.low _ (by rw [h.tnb]; decide))).trans h.tnb, (hsame _ (h.low _ (by rw [h.tdb]; decide))).trans h.tdb, (hsame _ (h.low _ (by rw [h.tqb]; decide))).trans h.tqb, (hsame _ (h.low _ (by rw [h.tdv]; decide))).trans h.tdv, (hsame _ (h.low _ (by rw [h.tmb]; decide))).trans h.tmb, (hsame _ (h.low _ (by rw [h.tg0]; decide))).trans h.tg0, (hsame _ (h.low _ (by rw [h.tg1]; decide))).trans h.tg1, (hsame _ (h.low _ (by rw [h.ta0]; decide))).trans h.ta0, (hsame _ (h.low _ (by rw [h.ta1]; decide))).trans h.ta1, (hsame _ (h.low _ (by rw [h.tl0]; decide))).trans h.tl0, (hsame _ (h.low _ (by rw [h.tl1]; decide))).trans h.tl1, fun k hk => (hsame _ (h.ru0.lt k hk)).trans (h.tu0 k hk), fun k hk => (hsame _ (h.rs0.lt k hk)).trans (h.ts0 k hk), fun k hk => (hsame _ (h.rd0.lt k hk)).trans (h.td0 k hk), Dd, fun k hk => (hsame _ (h.rs1.lt k hk)).trans (h.ts1 k hk), fun k hk => (hsame _ (h.rd1.lt k hk)).trans (h.td1 k hk), fun k hk => (hsame _ (h.rq.lt k hk)).trans (h.tq k hk), Dc h.low hp.size hr.lt⟩
theorem SysAt.set_s1 {T : Nat → Nat} {w w' : World} {L : SL} {V : SV} {s : Sys} (h : SysAt T w L V s) {v : Value} {l : List Msg} (hp : Ad (fun n => n == 2 || n == 17) T w w') (hn : w'.heap[L.nb]? = some (.cells (BB L { V with s1 := v }) 183)) (hr : AH w' 253 12 v l.length (Ao l)) (hm : Bf w V.s1 v) : SysAt (relab T v 17) w' L { V with s1 := v } { s with n1 := { s.n1 with ans := l } } :=
 have hsame : ∀ b, b < w.heap.size → relab T v 17 b = T b := fun b hb => BA hm h.ts1 h.low hb
 ⟨AM hp h.sys h.tsb rfl, hn, AM hp h.ag0 h.tg0 rfl, AM hp h.ag1 h.tg1 rfl, BC hp h.arr0 h.ta0 rfl h.tl0 rfl, BC hp h.arr1 h.ta1 rfl h.tl1 rfl, AQ hp h.ru0 h.tu0 rfl, AQ hp h.rs0 h.ts0 rfl, AQ hp h.rd0 h.td0 rfl, AQ hp h.ru1 h.tu1 rfl, hr, AQ hp h.rd1 h.td1 rfl, AM hp h.dir h.tdb rfl, h.dlen, AM hp h.wq h.tqb rfl, AQ hp h.rq h.tq rfl, CU hp h.mem h.tdv rfl h.tmb rfl, (hsame _ (h.low _ (by rw [h.tsb]; decide))).trans h.tsb, (hsame _ (h.low _ (by rw [h.tnb]; decide))).trans h.tnb, (hsame _ (h.low _ (by rw [h.tdb]; decide))).trans h.tdb, (hsame _ (h.low _ (by rw [h.tqb]; decide))).trans h.tqb, (hsame _ (h.low _ (by rw [h.tdv]; decide))).trans h.tdv, (hsame _ (h.low _ (by rw [h.tmb]; decide))).trans h.tmb, (hsame _ (h.low _ (by rw [h.tg0]; decide))).trans h.tg0, (hsame _ (h.low _ (by rw [h.tg1]; decide))).trans h.tg1, (hsame _ (h.low _ (by rw [h.ta0]; decide))).trans h.ta0, (hsame _ (h.low _ (by rw [h.ta1]; decide))).trans h.ta1, (hsame _ (h.low _ (by rw [h.tl0]; decide))).trans h.tl0, (hsame _ (h.low _ (by rw [h.tl1]; decide))).trans h.tl1, fun k hk => (hsame _ (h.ru0.lt k hk)).trans (h.tu0 k hk), fun k hk => (hsame _ (h.rs0.lt k hk)).trans (h.ts0 k hk), fun k hk => (hsame _ (h.rd0.lt k hk)).trans (h.td0 k hk), fun k hk => (hsame _ (h.ru1.lt k hk)).trans (h.tu1 k hk), Dd, fun k hk => (hsame _ (h.rd1.lt k hk)).trans (h.td1 k hk), fun k hk => (hsame _ (h.rq.lt k hk)).trans (h.tq k hk), Dc h.low hp.size hr.lt⟩
theorem SysAt.set_d1 {T : Nat → Nat} {w w' : World} {L : SL} {V : SV} {s : Sys} (h : SysAt T w L V s) {v : Value} {l : List Msg} (hp : Ad (fun n => n == 2 || n == 18) T w w') (hn : w'.heap[L.nb]? = some (.cells (BB L { V with d1 := v }) 183)) (hr : AH w' 253 12 v l.length (Ao l)) (hm : Bf w V.d1 v) : SysAt (relab T v 18) w' L { V with d1 := v } { s with n1 := { s.n1 with down := l } } :=
 have hsame : ∀ b, b < w.heap.size → relab T v 18 b = T b := fun b hb => BA hm h.td1 h.low hb
 ⟨AM hp h.sys h.tsb rfl, hn, AM hp h.ag0 h.tg0 rfl, AM hp h.ag1 h.tg1 rfl, BC hp h.arr0 h.ta0 rfl h.tl0 rfl, BC hp h.arr1 h.ta1 rfl h.tl1 rfl, AQ hp h.ru0 h.tu0 rfl, AQ hp h.rs0 h.ts0 rfl, AQ hp h.rd0 h.td0 rfl, AQ hp h.ru1 h.tu1 rfl, AQ hp h.rs1 h.ts1 rfl, hr, AM hp h.dir h.tdb rfl, h.dlen, AM hp h.wq h.tqb rfl, AQ hp h.rq h.tq rfl, CU hp h.mem h.tdv rfl h.tmb rfl, (hsame _ (h.low _ (by rw [h.tsb]; decide))).trans h.tsb, (hsame _ (h.low _ (by rw [h.tnb]; decide))).trans h.tnb, (hsame _ (h.low _ (by rw [h.tdb]; decide))).trans h.tdb, (hsame _ (h.low _ (by rw [h.tqb]; decide))).trans h.tqb, (hsame _ (h.low _ (by rw [h.tdv]; decide))).trans h.tdv, (hsame _ (h.low _ (by rw [h.tmb]; decide))).trans h.tmb, (hsame _ (h.low _ (by rw [h.tg0]; decide))).trans h.tg0, (hsame _ (h.low _ (by rw [h.tg1]; decide))).trans h.tg1, (hsame _ (h.low _ (by rw [h.ta0]; decide))).trans h.ta0, (hsame _ (h.low _ (by rw [h.ta1]; decide))).trans h.ta1, (hsame _ (h.low _ (by rw [h.tl0]; decide))).trans h.tl0, (hsame _ (h.low _ (by rw [h.tl1]; decide))).trans h.tl1, fun k hk => (hsame _ (h.ru0.lt k hk)).trans (h.tu0 k hk), fun k hk => (hsame _ (h.rs0.lt k hk)).trans (h.ts0 k hk), fun k hk => (hsame _ (h.rd0.lt k hk)).trans (h.td0 k hk), fun k hk => (hsame _ (h.ru1.lt k hk)).trans (h.tu1 k hk), fun k hk => (hsame _ (h.rs1.lt k hk)).trans (h.ts1 k hk), Dd, fun k hk => (hsame _ (h.rq.lt k hk)).trans (h.tq k hk), Dc h.low hp.size hr.lt⟩
def Sy (T0 : Nat → Nat) (w0 : World) (L : SL) (s : Sys) (w : World) : Prop :=
 ∃ T V, SysAt T w L V s ∧ (∀ k, k < w0.heap.size → T k = T0 k) ∧ Ad (fun n => decide (0 < n) && decide (n < 20)) T0 w0 w
theorem Sy.start {T : Nat → Nat} {w : World} {L : SL} {V : SV} {s : Sys} (h : SysAt T w L V s) : Sy T w L s w := ⟨T, V, h, fun _ _ => rfl, Pres.refl _ _⟩
theorem Sy.below {T0 : Nat → Nat} {w0 w w' : World} {L : SL} {s : Sys} (h : Sy T0 w0 L s w) (hb : Below w w w') : Sy T0 w0 L s w' := by
 obtain ⟨T, V, a, b, c⟩ := h
 exact ⟨T, V, a.below hb, b, c.trans (Pres.of_below hb)⟩
theorem Sy.step {T0 T T' : Nat → Nat} {w0 w w' : World} {L : SL} {s s' : Sys} {V' : SV} (hb : ∀ k, k < w0.heap.size → T k = T0 k) (hc : Ad (fun n => decide (0 < n) && decide (n < 20)) T0 w0 w) (h' : SysAt T' w' L V' s') (hT : ∀ k, k < w.heap.size → T' k = T k) {c : Nat → Bool} (hp : Ad c T w w') (hcc : ∀ n, c n = true → (decide (0 < n) && decide (n < 20)) = true) : Sy T0 w0 L s' w' :=
 ⟨T', V', h', fun k hk => (hT k (Vy hk hc.size)).trans (hb k hk), ⟨hp.os.trans hc.os, hp.tape.trans hc.tape, hp.output.trans hc.output, Vx hc.size hp.size, fun k hk ha => (hp.block k (Vy hk hc.size) (by
  show c (T k) = false
  rw [hb k hk]
  cases hx : c (T0 k) with
  | false => rfl
  | true =>
    have h1 := hcc _ hx
    have h2 : (decide (0 < T0 k) && decide (T0 k < 20)) = false := ha
    rw [h1] at h2
    cases h2)).trans (hc.block k hk ha)⟩⟩
theorem Sy.trans {T0 T : Nat → Nat} {w0 w w' : World} {L : SL} {s' : Sys} (hb : ∀ k, k < w0.heap.size → T k = T0 k) (hc : Ad (fun n => decide (0 < n) && decide (n < 20)) T0 w0 w) (h : Sy T w L s' w') : Sy T0 w0 L s' w' := by
 obtain ⟨T', V', h', h2, h3⟩ := h
 exact Sy.step (s := s') hb hc h' h2 h3 (fun _ h => h)
end Go.Proofs.YtkoplblbeapfgaaGreatDoor
