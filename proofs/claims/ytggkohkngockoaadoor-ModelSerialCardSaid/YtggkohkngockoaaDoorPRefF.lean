/-
  The document's answer for chapter 20 in plain terms. No conditions.
-/
import Derived.Test.YtggkohkngockoaaDoorPlayL
namespace Go.Proofs.YtggkohkngockoaaDoor
set_option linter.unusedVariables false

structure RTx where
  state : Int
  client : Int
  table : Int
  row : Int
  mode : Int
  asked : Bool
def ofStep (tx : Int) (t : RTx) (e : Ev) : RTx :=
  if ¬ e.tx = tx ∨ e.kind = 8 then t
  else if e.kind = 1 then { t with state := 1, client := e.client }
  else if e.kind = 2 then { t with table := e.table, row := e.row, mode := e.mode, asked := true }
  else if e.kind = 3 ∨ e.kind = 4 then { t with mode := 0 }
  else if e.kind = 5 then { t with state := 2 }
  else if e.kind = 6 then { t with state := 3 }
  else if e.kind = 7 then { t with state := 4 }
  else t
def rtx0 : RTx := ⟨0, 0, 0, 0, 0, false⟩
def ofR (l : List Ev) (tx : Int) : RTx := l.foldl (ofStep tx) rtx0
def modeStep (tx t r : Int) (m : Int) (e : Ev) : Int := if e.kind = 3 ∧ e.tx = tx ∧ e.table = t ∧ e.row = r then e.mode else m
def modeR (l : List Ev) (tx t r : Int) : Int := l.foldl (modeStep tx t r) 0
def lastStep (n : Int) (e : Ev) : Int := if e.kind = 1 then e.tx else n
def lastR (l : List Ev) : Int := l.foldl lastStep 0
/-- does nothing in it keep the client from beginning? -/
def freeR (l : List Ev) (c : Int) (a : Ev) : Bool := decide (¬ (a.kind = 8 ∧ a.client = c)) && decide (¬ (a.kind = 1 ∧ a.client = c ∧ (ofR l a.tx).state < 3))
def beganR (l : List Ev) (e : Ev) : Bool := decide (e.tx = lastR l + 1) && l.all (freeR l e.client)
/-- where a transaction was committed, from a place on -/
def endFrom (tx : Int) : List Ev → Nat → Nat
  | [], i => i
  | e :: l, i => if e.kind = 6 ∧ e.tx = tx then i else endFrom tx l (i + 1)
def endR (l : List Ev) (tx : Int) : Nat := endFrom tx l 0
/-- do two places of a trace clash? -/
def clashAt (l : List Ev) (tx : Int) (i k : Nat) : Bool :=
  let a := l.getD i Ev.none; let b := l.getD k Ev.none
  decide (a.kind = 3 ∧ b.kind = 3 ∧ a.tx = tx ∧ ¬ b.tx = tx ∧ a.table = b.table ∧ a.row = b.row) && !togB a.mode b.mode && decide (endR l b.tx < l.length ∧ i < endR l b.tx)
def clashR (l : List Ev) (tx : Int) : Bool := (List.range l.length).any fun i => (List.range l.length).any fun k => clashAt l tx i k
def grantedR (l : List Ev) (t : RTx) (e : Ev) : Bool :=
  decide (¬ t.mode = 0 ∧ t.table = e.table ∧ t.row = e.row) && decide (leastI (modeR l e.tx e.table e.row) t.mode = e.mode) &&
  (decide (e.row = 0) || (decide (needE t.mode = 0) && covB (modeR l e.tx e.table 0) (needI t.mode)))
def crashedR (l : List Ev) (c : Int) : Bool := l.all fun a => decide (¬ a.kind = 8 ∨ ¬ a.client = c)
def nextR (l : List Ev) (e : Ev) : Int :=
  if formB e = false then 5
  else
    let t := ofR l e.tx
    let idle := t.state = 1 ∧ t.mode = 0
    if e.kind = 1 then (if beganR l e then 0 else 11)
    else if e.kind = 2 then (if idle then 0 else 11)
    else if e.kind = 3 then (if t.state = 1 ∧ grantedR l t e = true then 0 else 11)
    else if e.kind = 4 then (if t.state = 1 ∧ 0 < t.mode ∧ t.table = e.table ∧ t.row = e.row then 0 else 11)
    else if e.kind = 5 then (if idle ∧ t.asked = true then 0 else 11)
    else if e.kind = 6 then (if t.state = 2 ∨ (idle ∧ t.asked = false) then (if clashR l e.tx then 8 else 0) else 11)
    else if e.kind = 7 then (if t.state = 1 ∨ t.state = 2 then 0 else 11)
    else if crashedR l e.client then 0 else 11
/-- from a place on: where and why it stops -/
def checkFrom (l : List Ev) : Nat → Nat → Int × Int
  | _, 0 => (-1, 0)
  | i, n + 1 => if nextR (l.take i) (l.getD i Ev.none) = 0 then checkFrom l (i + 1) n else ((i : Int), nextR (l.take i) (l.getD i Ev.none))
def checkR (l : List Ev) : Int × Int := checkFrom l 0 l.length
def serialR (l : List Ev) : List Int := (l.filter fun e => decide (e.kind = 6)).map Ev.tx
end Go.Proofs.YtggkohkngockoaaDoor
