/-
  The model of chapter 20 in plain terms: what comes of an event. No conditions.
-/
import Derived.Test.YtggkohkngockoaaDoorModeF
namespace Go.Proofs.YtggkohkngockoaaDoor

structure Ev where
  kind : Int
  client : Int
  tx : Int
  table : Int
  row : Int
  mode : Int
  code : Int

structure Got where
  table : Int
  row : Int
  mode : Int
  place : Int

structure Tx where
  state : Int
  client : Int
  fin : Int
  asked : Bool
  opn : Bool
  table : Int
  row : Int
  mode : Int
  got : List Got

structure St where
  all : List Tx
  dead : Nat → Bool
  now : Nat → Bool
  serial : List Int

def resB (t r : Int) : Bool := decide (1 ≤ t ∧ t ≤ 250 ∧ 0 ≤ r ∧ r ≤ 250)
/-- are an event's fields those of its kind? -/
def formB (e : Ev) : Bool :=
  if e.kind = 1 then decide (1 ≤ e.client ∧ e.client ≤ 8 ∧ 1 ≤ e.tx ∧ e.table = 0 ∧ e.row = 0 ∧ e.mode = 0 ∧ e.code = 0)
  else if e.kind = 2 ∨ e.kind = 3 then decide (e.client = 0 ∧ 1 ≤ e.tx ∧ 1 ≤ e.mode ∧ e.mode ≤ 4 ∧ e.code = 0) && resB e.table e.row
  else if e.kind = 4 then decide (e.client = 0 ∧ 1 ≤ e.tx ∧ e.mode = 0 ∧ 1 ≤ e.code ∧ e.code ≤ 15) && resB e.table e.row
  else if e.kind = 5 ∨ e.kind = 6 then decide (e.client = 0 ∧ 1 ≤ e.tx ∧ e.table = 0 ∧ e.row = 0 ∧ e.mode = 0 ∧ e.code = 0)
  else if e.kind = 7 then decide (e.client = 0 ∧ 1 ≤ e.tx ∧ e.table = 0 ∧ e.row = 0 ∧ e.mode = 0 ∧ 1 ≤ e.code ∧ e.code ≤ 5)
  else if e.kind = 8 then decide (1 ≤ e.client ∧ e.client ≤ 8 ∧ e.tx = 0 ∧ e.table = 0 ∧ e.row = 0 ∧ e.mode = 0 ∧ e.code = 0)
  else false

/-- the mode that the last lock on a resource has -/
def modeOf (t r : Int) (l : List Got) : Int := l.foldl (fun m g => if g.table = t ∧ g.row = r then g.mode else m) 0

/-- may it be granted? -/
def grantB (x : Tx) (e : Ev) : Bool :=
  decide (leastI (modeOf e.table e.row x.got) x.mode = e.mode) &&
  (decide (¬ 0 < e.row) || (decide (needE x.mode = 0) && covB (modeOf e.table 0 x.got) (needI x.mode)))
def Tx.grant (x : Tx) (e : Ev) (place : Int) : Tx := { x with opn := false, got := x.got ++ [⟨e.table, e.row, e.mode, place⟩] }

/-- do two clash? -/
def clashB (a b : Tx) : Bool :=
  a.got.any fun x => b.got.any fun y => decide (x.table = y.table ∧ x.row = y.row) && !togB x.mode y.mode && decide (x.place < b.fin) && decide (y.place < a.fin)

def dflt : Tx := ⟨0, 0, 0, false, false, 0, 0, 0, []⟩
def St.tx (s : St) (n : Int) : Tx := s.all.getD (n - 1).toNat dflt
def St.put (s : St) (n : Int) (x : Tx) : St := { s with all := s.all.set (n - 1).toNat x }
def off (f : Nat → Bool) (c : Int) (v : Bool) : Nat → Bool := fun k => if (k : Int) = c then v else f k
/-- it is decided -/
def St.over (s : St) (n : Int) (x : Tx) : St := { s with all := s.all.set (n - 1).toNat { x with state := 3 }, now := off s.now x.client false }

/-- an event of a transaction that isn't decided: an error's number -/
def stepE (s : St) (e : Ev) (place : Int) : Int :=
  let x := s.tx e.tx
  if e.kind = 2 then (if x.state = 1 ∧ x.opn = false then 0 else 11)
  else if e.kind = 3 then (if x.state = 1 ∧ x.opn = true ∧ x.table = e.table ∧ x.row = e.row then (if grantB x e then 0 else 11) else 11)
  else if e.kind = 4 then (if x.state = 1 ∧ x.opn = true ∧ x.table = e.table ∧ x.row = e.row then 0 else 11)
  else if e.kind = 5 then (if x.state = 1 ∧ x.opn = false ∧ x.asked = true then 0 else 11)
  else if e.kind = 6 then (if x.opn = true ∨ (¬ x.state = 2 ∧ x.asked = true) then 11 else if s.serial.any (fun n => clashB { x with fin := place } (s.tx n)) then 8 else 0)
  else if e.kind = 7 then 0 else 11
/-- what it leaves -/
def stepS (s : St) (e : Ev) (place : Int) : St :=
  let x := s.tx e.tx
  if e.kind = 2 then s.put e.tx { x with asked := true, opn := true, table := e.table, row := e.row, mode := e.mode }
  else if e.kind = 3 then s.put e.tx (x.grant e place)
  else if e.kind = 4 then s.put e.tx { x with opn := false }
  else if e.kind = 5 then s.put e.tx { x with state := 2 }
  else if e.kind = 6 then { s.over e.tx { x with fin := place } with serial := s.serial ++ [e.tx] }
  else s.over e.tx x

def newTx (c : Int) : Tx := ⟨1, c, -1, false, false, 0, 0, 0, []⟩
def nextE (s : St) (e : Ev) (place : Int) : Int :=
  if formB e = false then 5
  else if e.kind = 1 then (if ¬ e.tx = s.all.length + 1 ∨ s.dead e.client.toNat = true ∨ s.now e.client.toNat = true then 11 else 0)
  else if e.kind = 8 then (if s.dead e.client.toNat = true then 11 else 0)
  else if (s.all.length : Int) < e.tx ∨ (s.tx e.tx).state = 3 then 11
  else stepE s e place
def nextS (s : St) (e : Ev) (place : Int) : St :=
  if e.kind = 1 then { s with all := s.all ++ [newTx e.client], now := off s.now e.client true }
  else if e.kind = 8 then { s with dead := off s.dead e.client true }
  else stepS s e place

def start : St := ⟨[], fun _ => false, fun _ => false, []⟩
/-- a trace is played: the committed ones, or a place and an error's number -/
def playF : St → List Ev → Nat → List Int ⊕ Nat × Int
  | s, [], _ => .inl s.serial
  | s, e :: l, i => if nextE s e i = 0 then playF (nextS s e i) l (i + 1) else .inr (i, nextE s e i)
end Go.Proofs.YtggkohkngockoaaDoor
