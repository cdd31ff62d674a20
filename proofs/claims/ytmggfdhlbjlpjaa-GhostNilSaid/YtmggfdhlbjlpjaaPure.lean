/-
  DERIVED. The plain law of the judge: what it keeps, and how a fact is judged. Nothing of the dump is imported.
-/
namespace Go.Proofs.Ytmggfdhlbjlpjaa
set_option linter.unusedVariables false

/-- A data unit. -/
structure Key where
  side : Int
  session : Int
  number : Int
  data : List UInt8
deriving DecidableEq

structure FactP where
  kind : Int
  conn : Int
  side : Int
  session : Int
  number : Int
  on : Bool
  code : Int
  data : List UInt8

structure EndP where
  watch : Int
  session : Int
  number : Int
  took : Bool
  value : List UInt8
  inn : Int
  since : Int
  latched : Int
  fresh : Bool
  acked : Bool

structure LineP where
  e0 : EndP
  e1 : EndP
  session : Int
  sent : List Key

structure JP where
  lines : List LineP
  at_ : Int
  rule : Int
  rat : Int

def EndP.new (watch : Int) : EndP := ⟨watch, 0, 0, false, [], 0, 0, 0, false, false⟩
def LineP.new (a b : Int) : LineP := ⟨EndP.new a, EndP.new b, 0, []⟩
def JP.new (l : List (Int × Int)) : JP := ⟨l.map fun p => LineP.new p.1 p.2, 0, 0, 0⟩

def EndP.tick (e : EndP) (n : Int) : EndP := { e with since := min e.watch (e.since + n), fresh := if e.watch ≤ e.since + n then false else e.fresh }

def EndP.anew (e : EndP) (dev : Bool) : EndP :=
  ⟨e.watch, if dev = true then e.session else 0, if dev = true then e.number else 0, if dev = true then e.took else false, [], 0, 0, 0, false, false⟩

/-- The rule that an output breaks. -/
def EndP.outRule (e : EndP) (f : FactP) (session : Int) : Int :=
  if f.on = true ∧ (e.value ≠ f.data ∨ e.value = [] ∨ (f.side = 2 ∧ e.inn ≠ session)) then 4
  else if f.on = false ∧ (f.data.any fun b => b != 0) = true then 5
  else if f.on = true ∧ (f.code ≠ 0 ∨ e.watch ≤ e.since) then 6
  else if e.watch ≤ e.since ∧ f.code = 0 then 7
  else if e.latched ≠ 0 ∧ f.code = 0 ∧ e.acked = false then 8
  else 0

def EndP.outTo (e : EndP) (f : FactP) : EndP := { e with fresh := if f.code ≠ e.latched then false else e.fresh, latched := f.code, acked := false }

def LineP.end_ (l : LineP) (side : Int) : EndP := if side = 1 then l.e0 else l.e1
def LineP.setEnd (l : LineP) (side : Int) (e : EndP) : LineP := if side = 1 then { l with e0 := e } else { l with e1 := e }

def FactP.key (f : FactP) (side : Int) : Key := ⟨side, f.session, f.number, f.data⟩

/-- The rule that a taken unit breaks. -/
def LineP.takenRule (l : LineP) (f : FactP) : Int :=
  let e := l.end_ f.side
  if (f.side = 2 ∧ f.session ≠ l.session) ∨ f.key (3 - f.side) ∉ l.sent then 2
  else if e.took = true ∧ (f.session < e.session ∨ (f.session = e.session ∧ f.number ≤ e.number)) then 3
  else 0

def LineP.takenTo (l : LineP) (f : FactP) : LineP :=
  l.setEnd f.side { l.end_ f.side with took := true, session := f.session, number := f.number, value := f.data, inn := f.session }

/-- One fact, of a line that there is. -/
def LineP.see (l : LineP) (f : FactP) : LineP × Int :=
  let e := l.end_ f.side
  if f.kind = 1 then ({ l with sent := l.sent ++ [f.key f.side] }, 0)
  else if f.kind = 2 then (if l.takenRule f = 0 then l.takenTo f else l, l.takenRule f)
  else if f.kind = 3 then ({ l with session := f.session, sent := l.sent.filter fun k => !(k.side == 1 && k.session == f.session) }, 0)
  else if f.kind = 4 then (l.setEnd f.side { e with since := 0, fresh := decide (e.latched ≠ 0) }, 0)
  else if f.kind = 5 then (l.setEnd f.side (e.tick f.number), 0)
  else if f.kind = 6 then (l.setEnd f.side { e with acked := e.acked || e.fresh }, 0)
  else if f.kind = 7 then (l.setEnd f.side (e.anew (decide (f.side = 2))), 0)
  else (if e.outRule f l.session = 0 then l.setEnd f.side (e.outTo f) else l, e.outRule f l.session)

/-- Is it a fact of one of n lines? -/
def FactP.In (f : FactP) (n : Nat) : Prop := 1 ≤ f.kind ∧ f.kind ≤ 8 ∧ 0 ≤ f.conn ∧ f.conn < n ∧ (f.side = 1 ∨ f.side = 2)
instance (f : FactP) (n : Nat) : Decidable (f.In n) := by unfold FactP.In; infer_instance

def JP.line (j : JP) (i : Nat) : LineP := j.lines.getD i (LineP.new 0 0)

/-- The rule that a fact breaks, and what it leaves. -/
def JP.judge (j : JP) (f : FactP) : JP × Int :=
  if f.In j.lines.length then ({ j with lines := j.lines.set f.conn.toNat ((j.line f.conn.toNat).see f).1 }, ((j.line f.conn.toNat).see f).2) else (j, 1)

def JP.see (j : JP) (f : FactP) : JP :=
  if j.rule = 0 then
    if (j.judge f).2 = 0 then { (j.judge f).1 with at_ := j.at_ + 1 } else { j with at_ := j.at_ + 1, rule := (j.judge f).2, rat := j.at_ }
  else { j with at_ := j.at_ + 1 }

def JP.sees (j : JP) (l : List FactP) : JP := l.foldl JP.see j

/-- The verdict on a whole history. -/
def check (net : List (Int × Int)) (l : List FactP) : Int × Int := let j := (JP.new net).sees l; (j.rule, j.rat)

/-- No counter wraps: an end behind so many facts. -/
structure EndP.Ok (e : EndP) (N : Int) : Prop where
  w0 : -9223372036854775808 ≤ e.watch
  w1 : e.watch ≤ 9223372036854775807
  s : e.since = e.watch ∨ (0 ≤ e.since ∧ (e.since = 0 ∨ e.since ≤ e.watch))
  n : e.since ≤ N * 4294967296
  lat : -9223372036854775808 ≤ e.latched ∧ e.latched ≤ 9223372036854775807

/-- A fact as memory holds it. -/
structure FactP.Ok (f : FactP) : Prop where
  session : 0 ≤ f.session ∧ f.session ≤ 4294967295
  number : 0 ≤ f.number ∧ f.number ≤ 4294967295
  code : -9223372036854775808 ≤ f.code ∧ f.code ≤ 9223372036854775807

end Go.Proofs.Ytmggfdhlbjlpjaa
