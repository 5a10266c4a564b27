/- The model of a log as plain data, and the search for an order: the functions that the program computes. -/
import Init
namespace Go.Proofs.Ytgdeoodihhcdjaa.Ln

structure Mod where
  base : Int
  first : Int
  durable : Int
  next : Int
  limit : Int
  recs : List (List UInt8)
  failed : Bool
  closed : Bool

structure Call where
  kind : Int
  lsn : Int
  data : List UInt8

structure Res where
  err : Int
  lsn : Int
  data : List UInt8

structure Past where
  call : Call
  res : Res
  beg : Int
  fin : Int

def zeroM : Mod := ⟨0, 0, 0, 0, 0, [], false, false⟩

def newF (base : Int) : Option Mod := if base < 1 then none else some ⟨base, base, base, base, 9223372036854775807, [], false, false⟩

def usedF (c : Call) : Bool :=
  if c.kind = 1 ∨ c.kind = 2 then decide (c.lsn = 0)
  else if c.kind = 3 ∨ c.kind = 7 then decide (c.lsn = 0 ∧ c.data.length = 0)
  else if c.kind = 4 ∨ c.kind = 5 ∨ c.kind = 6 then decide (c.data.length = 0)
  else false

def saneF (s : Mod) : Bool := !s.failed && !s.closed

def addF (s : Mod) (lsn : Int) (d : List UInt8) : Option Mod :=
  if saneF s = true then
    if (d.length ≤ 4096 ∧ lsn = s.next) ∧ lsn < 9223372036854775807 then some { s with recs := s.recs ++ [d], next := s.next + 1 } else none
  else none

def raiseF (s : Mod) (n : Int) : Option Mod := if n ≤ s.limit then some { s with durable := max s.durable n } else none

def capF (s : Mod) (lsn : Int) : Option Mod := if s.durable ≤ min s.limit lsn then some { s with limit := min s.limit lsn } else none

def appendF (s : Mod) (c : Call) (r : Res) : Option Mod :=
  if r.err = 0 then (if c.kind = 2 ∨ r.lsn < s.limit then addF s r.lsn c.data else none)
  else if r.err = 40 then
    (if r.lsn = 0 then some { s with failed := true } else (addF s r.lsn c.data).bind fun t => capF t r.lsn)
  else if r.err = 3 ∨ r.err = 44 ∨ r.err = 9 then
    (if saneF s = true then (if r.lsn = 0 ∧ (r.err ≠ 44 ∨ s.next = 9223372036854775807) then some s else none) else none)
  else none

def syncF (s : Mod) (r : Res) : Option Mod :=
  if r.lsn = 0 then
    (if r.err = 0 then (if saneF s = true then (if s.next ≤ s.limit then some s else none) else none)
     else if r.err = 40 then some { s with failed := true } else none)
  else none

def closeF (s : Mod) (r : Res) : Option Mod := (syncF s r).map fun t => { t with closed := true }

def recordF (s : Mod) (lsn : Int) : List UInt8 := s.recs.getD (lsn - s.base).toNat []

def readF (s : Mod) (c : Call) (r : Res) : Option Mod :=
  if r.err = 0 then
    (if ((r.lsn = c.lsn ∧ s.first ≤ c.lsn) ∧ c.lsn < s.next) ∧ r.data = recordF s c.lsn then raiseF s (c.lsn + 1) else none)
  else if r.lsn = 0 then
    (if r.err = 43 then (if c.lsn < s.first then some s else none)
     else if r.err = 22 then (if s.first ≤ c.lsn ∧ c.lsn < s.next then some s else none)
     else if r.err = 42 ∧ c.kind = 4 then (if s.durable ≤ c.lsn ∧ s.first ≤ c.lsn then some s else none)
     else if r.err = 40 ∧ c.kind = 5 then (if s.durable ≤ c.lsn then some { s with failed := true } else none)
     else none)
  else none

def frontF (s : Mod) (lsn : Int) : Option Mod :=
  if lsn ≤ s.next then (raiseF s lsn).map fun t => { t with first := lsn } else none

def truncF (s : Mod) (c : Call) (r : Res) : Option Mod :=
  if r.err = 40 then
    (if r.lsn = 0 then some { s with failed := true }
     else if r.lsn = c.lsn ∧ s.first < c.lsn then (frontF s c.lsn).map fun t => { t with failed := true } else none)
  else if saneF s = true then
    (if r.lsn = 0 then
      (if r.err = 0 then (if s.first < c.lsn then frontF s c.lsn else some s)
       else if r.err = 8 then (if s.durable < c.lsn ∧ s.first < c.lsn then some s else none)
       else if r.err = 9 then some s else none)
     else none)
  else none

def answerF (s : Mod) (c : Call) (r : Res) : Option Mod :=
  if r.data.length = 0 ∨ ((c.kind = 4 ∨ c.kind = 5) ∧ r.err = 0) then
    (if c.kind = 4 ∨ c.kind = 5 then readF s c r
     else if c.kind = 1 ∨ c.kind = 2 then appendF s c r
     else if c.kind = 6 then truncF s c r
     else if c.kind = 3 then syncF s r
     else closeF s r)
  else none

def applyF (m : Mod) (c : Call) (r : Res) : Option Mod :=
  if usedF c = true then
    (if r.err = 41 then (if (m.closed = true ∧ r.lsn = 0) ∧ r.data.length = 0 then some m else none)
     else if m.closed = true then none else answerF m c r)
  else none

def halfF (m : Mod) (c : Call) : Option Mod :=
  if usedF c = true then
    (if c.kind = 1 ∨ c.kind = 2 then addF m m.next c.data
     else if c.kind = 6 then (if m.closed = true then none else truncF m c ⟨0, 0, []⟩)
     else if c.kind = 7 then (if m.closed = true then none else some { m with closed := true })
     else none)
  else none

def stepF (m : Mod) (p : Past) : Option Mod := if p.fin = 0 then halfF m p.call else applyF m p.call p.res

def aheadF (a b : Past) : Bool := decide (a.fin ≠ 0 ∧ a.fin < b.beg)

def okTime (p : Past) : Bool := !(decide (p.beg < 1) || (decide (p.fin ≠ 0) && decide (p.fin ≤ p.beg)))
def timelyF (ps : List Past) : Bool := ps.all okTime

/-- The mask of the numbers below n that p takes. -/
def maskF (p : Nat → Bool) : Nat → Nat
  | 0 => 0
  | n + 1 => if p n = true then maskF p n ||| 1 <<< n else maskF p n

def noCall : Call := ⟨0, 0, []⟩
def noPast : Past := ⟨noCall, ⟨0, 0, []⟩, 0, 0⟩
def at' (ps : List Past) (i : Nat) : Past := ps.getD i noPast

def allF (ps : List Past) : Nat := maskF (fun i => decide ((at' ps i).fin ≠ 0)) ps.length
def beforeF (ps : List Past) (i : Nat) : Nat := maskF (fun k => aheadF (at' ps k) (at' ps i)) ps.length

structure Key where
  set : Nat
  lsns : List Int
  deriving DecidableEq

def key0 : Key := ⟨0, List.replicate 12 0⟩

structure St where
  tried : List Key
  order : List Nat
  most : Int

def putF (ps : List Past) (m : Mod) (k : Key) (i : Nat) : Option (Mod × Key) :=
  if k.set.testBit i = true ∨ ¬ (beforeF ps i &&& k.set = beforeF ps i) then none
  else (stepF m (at' ps i)).map fun n =>
    (n, ⟨k.set ||| 1 <<< i, if (at' ps i).fin = 0 ∧ m.next < n.next then k.lsns.set i m.next else k.lsns⟩)

def loopF (g : Nat → St → Bool × St) : List Nat → St → Bool × St
  | [], st => (false, st)
  | i :: is, st => if (g i st).1 = true then (true, (g i st).2) else loopF g is (g i st).2

def findsF (ps : List Past) : Nat → Mod → Key → St → Bool × St
  | 0, _, _, st => (false, st)
  | f + 1, m, k, st =>
    if k.set &&& allF ps = allF ps then (true, st)
    else if k ∈ st.tried then (false, st)
    else loopF (fun i st => match putF ps m k i with
        | none => (false, st)
        | some (n, l) => if (findsF ps f n l { st with order := st.order ++ [i] }).1 = true then (true, (findsF ps f n l { st with order := st.order ++ [i] }).2)
            else (false, { (findsF ps f n l { st with order := st.order ++ [i] }).2 with order := (findsF ps f n l { st with order := st.order ++ [i] }).2.order.dropLast }))
      (List.range ps.length) { st with tried := k :: st.tried }

def walkF (g : Nat → St → St) : List Nat → St → St
  | [], st => st
  | i :: is, st => walkF g is (g i st)

def goesF (ps : List Past) : Nat → Mod → Key → Int → St → St
  | 0, _, _, _, st => st
  | f + 1, m, k, n, st =>
    if k ∈ st.tried then st
    else walkF (fun i st => match putF ps m k i with
        | none => st
        | some (m2, l) => goesF ps f m2 l (n + 1) st)
      (List.range ps.length) { st with tried := k :: st.tried, most := max st.most n }

def openF (ps : List Past) : Nat := (ps.filter fun p => decide (p.fin = 0)).length

/-- Which error begun finds; OK is 0. -/
def begunF (base : Int) (ps : List Past) : Int :=
  if base < 1 then 1
  else if 12 < ps.length ∨ 4 < openF ps then 9
  else if timelyF ps = true then 0 else 63

def start (base : Int) : Mod := ⟨base, base, base, base, 9223372036854775807, [], false, false⟩
def st0 : St := ⟨[], [], 0⟩

def searchF (base : Int) (ps : List Past) : Bool × St := findsF ps 13 (start base) key0 st0
def mostF (base : Int) (ps : List Past) : Int := (goesF ps 13 (start base) key0 0 st0).most

/-- Legal's loop over the order: the state, who is in. -/
def legalLoop (ps : List Past) : List Int → Mod → List Bool → Option (List Bool)
  | [], _, ins => some ins
  | i :: is, m, ins =>
    if i < 0 ∨ (ps.length : Int) ≤ i then none
    else if ins.getD i.toNat false = true then none
    else if (List.range ps.length).any (fun k => aheadF (at' ps k) (at' ps i.toNat) && !(ins.getD k false)) = true then none
    else match stepF m (at' ps i.toNat) with
      | none => none
      | some n => legalLoop ps is n (ins.set i.toNat true)

def legalF (base : Int) (ps : List Past) (order : List Int) : Bool :=
  if base < 1 ∨ timelyF ps = false then false
  else match legalLoop ps order (start base) (List.replicate ps.length false) with
    | none => false
    | some ins => (List.range ps.length).all fun i => decide ((at' ps i).fin = 0) || ins.getD i false

end Go.Proofs.Ytgdeoodihhcdjaa.Ln
