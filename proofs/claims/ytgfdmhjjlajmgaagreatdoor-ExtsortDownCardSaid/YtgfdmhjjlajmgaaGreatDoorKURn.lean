/- The plain model of records: their order, how they are combined, files of them. No condition. -/
import Derived.Test.YtgfdmhjjlajmgaaGreatDoorKUOc
namespace Go.Cg.Rn
set_option linter.unusedVariables false
set_option linter.unusedSimpArgs false
open Go.Cg.Dk Go.Cg.Oc

/-- a record: a key, a value -/
abbrev R := Nat × Nat
def ltb (a b : R) : Bool := decide (a.1 < b.1 ∨ a.1 = b.1 ∧ a.2 < b.2)
def cmp (a b : R) : Int := if ltb a b then -1 else if ltb b a then 1 else 0
/-! ### combined -/
def comb (how : Int) (a b : Nat) : Nat := if how ≠ 1 then min a b else min (a + b) 18446744073709551615
def fput (how : Int) (l : List R) (r : R) : List R :=
  match l.getLast? with
  | some z => if how ≠ 0 ∧ z.1 = r.1 then l.dropLast ++ [(z.1, comb how z.2 r.2)] else l ++ [r]
  | none => [r]
def fold (how : Int) (l : List R) : List R := l.foldl (fput how) []
def ins (r : R) : List R → List R
  | [] => [r]
  | x :: l => if ltb r x then r :: x :: l else x :: ins r l
def sort : List R → List R
  | [] => []
  | x :: l => ins x (sort l)
def hright (how : Int) : Bool := decide (0 ≤ how ∧ how ≤ 2)
def sorted (how : Int) (l : List R) : List R × Nat := if hright how then (fold how (sort l), 0) else ([], 1)
def merge (how : Int) (ls : List (List R)) : List R × Nat := if hright how then (fold how (sort ls.flatten), 0) else ([], 1)
/-! ### a file of records -/
def rb (r : R) : By := le 8 r.1 ++ le 8 r.2
def rtext (l : List R) : By := l.flatMap rb
/-- one more: what is there, and whether it is done -/
def wput (n : Nm) (r : R) (t : By) (d : Disk) : Disk × By × Nat :=
  if (t ++ rb r).length < 800 then (d, t ++ rb r, 0) else ((d.append n (enc (t ++ rb r)).1).1, [], (d.append n (enc (t ++ rb r)).1).2)
def wputs (n : Nm) : List R → By → Disk → Disk × By × Nat
  | [], t, d => (d, t, 0)
  | r :: l, t, d => if (wput n r t d).2.2 ≠ 0 then wput n r t d else wputs n l (wput n r t d).2.1 (wput n r t d).1
def wclose (n : Nm) (t : By) (d : Disk) : Disk × Nat :=
  if t = [] then d.sync n else if (d.append n (enc t).1).2 ≠ 0 then d.append n (enc t).1 else (d.append n (enc t).1).1.sync n
def write (n : Nm) (l : List R) (d : Disk) : Disk × Nat :=
  if (d.create n).2 ≠ 0 then d.create n else
  if (wputs n l [] (d.create n).1).2.2 ≠ 0 then ((wputs n l [] (d.create n).1).1, (wputs n l [] (d.create n).1).2.2) else
  wclose n (wputs n l [] (d.create n).1).2.1 (wputs n l [] (d.create n).1).1
/-- the next block: a text, where the next one is, whether it was short -/
def rin (n : Nm) (sz at_ : Nat) (short : Bool) (d : Disk) : Disk × (By × Nat × Bool) × Nat :=
  let a := d.readAt n at_ (min 1006 ((sz : Int) - at_))
  if a.2.2 ≠ 0 then (a.1, ([], at_, short), a.2.2) else
  let x := dec a.2.1
  if x.2.2 ≠ 0 then (a.1, ([], at_, short), x.2.2) else
  if x.1.length = 0 ∨ x.1.length % 16 ≠ 0 ∨ 800 < x.1.length ∨ short = true then (a.1, ([], at_, short), 2) else (a.1, (x.1, at_ + x.2.1, decide (x.1.length < 800)), 0)
def recOf (t : By) : R := (unle (t.take 8), unle ((t.drop 8).take 8))
end Go.Cg.Rn
