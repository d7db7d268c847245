/- The plain model of the commits: slots, states, what is swept. No condition. -/
import Derived.Test.YtgfdmhjjlajmgaaGreatDoorKUOc
import Derived.Lib.ItoaNum
namespace Go.Cg.Cm
set_option linter.unusedVariables false
set_option linter.unusedSimpArgs false
open Go.Cg.Dk Go.Cg.Oc

/-- a number's digits -/
def itoa (n : Nat) : Nm := Go.Lib.itoa (n : Int)
def nSlot : Nm := [115, 108, 111, 116, 46]
def nState : Nm := [115, 116, 97, 116, 101, 46]
def nNew : Nm := [110, 101, 119]
def slotN (i : Nat) : Nm := nSlot ++ itoa i

def read (n : Nm) (d0 : Disk) : Disk × By × Nat :=
  let s := d0.size n
  if s.2.2 ≠ 0 then (s.1, [], s.2.2) else s.1.readAt n 0 s.2.1
def load (d0 : Disk) : Disk × Mf × Bool × Nat :=
  let a := read (slotN 0) d0
  if a.2.2 ≠ 0 ∧ a.2.2 ≠ 4 then (a.1, mf0, false, a.2.2) else
  let b := read (slotN 1) a.1
  if b.2.2 ≠ 0 ∧ b.2.2 ≠ 4 then (b.1, mf0, false, b.2.2) else
  let c := Oc.choose a.2.1 b.2.1
  (b.1, c.1, c.2.2, 0)
/-- what is tried, one behind the other; at the first error the file on the way is removed -/
def tries (tmp : Nm) : List (Disk → Disk × Nat) → Disk → Disk × Nat
  | [], d => (d, 0)
  | f :: r, d => if (f d).2 ≠ 0 then (((f d).1.remove tmp).1, (f d).2) else tries tmp r (f d).1
def put (kind name : Nm) (b : By) (d0 : Disk) : Disk × Nat :=
  let tmp := kind ++ nNew
  let r := d0.remove tmp
  if r.2 ≠ 0 ∧ r.2 ≠ 4 then r else
  tries tmp [Disk.create tmp, Disk.append tmp b, Disk.sync tmp, Disk.rename tmp (kind ++ name)] r.1
def keep (step : Int) (vals : List Nat) (live : List Bool) (d : Disk) : Disk × Nat :=
  if (senc step vals live).2 ≠ 0 then (d, (senc step vals live).2) else put nState (Go.Lib.itoa step) (senc step vals live).1 d
def state (step : Int) (d0 : Disk) : Disk × (List Nat × List Bool) × Nat :=
  let r := read (nState ++ Go.Lib.itoa step) d0
  if r.2.2 ≠ 0 then (r.1, ([], []), r.2.2) else
  let s := sdec r.2.1
  if s.2.2 ≠ 0 then (r.1, ([], []), s.2.2) else if s.1 ≠ step then (r.1, ([], []), 2) else (r.1, s.2.1, 0)
end Go.Cg.Cm
