/- The plain model of a mailbox. No condition. -/
import Derived.Test.YtgfdmhjjlajmgaaGreatDoorKURw
import Derived.Test.YtgfdmhjjlajmgaaGreatDoorKUMp
import Derived.Lib.ItoaNum
namespace Go.Cg.Rn
set_option linter.unusedVariables false
set_option linter.unusedSimpArgs false
open Go.Cg.Dk Go.Cg.Oc

structure Bx where
  name : Nm
  budget : Nat
  how : Int
  now : List R
  files : List Nm
  next : Nat
namespace Bx
set_option linter.unusedVariables false
set_option linter.unusedSimpArgs false
def new (name : Nm) (budget : Nat) (how : Int) : Bx := ⟨name, budget, how, [], [], 0⟩
def file (x : Bx) (i : Nat) : Nm := (x.name ++ [46]) ++ Go.Lib.itoa ((i : Nat) : Int)
def spill (x : Bx) (d : Disk) : Disk × Bx × Nat :=
  if (Rn.write (x.file (x.next + 1)) (Rn.sort x.now) d).2 ≠ 0 then
    (if (Rn.write (x.file (x.next + 1)) (Rn.sort x.now) d).2 ≠ 5 then ((Rn.write (x.file (x.next + 1)) (Rn.sort x.now) d).1.remove (x.file (x.next + 1))).1 else (Rn.write (x.file (x.next + 1)) (Rn.sort x.now) d).1, x, (Rn.write (x.file (x.next + 1)) (Rn.sort x.now) d).2)
  else ((Rn.write (x.file (x.next + 1)) (Rn.sort x.now) d).1, { x with now := [], files := x.files ++ [x.file (x.next + 1)], next := x.next + 1 }, 0)
def into (x : Bx) (k v : Nat) : Bx := { x with now := tupd x.now k v }
def put (x : Bx) (r : R) (d : Disk) : Disk × Bx × Nat :=
  match tlook x.now r.1 with
  | some v => (d, x.into r.1 (comb x.how v r.2), 0)
  | none => if x.budget ≤ x.now.length then (if (x.spill d).2.2 ≠ 0 then x.spill d else ((x.spill d).1, (x.spill d).2.1.into r.1 r.2, 0)) else (d, x.into r.1 r.2, 0)
/-- all files read, behind what there is -/
def reads : List Nm → List (List R) → Disk → Disk × List (List R) × Nat
  | [], ls, d => (d, ls, 0)
  | n :: ns, ls, d => if (Rn.read n d).2.2 ≠ 0 then ((Rn.read n d).1, ls, (Rn.read n d).2.2) else reads ns (ls ++ [(Rn.read n d).2.1]) (Rn.read n d).1
def all (x : Bx) (d : Disk) : Disk × List R × Nat :=
  if (reads x.files [Rn.sort x.now] d).2.2 ≠ 0 then ((reads x.files [Rn.sort x.now] d).1, [], (reads x.files [Rn.sort x.now] d).2.2)
  else ((reads x.files [Rn.sort x.now] d).1, (Rn.merge x.how (reads x.files [Rn.sort x.now] d).2.1).1, (Rn.merge x.how (reads x.files [Rn.sort x.now] d).2.1).2)
def clears : List Nm → Disk → Disk × List Nm × Nat
  | [], d => (d, [], 0)
  | n :: ns, d => if (d.remove n).2 ≠ 0 then ((d.remove n).1, n :: ns, (d.remove n).2) else clears ns (d.remove n).1
def clear (x : Bx) (d : Disk) : Disk × Bx × Nat := ((clears x.files d).1, { x with now := [], files := (clears x.files d).2.1 }, (clears x.files d).2.2)
/-- what a box may be, by some bound -/
structure Fit (k : Nat) (x : Bx) : Prop where
  now : x.now.length ≤ k
  files : x.files.length ≤ k
  next : x.next ≤ k
  name : x.name.length ≤ 1000
  bd : Bd x.now
  budget : x.budget ≤ 4611686018427387904
theorem reads_cnt : ∀ (ns : List Nm) (ls : List (List R)) (d : Disk), (reads ns ls d).1.files.length = d.files.length
  | [], _, _ => rfl
  | n :: ns, ls, d => by
    unfold reads; split
    · exact read_cnt _ _
    · rw [reads_cnt ns]; exact read_cnt _ _
theorem all_cnt (x : Bx) (d : Disk) : (x.all d).1.files.length = d.files.length := by
  unfold Bx.all; split <;> exact reads_cnt _ _ _
end Bx
end Go.Cg.Rn
