/- The plain model of a sort on a disk: runs, merges by a heap, files on the way. No condition. -/
import Derived.Test.YtgfdmhjjlajmgaaGreatDoorKUMe
import Derived.Test.YtgfdmhjjlajmgaaGreatDoorKUFr
namespace Go.Cg.Xs
set_option linter.unusedVariables false
set_option linter.unusedSimpArgs false
open Go.Cg.Dk Go.Cg.Oc Go.Cg.Rn Go.Cg.Sn

/-! ### how often rows are merged -/
def pgo (f rows : Nat) : Nat := if h : 1 < rows ∧ 2 ≤ f then pgo f ((rows - 1) / f + 1) + 1 else 0
termination_by rows
decreasing_by
  have h1 : (rows - 1) / f ≤ (rows - 1) / 2 := Nat.div_le_div_left h.2 (by omega)
  omega
def passes (n b f : Int) : Nat := if n < 1 ∨ b < 1 ∨ f < 2 then 0 else pgo f.toNat ((n - 1) / b + 1).toNat
/-! ### files on the way -/
/-- how many names there were; which files there are -/
abbrev Tm := Nat × List Nm
def tname (temp : Nm) (k : Nat) : Nm := (temp ++ [46]) ++ Go.Lib.itoa ((k : Nat) : Int)
def gones : List Nm → List Nm → Disk → Disk × List Nm × Nat
  | [], made, d => (d, made, 0)
  | n :: l, made, d => if (d.remove n).2 ≠ 0 ∧ (d.remove n).2 ≠ 4 then ((d.remove n).1, made, (d.remove n).2) else gones l (made.filter fun m => !decide (m = n)) (d.remove n).1
def run (temp : Nm) (how : Int) (l : List R) (tm : Tm) (d : Disk) : Disk × Tm × Nat :=
  ((write (tname temp (tm.1 + 1)) (fold how (sort l)) d).1, (tm.1 + 1, tm.2 ++ [tname temp (tm.1 + 1)]), (write (tname temp (tm.1 + 1)) (fold how (sort l)) d).2)
/-- runs of at most so many records -/
def cut (nin : Nm) (sz : Nat) (temp : Nm) (how : Int) (budget : Nat) : Nat → Rs → List R → List Nm → Nat → Tm → Disk → Disk × Tm × List Nm × Nat × Nat
  | 0, _, _, names, n, tm, d => (d, tm, names, n, 0)
  | k + 1, s, l, names, n, tm, d =>
    if (rnext nin sz s d).2.2.2 ≠ 0 then ((rnext nin sz s d).1, tm, [], 0, (rnext nin sz s d).2.2.2) else
    match (rnext nin sz s d).2.2.1 with
    | some r =>
      if l.length + 1 = budget then
        if (run temp how (l ++ [r]) tm (rnext nin sz s d).1).2.2 ≠ 0 then ((run temp how (l ++ [r]) tm (rnext nin sz s d).1).1, (run temp how (l ++ [r]) tm (rnext nin sz s d).1).2.1, [], 0, (run temp how (l ++ [r]) tm (rnext nin sz s d).1).2.2)
        else cut nin sz temp how budget k (rnext nin sz s d).2.1 [] (names ++ [tname temp (tm.1 + 1)]) (n + 1) (run temp how (l ++ [r]) tm (rnext nin sz s d).1).2.1 (run temp how (l ++ [r]) tm (rnext nin sz s d).1).1
      else cut nin sz temp how budget k (rnext nin sz s d).2.1 (l ++ [r]) names (n + 1) tm (rnext nin sz s d).1
    | none =>
      if l = [] then ((rnext nin sz s d).1, tm, names, n, 0)
      else if (run temp how l tm (rnext nin sz s d).1).2.2 ≠ 0 then ((run temp how l tm (rnext nin sz s d).1).1, (run temp how l tm (rnext nin sz s d).1).2.1, [], 0, (run temp how l tm (rnext nin sz s d).1).2.2)
      else ((run temp how l tm (rnext nin sz s d).1).1, (run temp how l tm (rnext nin sz s d).1).2.1, names ++ [tname temp (tm.1 + 1)], n, 0)
/-! ### a merge -/
/-- a reader: the file, its size, where it stands -/
abbrev Rd := Nm × Nat × Rs
def rd0 : Rd := ([], 0, (0, [], false))
/-- the next of reader i (from 1 on) goes to the heap -/
def mpush (rs : List Rd) (i : Nat) (hs : List Hd) (d : Disk) : Disk × (List Rd × List Hd) × Nat :=
  ((rnext (rs.getD (i - 1) rd0).1 (rs.getD (i - 1) rd0).2.1 (rs.getD (i - 1) rd0).2.2 d).1,
    (rs.set (i - 1) ((rs.getD (i - 1) rd0).1, (rs.getD (i - 1) rd0).2.1, (rnext (rs.getD (i - 1) rd0).1 (rs.getD (i - 1) rd0).2.1 (rs.getD (i - 1) rd0).2.2 d).2.1),
      match (rnext (rs.getD (i - 1) rd0).1 (rs.getD (i - 1) rd0).2.1 (rs.getD (i - 1) rd0).2.2 d).2.2.1 with
      | some r => hpush hs (r, i)
      | none => hs),
    (rnext (rs.getD (i - 1) rd0).1 (rs.getD (i - 1) rd0).2.1 (rs.getD (i - 1) rd0).2.2 d).2.2.2)
def mopen : List Nm → List Rd → List Hd → Disk → Disk × (List Rd × List Hd) × Nat
  | [], rs, hs, d => (d, (rs, hs), 0)
  | n :: ns, rs, hs, d =>
    if (d.size n).2.2 ≠ 0 then ((d.size n).1, (rs, hs), (d.size n).2.2) else
    if (mpush (rs ++ [(n, (d.size n).2.1, (0, [], false))]) (rs.length + 1) hs (d.size n).1).2.2 ≠ 0 then mpush (rs ++ [(n, (d.size n).2.1, (0, [], false))]) (rs.length + 1) hs (d.size n).1
    else mopen ns (mpush (rs ++ [(n, (d.size n).2.1, (0, [], false))]) (rs.length + 1) hs (d.size n).1).2.1.1 (mpush (rs ++ [(n, (d.size n).2.1, (0, [], false))]) (rs.length + 1) hs (d.size n).1).2.1.2 (mpush (rs ++ [(n, (d.size n).2.1, (0, [], false))]) (rs.length + 1) hs (d.size n).1).1
/-- the last one goes out, and the file is shut -/
def mend (out : Nm) (last : Option R) (t : By) (d : Disk) : Disk × Nat :=
  match last with
  | none => wclose out t d
  | some z => if (wput out z t d).2.2 ≠ 0 then ((wput out z t d).1, (wput out z t d).2.2) else wclose out (wput out z t d).2.1 (wput out z t d).1
def mloop (how : Int) (out : Nm) : Nat → List Rd → List Hd → Option R → By → Disk → Disk × Nat
  | 0, _, _, _, _, d => (d, 0)
  | k + 1, rs, hs, last, t, d =>
    if hs = [] then mend out last t d else
    if (mpush rs (hg hs 0).2 (hpop hs) d).2.2 ≠ 0 then ((mpush rs (hg hs 0).2 (hpop hs) d).1, (mpush rs (hg hs 0).2 (hpop hs) d).2.2) else
    match last with
    | none => mloop how out k (mpush rs (hg hs 0).2 (hpop hs) d).2.1.1 (mpush rs (hg hs 0).2 (hpop hs) d).2.1.2 (some (hg hs 0).1) t (mpush rs (hg hs 0).2 (hpop hs) d).1
    | some z =>
      if how ≠ 0 ∧ z.1 = (hg hs 0).1.1 then mloop how out k (mpush rs (hg hs 0).2 (hpop hs) d).2.1.1 (mpush rs (hg hs 0).2 (hpop hs) d).2.1.2 (some (z.1, comb how z.2 (hg hs 0).1.2)) t (mpush rs (hg hs 0).2 (hpop hs) d).1 else
      if (wput out z t (mpush rs (hg hs 0).2 (hpop hs) d).1).2.2 ≠ 0 then ((wput out z t (mpush rs (hg hs 0).2 (hpop hs) d).1).1, (wput out z t (mpush rs (hg hs 0).2 (hpop hs) d).1).2.2) else
      mloop how out k (mpush rs (hg hs 0).2 (hpop hs) d).2.1.1 (mpush rs (hg hs 0).2 (hpop hs) d).2.1.2 (some (hg hs 0).1) (wput out z t (mpush rs (hg hs 0).2 (hpop hs) d).1).2.1 (wput out z t (mpush rs (hg hs 0).2 (hpop hs) d).1).1
section
variable {how : Int} {out : Nm} {k : Nat} {rs : List Rd} {hs : List Hd} {last : Option R} {z : R} {t : By} {d : Disk}
theorem mloop_end (h : hs = []) : mloop how out (k + 1) rs hs last t d = mend out last t d := by cases last <;> exact if_pos h
theorem mloop_bad (h : hs ≠ []) (e : (mpush rs (hg hs 0).2 (hpop hs) d).2.2 ≠ 0) : mloop how out (k + 1) rs hs last t d = ((mpush rs (hg hs 0).2 (hpop hs) d).1, (mpush rs (hg hs 0).2 (hpop hs) d).2.2) := by cases last <;> exact (if_neg h).trans (if_pos e)
theorem mloop_first (h : hs ≠ []) (e : (mpush rs (hg hs 0).2 (hpop hs) d).2.2 = 0) : mloop how out (k + 1) rs hs none t d = mloop how out k (mpush rs (hg hs 0).2 (hpop hs) d).2.1.1 (mpush rs (hg hs 0).2 (hpop hs) d).2.1.2 (some (hg hs 0).1) t (mpush rs (hg hs 0).2 (hpop hs) d).1 := (if_neg h).trans (if_neg (fun c => c e))
theorem mloop_comb (h : hs ≠ []) (e : (mpush rs (hg hs 0).2 (hpop hs) d).2.2 = 0) (c : how ≠ 0 ∧ z.1 = (hg hs 0).1.1) : mloop how out (k + 1) rs hs (some z) t d = mloop how out k (mpush rs (hg hs 0).2 (hpop hs) d).2.1.1 (mpush rs (hg hs 0).2 (hpop hs) d).2.1.2 (some (z.1, comb how z.2 (hg hs 0).1.2)) t (mpush rs (hg hs 0).2 (hpop hs) d).1 := ((if_neg h).trans (if_neg (fun c => c e))).trans (if_pos c)
theorem mloop_wbad (h : hs ≠ []) (e : (mpush rs (hg hs 0).2 (hpop hs) d).2.2 = 0) (c : ¬ (how ≠ 0 ∧ z.1 = (hg hs 0).1.1)) (b : (wput out z t (mpush rs (hg hs 0).2 (hpop hs) d).1).2.2 ≠ 0) : mloop how out (k + 1) rs hs (some z) t d = ((wput out z t (mpush rs (hg hs 0).2 (hpop hs) d).1).1, (wput out z t (mpush rs (hg hs 0).2 (hpop hs) d).1).2.2) := (((if_neg h).trans (if_neg (fun c => c e))).trans (if_neg c)).trans (if_pos b)
theorem mloop_put (h : hs ≠ []) (e : (mpush rs (hg hs 0).2 (hpop hs) d).2.2 = 0) (c : ¬ (how ≠ 0 ∧ z.1 = (hg hs 0).1.1)) (b : (wput out z t (mpush rs (hg hs 0).2 (hpop hs) d).1).2.2 = 0) : mloop how out (k + 1) rs hs (some z) t d = mloop how out k (mpush rs (hg hs 0).2 (hpop hs) d).2.1.1 (mpush rs (hg hs 0).2 (hpop hs) d).2.1.2 (some (hg hs 0).1) (wput out z t (mpush rs (hg hs 0).2 (hpop hs) d).1).2.1 (wput out z t (mpush rs (hg hs 0).2 (hpop hs) d).1).1 := (((if_neg h).trans (if_neg (fun c => c e))).trans (if_neg c)).trans (if_neg (fun c => c b))
end
/-- what is left to be merged, at most -/
def mleft (rs : List Rd) (hs : List Hd) : Nat := (rs.map fun e => rleft e.2.1 e.2.2).sum + hs.length
def merge (how : Int) (out : Nm) (ns : List Nm) (d : Disk) : Disk × Nat :=
  if (mopen ns [] [] d).2.2 ≠ 0 then ((mopen ns [] [] d).1, (mopen ns [] [] d).2.2) else
  if ((mopen ns [] [] d).1.create out).2 ≠ 0 then (mopen ns [] [] d).1.create out else
  mloop how out (mleft (mopen ns [] [] d).2.1.1 (mopen ns [] [] d).2.1.2 + 1) (mopen ns [] [] d).2.1.1 (mopen ns [] [] d).2.1.2 none [] ((mopen ns [] [] d).1.create out).1
/-! ### all of it -/
def chunk {α : Type} (f : Nat) (l : List α) : List (List α) := if h : l = [] ∨ f = 0 then [] else l.take f :: chunk f (l.drop f)
termination_by l.length
decreasing_by
  have := List.length_pos_iff.2 (fun e => h (.inl e))
  simp; omega
def pass (how : Int) (temp : Nm) : List (List Nm) → List Nm → Tm → Disk → Disk × Tm × List Nm × Nat
  | [], nx, tm, d => (d, tm, nx, 0)
  | p :: ps, nx, tm, d =>
    if (merge how (tname temp (tm.1 + 1)) p d).2 ≠ 0 then ((merge how (tname temp (tm.1 + 1)) p d).1, (tm.1 + 1, tm.2 ++ [tname temp (tm.1 + 1)]), nx, (merge how (tname temp (tm.1 + 1)) p d).2) else
    if (gones p (tm.2 ++ [tname temp (tm.1 + 1)]) (merge how (tname temp (tm.1 + 1)) p d).1).2.2 ≠ 0 then
      ((gones p (tm.2 ++ [tname temp (tm.1 + 1)]) (merge how (tname temp (tm.1 + 1)) p d).1).1, (tm.1 + 1, (gones p (tm.2 ++ [tname temp (tm.1 + 1)]) (merge how (tname temp (tm.1 + 1)) p d).1).2.1), nx, (gones p (tm.2 ++ [tname temp (tm.1 + 1)]) (merge how (tname temp (tm.1 + 1)) p d).1).2.2)
    else pass how temp ps (nx ++ [tname temp (tm.1 + 1)]) (tm.1 + 1, (gones p (tm.2 ++ [tname temp (tm.1 + 1)]) (merge how (tname temp (tm.1 + 1)) p d).1).2.1) (gones p (tm.2 ++ [tname temp (tm.1 + 1)]) (merge how (tname temp (tm.1 + 1)) p d).1).1
def levels (how : Int) (temp : Nm) (fan : Nat) : Nat → List Nm → Tm → Disk → Disk × Tm × List Nm × Nat
  | 0, names, tm, d => (d, tm, names, 0)
  | k + 1, names, tm, d =>
    if names.length ≤ 1 then (d, tm, names, 0) else
    if (pass how temp (chunk fan names) [] tm d).2.2.2 ≠ 0 then pass how temp (chunk fan names) [] tm d else
    levels how temp fan k (pass how temp (chunk fan names) [] tm d).2.2.1 (pass how temp (chunk fan names) [] tm d).2.1 (pass how temp (chunk fan names) [] tm d).1
/-- behind the runs -/
def ends (out : Nm) (names : List Nm) (p : Nat) (tm : Tm) (d : Disk) : Disk × Tm × Nat × Nat :=
  match names with
  | [] => ((write out [] d).1, tm, 0, (write out [] d).2)
  | a :: _ => if (d.rename a out).2 ≠ 0 then ((d.rename a out).1, tm, 0, (d.rename a out).2) else ((d.rename a out).1, (tm.1, []), p, 0)
def all (nin : Nm) (sz : Nat) (out temp : Nm) (how : Int) (budget fan : Nat) (d : Disk) : Disk × Tm × Nat × Nat :=
  let c := cut nin sz temp how budget (rleft sz (0, [], false) + 1) (0, [], false) [] [] 0 (0, []) d
  if c.2.2.2.2 ≠ 0 then (c.1, c.2.1, 0, c.2.2.2.2) else
  let v := levels how temp fan c.2.2.1.length c.2.2.1 c.2.1 c.1
  if v.2.2.2 ≠ 0 then (v.1, v.2.1, 0, v.2.2.2) else
  ends out v.2.2.1 (passes c.2.2.2.1 budget fan) v.2.1 v.1
def sortD (nin out temp : Nm) (budget fan how : Int) (d : Disk) : Disk × Nat × Nat :=
  if budget < 1 ∨ fan < 2 ∨ how < 0 ∨ 2 < how then (d, 0, 1) else
  if (d.size nin).2.2 ≠ 0 then ((d.size nin).1, 0, (d.size nin).2.2) else
  let d1 := (d.size nin).1
  if (d1.create out).2 ≠ 0 then ((d1.create out).1, 0, (d1.create out).2) else
  if ((d1.create out).1.remove out).2 ≠ 0 then (((d1.create out).1.remove out).1, 0, ((d1.create out).1.remove out).2) else
  let x := all nin (d.size nin).2.1 out temp how budget.toNat fan.toNat ((d1.create out).1.remove out).1
  if x.2.2.2 ≠ 0 then ((gones (x.2.1.2 ++ [out]) x.2.1.2 x.1).1, 0, x.2.2.2) else (x.1, x.2.2.1, 0)
end Go.Cg.Xs
