/- The plain model of a mailbox. No condition. -/
import Derived.Test.YtgfdmhjjlajmgaaGreatDoorRw
import Derived.Test.YtgfdmhjjlajmgaaGreatDoorMp
import Derived.Lib.ItoaNum
namespace Go.Cg.Rn
set_option linter.unusedVariables false
set_option linter.unusedSimpArgs false
open Go.Cg.Dk Go.Cg.Oc

structure Bx where
  name : Nm
  budget : Nat
  how : Int
  now : List R
  files : List Nm
  next : Nat
namespace Bx
set_option linter.unusedVariables false
set_option linter.unusedSimpArgs false
def new (name : Nm) (budget : Nat) (how : Int) : Bx := ⟨name, budget, how, [], [], 0⟩
def file (x : Bx) (i : Nat) : Nm := (x.name ++ [46]) ++ Go.Lib.itoa ((i : Nat) : Int)
def spill (x : Bx) (d : Disk) : Disk × Bx × Nat :=
  if (Rn.write (x.file (x.next + 1)) (Rn.sort x.now) d).2 ≠ 0 then
    (if (Rn.write (x.file (x.next + 1)) (Rn.sort x.now) d).2 ≠ 5 then ((Rn.write (x.file (x.next + 1)) (Rn.sort x.now) d).1.remove (x.file (x.next + 1))).1 else (Rn.write (x.file (x.next + 1)) (Rn.sort x.now) d).1, x, (Rn.write (x.file (x.next + 1)) (Rn.sort x.now) d).2)
  else ((Rn.write (x.file (x.next + 1)) (Rn.sort x.now) d).1, { x with now := [], files := x.files ++ [x.file (x.next + 1)], next := x.next + 1 }, 0)
def into (x : Bx) (k v : Nat) : Bx := { x with now := tupd x.now k v }
def put (x : Bx) (r : R) (d : Disk) : Disk × Bx × Nat :=
  match tlook x.now r.1 with
  | some v => (d, x.into r.1 (comb x.how v r.2), 0)
  | none => if x.budget ≤ x.now.length then (if (x.spill d).2.2 ≠ 0 then x.spill d else ((x.spill d).1, (x.spill d).2.1.into r.1 r.2, 0)) else (d, x.into r.1 r.2, 0)
/-- all files read, behind what there is -/
def reads : List Nm → List (List R) → Disk → Disk × List (List R) × Nat
  | [], ls, d => (d, ls, 0)
  | n :: ns, ls, d => if (Rn.read n d).2.2 ≠ 0 then ((Rn.read n d).1, ls, (Rn.read n d).2.2) else reads ns (ls ++ [(Rn.read n d).2.1]) (Rn.read n d).1
def all (x : Bx) (d : Disk) : Disk × List R × Nat :=
  if (reads x.files [Rn.sort x.now] d).2.2 ≠ 0 then ((reads x.files [Rn.sort x.now] d).1, [], (reads x.files [Rn.sort x.now] d).2.2)
  else ((reads x.files [Rn.sort x.now] d).1, (Rn.merge x.how (reads x.files [Rn.sort x.now] d).2.1).1, (Rn.merge x.how (reads x.files [Rn.sort x.now] d).2.1).2)
def clears : List Nm → Disk → Disk × List Nm × Nat
  | [], d => (d, [], 0)
  | n :: ns, d => if (d.remove n).2 ≠ 0 then ((d.remove n).1, n :: ns, (d.remove n).2) else clears ns (d.remove n).1
def clear (x : Bx) (d : Disk) : Disk × Bx × Nat := ((clears x.files d).1, { x with now := [], files := (clears x.files d).2.1 }, (clears x.files d).2.2)
/-- what a box may be, by some bound -/
structure Fit (k : Nat) (x : Bx) : Prop where
  now : x.now.length ≤ k
  files : x.files.length ≤ k
  next : x.next ≤ k
  name : x.name.length ≤ 1000
  bd : Bd x.now
  budget : x.budget ≤ 4611686018427387904
theorem Fit.new {name : Nm} {budget : Nat} {how : Int} (h : name.length ≤ 1000) (hb : budget ≤ 4611686018427387904) : Fit 0 (new name budget how) := ⟨Nat.le_refl _, Nat.le_refl _, Nat.le_refl _, h, Bd.nil, hb⟩
theorem tupd_len (k v : Nat) : ∀ l : List R, (tupd l k v).length ≤ l.length + 1
  | [] => by simp [tupd]
  | p :: l => by unfold tupd; split <;> simp; have := tupd_len k v l; omega
theorem tupd_bd {k v : Nat} (hk : k < 18446744073709551616) (hv : v < 18446744073709551616) : ∀ {l : List R}, Bd l → Bd (tupd l k v)
  | [], _ => fun z hz => by rw [List.mem_singleton.1 hz]; exact ⟨hk, hv⟩
  | p :: l, h => by
    unfold tupd; split
    · exact fun z hz => by
        rcases List.mem_cons.1 hz with rfl | hz
        · exact ⟨hk, hv⟩
        · exact h z (List.mem_cons_of_mem _ hz)
    · exact fun z hz => by
        rcases List.mem_cons.1 hz with rfl | hz
        · exact h _ List.mem_cons_self
        · exact tupd_bd hk hv (fun y hy => h y (List.mem_cons_of_mem _ hy)) z hz
theorem tlook_lt {k v : Nat} : ∀ {l : List R}, Bd l → tlook l k = some v → v < 18446744073709551616
  | [], _, h => by simp [tlook] at h
  | p :: l, hb, h => by
    unfold tlook at h; split at h
    · have := Option.some.inj h; rw [← this]; exact (hb p List.mem_cons_self).2
    · exact tlook_lt (fun y hy => hb y (List.mem_cons_of_mem _ hy)) h
theorem Fit.into {k : Nat} {x : Bx} (h : Fit k x) {a b : Nat} (ha : a < 18446744073709551616) (hb : b < 18446744073709551616) : Fit (k + 1) (x.into a b) :=
  ⟨Nat.le_trans (tupd_len _ _ _) (Nat.succ_le_succ h.now), Nat.le_succ_of_le h.files, Nat.le_succ_of_le h.next, h.name, tupd_bd ha hb h.bd, h.budget⟩
theorem Fit.more {k j : Nat} {x : Bx} (h : Fit k x) (hj : k ≤ j) : Fit j x := ⟨Nat.le_trans h.now hj, Nat.le_trans h.files hj, Nat.le_trans h.next hj, h.name, h.bd, h.budget⟩
theorem Fit.spill {k : Nat} {x : Bx} (h : Fit k x) (d : Disk) : Fit (k + 1) (x.spill d).2.1 := by
  unfold Bx.spill
  split
  · exact h.more (Nat.le_succ _)
  · exact ⟨Nat.zero_le _, by simp; exact h.files, Nat.succ_le_succ h.next, h.name, Bd.nil, h.budget⟩
theorem spill_now {x : Bx} {d : Disk} (h : (x.spill d).2.2 = 0) : (x.spill d).2.1.now = [] := by
  unfold Bx.spill at h ⊢
  split at h
  · rename_i h1; exact absurd h h1
  · rename_i h1; rw [if_neg h1]
theorem Fit.put {k : Nat} {x : Bx} (h : Fit k x) {r : R} (hr : r.1 < 18446744073709551616 ∧ r.2 < 18446744073709551616) (d : Disk) : Fit (k + 1) (x.put r d).2.1 := by
  unfold Bx.put
  split
  · rename_i v hv
    exact h.into hr.1 (comb_lt (tlook_lt h.bd hv) hr.2)
  · split
    · split
      · exact h.spill d
      · rename_i h0
        have h1 := h.spill d
        have h2 := spill_now (x := x) (d := d) (by omega)
        refine ⟨?_, h1.files, h1.next, h1.name, tupd_bd hr.1 hr.2 h1.bd, h1.budget⟩
        show (tupd (x.spill d).2.1.now r.1 r.2).length ≤ k + 1
        rw [h2]; simp [tupd]
    · exact h.into hr.1 hr.2
theorem spill_cnt (x : Bx) (d : Disk) : (x.spill d).1.files.length ≤ d.files.length + 1 := by
  unfold Bx.spill
  split
  · split
    · exact Nat.le_trans (len_remove _ _) (write_cnt _ _ _)
    · exact write_cnt _ _ _
  · exact write_cnt _ _ _
theorem put_cnt (x : Bx) (r : R) (d : Disk) : (x.put r d).1.files.length ≤ d.files.length + 1 := by
  unfold Bx.put
  split
  · exact Nat.le_succ _
  · split
    · split
      · exact spill_cnt _ _
      · exact spill_cnt _ _
    · exact Nat.le_succ _
theorem reads_cnt : ∀ (ns : List Nm) (ls : List (List R)) (d : Disk), (reads ns ls d).1.files.length = d.files.length
  | [], _, _ => rfl
  | n :: ns, ls, d => by
    unfold reads; split
    · exact read_cnt _ _
    · rw [reads_cnt ns]; exact read_cnt _ _
theorem all_cnt (x : Bx) (d : Disk) : (x.all d).1.files.length = d.files.length := by
  unfold Bx.all; split <;> exact reads_cnt _ _ _
theorem clears_cnt : ∀ (ns : List Nm) (d : Disk), (clears ns d).1.files.length ≤ d.files.length
  | [], _ => Nat.le_refl _
  | n :: ns, d => by
    unfold clears; split
    · exact len_remove _ _
    · exact Nat.le_trans (clears_cnt ns _) (len_remove _ _)
theorem reads_app : ∀ (ns ms : List Nm) (ls : List (List R)) (d : Disk), reads (ns ++ ms) ls d = if (reads ns ls d).2.2 ≠ 0 then reads ns ls d else reads ms (reads ns ls d).2.1 (reads ns ls d).1
  | [], ms, ls, d => by simp [reads]
  | n :: ns, ms, ls, d => by
    rw [List.cons_append, reads, reads]
    by_cases h : (Rn.read n d).2.2 ≠ 0
    · rw [if_pos h, if_pos h, if_pos h]
    · rw [if_neg h, if_neg h, reads_app ns ms]
theorem reads_take {ns : List Nm} {i : Nat} {ls : List (List R)} {d : Disk} (hi : i < ns.length) (h : (reads (ns.take i) ls d).2.2 = 0) (h2 : (Rn.read (ns.getD i []) (reads (ns.take i) ls d).1).2.2 = 0) :
    reads (ns.take (i + 1)) ls d = ((Rn.read (ns.getD i []) (reads (ns.take i) ls d).1).1, (reads (ns.take i) ls d).2.1 ++ [(Rn.read (ns.getD i []) (reads (ns.take i) ls d).1).2.1], 0) := by
  have e : ns.take (i + 1) = ns.take i ++ [ns.getD i []] := by
    rw [List.take_add_one, List.getElem?_eq_getElem hi, List.getD_eq_getElem?_getD, List.getElem?_eq_getElem hi]; rfl
  rw [e, reads_app, if_neg (by omega), reads, if_neg (by omega), reads]
theorem reads_stop {ns : List Nm} {i : Nat} {ls : List (List R)} {d : Disk} (hi : i < ns.length) (h : (reads (ns.take i) ls d).2.2 = 0) (h2 : (Rn.read (ns.getD i []) (reads (ns.take i) ls d).1).2.2 ≠ 0) :
    (reads ns ls d).1 = (Rn.read (ns.getD i []) (reads (ns.take i) ls d).1).1 ∧ (reads ns ls d).2.2 = (Rn.read (ns.getD i []) (reads (ns.take i) ls d).1).2.2 := by
  have e : ns = ns.take i ++ ns.getD i [] :: ns.drop (i + 1) := by
    rw [List.getD_eq_getElem?_getD, List.getElem?_eq_getElem hi]
    simp only [Option.getD_some]
    rw [← List.drop_eq_getElem_cons hi, List.take_append_drop]
  have e2 : reads ns ls d = reads (ns.take i ++ ns.getD i [] :: ns.drop (i + 1)) ls d := by rw [← e]
  rw [e2, reads_app, if_neg (by omega), reads, if_pos h2]
  exact ⟨rfl, rfl⟩
theorem clears_step {ns : List Nm} {d : Disk} (hn : 0 < ns.length) (h : (d.remove (ns.getD 0 [])).2 = 0) : clears ns d = clears (ns.drop 1) (d.remove (ns.getD 0 [])).1 := by
  cases ns with
  | nil => simp at hn
  | cons n ns => simp only [List.getD_cons_zero] at h ⊢; rw [clears, if_neg (by omega)]; rfl
theorem clears_stop {ns : List Nm} {d : Disk} (hn : 0 < ns.length) (h : (d.remove (ns.getD 0 [])).2 ≠ 0) : clears ns d = ((d.remove (ns.getD 0 [])).1, ns, (d.remove (ns.getD 0 [])).2) := by
  cases ns with
  | nil => simp at hn
  | cons n ns => simp only [List.getD_cons_zero] at h ⊢; rw [clears, if_pos h]
end Bx
end Go.Cg.Rn
