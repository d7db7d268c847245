/- Plans: how the mailbox's small case goes, and how puts go on. No condition. -/
import Derived.Test.YtembfpadojnpmaaGreatDoorBw
namespace Go.Cg.Rn
set_option linter.unusedVariables false
set_option linter.unusedSimpArgs false
open Go.Cg.Dk Go.Cg.Oc Go.Cg.Cl
namespace Bx
set_option linter.unusedVariables false
set_option linter.unusedSimpArgs false
theorem has_iff {x : Bx} {k : Nat} : x.has k = true ↔ k ∈ x.now.map (·.1) := by
  unfold has
  constructor
  · intro h
    obtain ⟨v, hv⟩ := Option.isSome_iff_exists.1 h
    exact tlook_mem hv
  · intro h
    cases hl : tlook x.now k with
    | some v => rfl
    | none =>
      obtain ⟨z, hz, e⟩ := List.mem_map.1 h
      exact absurd e (tlook_none hl z hz)
theorem spill_ok {x : Bx} {d : Disk} (h : d.Ok) : (x.spill d).1.Ok := by
  unfold spill; split
  · split
    · exact (write_ok h).remove _
    · exact write_ok h
  · exact write_ok h
theorem put_ok {x : Bx} {r : R} {d : Disk} (h : d.Ok) : (x.put r d).1.Ok := by
  unfold put; split
  · exact h
  · split
    · split
      · exact spill_ok h
      · exact spill_ok h
    · exact h
/-- a box, and the records that were put -/
structure RunK (nm : Nm) (b : Nat) (how : Int) (k : Nat) (l : List R) (fs : Fs) (x : Bx) (cs : List (List R)) : Prop where
  on : On fs x cs
  name : x.name = nm
  budget : x.budget = b
  hw : x.how = how
  sum : ∀ k, agg how (x.now ++ cs.flatten) k = agg how l k
  next : x.next ≤ k + l.length
  some : l ≠ [] → 1 ≤ x.now.length
abbrev Run (nm : Nm) (b : Nat) (how : Int) (l : List R) (fs : Fs) (x : Bx) (cs : List (List R)) : Prop := RunK nm b how 0 l fs x cs
theorem Run.new {fs : Fs} {nm : Nm} {b : Nat} {how : Int} (h1 : nm.length ≤ 3) (h2 : 1 ≤ b ∧ b ≤ 50) (h3 : how = 1 ∨ how = 2) (hf : ∀ i, fget fs ((new nm b how).file i) = none) : Run nm b how [] fs (new nm b how) [] :=
  ⟨On.new h1 h2 h3 hf, rfl, rfl, rfl, fun _ => rfl, Nat.le_refl _, fun h => absurd rfl h⟩
theorem RunK.put {nm : Nm} {b : Nat} {how : Int} {k : Nat} {l : List R} {fs fs' : Fs} {x x' : Bx} {cs cs' : List (List R)} {r : R} (h : RunK nm b how k l fs x cs) (p : Put fs fs' x x' cs cs' r) : RunK nm b how k (l ++ [r]) fs' x' cs' := by
  refine ⟨p.on, p.name.trans h.name, p.budget.trans h.budget, p.how.trans h.hw, fun j => ?_, ?_, fun _ => p.some⟩
  · have h1 := p.agg j
    rw [h.hw] at h1
    rw [h1, agg_app, h.sum j, agg_app]
  · have h1 := p.next; have h2 := h.next; simp; omega
theorem RunK.hne {nm : Nm} {b : Nat} {how : Int} {k : Nat} {l : List R} {fs : Fs} {x : Bx} {cs : List (List R)} (h : RunK nm b how k l fs x cs) : how ≠ 0 := by have := h.on.hne; rwa [h.hw] at this
theorem RunK.frame {nm : Nm} {b : Nat} {how : Int} {k : Nat} {l : List R} {fs fs' : Fs} {x : Bx} {cs : List (List R)} (h : RunK nm b how k l fs x cs) (hf : ∀ i, fget fs' (x.file i) = fget fs (x.file i)) : RunK nm b how k l fs' x cs := ⟨h.on.frame hf, h.name, h.budget, h.hw, h.sum, h.next, h.some⟩
theorem RunK.all {nm : Nm} {b : Nat} {how : Int} {k : Nat} {l : List R} {d : Disk} {x : Bx} {cs : List (List R)} (hq : Q d) (h : RunK nm b how k l d.files x cs) : ∃ o, x.all d = (dk d o 0 d.files, fold how (sort l), 0) := by
  obtain ⟨o, h1⟩ := h.on.all hq
  refine ⟨o, ?_⟩
  rw [h1, h.hw, fold_eq h.hne h.sum]
/-- one more, on a disk that is up -/
theorem RunK.stepC {nm : Nm} {b : Nat} {how : Int} {k : Nat} {l : List R} {d : Disk} {x : Bx} {cs : List (List R)} (hq : Q d) (h : RunK nm b how k l d.files x cs) (hl : k + l.length ≤ 900000) {r : R} (hr : r.1 < 18446744073709551616 ∧ r.2 < 18446744073709551616) (hroom : tlook x.now r.1 = none → x.budget ≤ x.now.length → used d.files + x.now.length + 1 ≤ d.room) :
    ∃ d' x' cs', x.put r d = (d', x', 0) ∧ Q d' ∧ d'.room = d.room ∧ Put d.files d'.files x x' cs cs' r ∧ RunK nm b how k (l ++ [r]) d'.files x' cs' := by
  have hn := h.next
  rcases put_goC hq.up d.ops 0 hq.ok.ris h.on (by omega) hr hroom with ⟨h1, _⟩ | ⟨o', a', fs', x', cs', h1, ha, hp⟩
  · omega
  · rw [← hq.self] at h1
    have ha0 := ha rfl
    subst ha0
    have hok := put_ok (x := x) (r := r) hq.ok
    rw [h1] at hok
    exact ⟨_, x', cs', h1, ⟨hok, hq.up, rfl⟩, rfl, hp, h.put hp⟩
theorem RunK.step {nm : Nm} {b : Nat} {how : Int} {k : Nat} {l : List R} {d : Disk} {x : Bx} {cs : List (List R)} (hq : Q d) (h : RunK nm b how k l d.files x cs) (hl : k + l.length ≤ 900000) {r : R} (hr : r.1 < 18446744073709551616 ∧ r.2 < 18446744073709551616) (hroom : used d.files + x.now.length + 1 ≤ d.room) :
    ∃ d' x' cs', x.put r d = (d', x', 0) ∧ Q d' ∧ d'.room = d.room ∧ Put d.files d'.files x x' cs cs' r ∧ RunK nm b how k (l ++ [r]) d'.files x' cs' := h.stepC hq hl hr fun _ _ => hroom
theorem fresh_q {room : Int} (h : room ≤ 1099511627776) : Q (fresh room) := ⟨fresh_ok h, rfl, rfl⟩
theorem shown_plan : ∃ d1 x1 d2 x2 d3 x3 d4 d5 x5, (new [98] 1 1).put (1, 5) (fresh 100) = (d1, x1, 0) ∧ x1.put (2, 5) d1 = (d2, x2, 0) ∧ x2.put (1, 1) d2 = (d3, x3, 0) ∧ x3.all d3 = (d4, [(1, 6), (2, 5)], 0) ∧ x3.clear d4 = (d5, x5, 0) ∧
    x3.files.length = 2 ∧ x5.now.length = 0 ∧ d5.used = 0 ∧ (new [98] 1 1).Fit 1000000 ∧ x1.Fit 1000000 ∧ x2.Fit 1000000 ∧ x3.Fit 1000000 ∧ (fresh 100).files.length ≤ 10 ∧ d1.files.length ≤ 10 ∧ d2.files.length ≤ 10 ∧ d3.files.length ≤ 10 ∧ d4.files.length ≤ 10 ∧ (reads x3.files [sort x3.now] d3).2.1.flatten.length ≤ 1099511627776 := by
  have q0 : Q (fresh 100) := fresh_q (by decide)
  have R0 : Run [98] 1 1 [] (fresh 100).files (new [98] 1 1) [] := Run.new (by decide) (by decide) (.inl rfl) (fun i => rfl)
  have u0 : used (fresh 100).files = 0 := rfl
  obtain ⟨d1, x1, c1, e1, q1, m1, p1, R1⟩ := R0.step q0 (by simp) (r := (1, 5)) (by decide) (by rw [u0]; decide)
  have r0 : (fresh 100).room = 100 := rfl
  have k1 := p1.keys
  have n1 := p1.count
  have hb1 : x1.budget = 1 := R1.budget
  rw [if_neg (by rw [has_iff]; simp [new]), if_neg (by simp [new])] at k1
  rw [if_neg (by simp [new])] at n1
  have k1' : x1.now.map (·.1) = [1] := k1
  have l1 : x1.now.length = 1 := by have := congrArg List.length k1'; simpa using this
  have t1 := p1.pot
  have l0 : (new [98] 1 1).now.length = 0 := rfl
  obtain ⟨d2, x2, c2, e2, q2, m2, p2, R2⟩ := R1.step q1 (by simp) (r := (2, 5)) (by decide) (by omega)
  have k2 := p2.keys
  have n2 := p2.count
  have h2 : x1.has 2 = false := by rw [← Bool.not_eq_true, has_iff, k1']; simp
  rw [if_neg (by rw [h2]; simp), if_pos (by rw [l1, hb1])] at k2
  rw [if_pos ⟨h2, by rw [l1, hb1]⟩] at n2
  have l2 : x2.now.length = 1 := by have := congrArg List.length k2; simpa using this
  have hb2 : x2.budget = 1 := R2.budget
  have t2 := p2.pot
  obtain ⟨d3, x3, c3, e3, q3, m3, p3, R3⟩ := R2.step q2 (by simp) (r := (1, 1)) (by decide) (by omega)
  have n3 := p3.count
  have h3 : x2.has 1 = false := by rw [← Bool.not_eq_true, has_iff, k2]; simp
  rw [if_pos ⟨h3, by rw [l2, hb2]⟩] at n3
  obtain ⟨o, e4⟩ := R3.all q3
  have q4 := q3.same o
  obtain ⟨d5, e5, q5, o5, g5, m5, u5⟩ := On.clear (d := dk d3 o 0 d3.files) q4 R3.on
  have hn0 : ([] : List (List R)).length = 0 := rfl
  have ef : fold 1 (sort ([] ++ [(1, 5)] ++ [(2, 5)] ++ [(1, 1)])) = [(1, 6), (2, 5)] := by decide
  rw [ef] at e4
  have only1 := p1.only (fun m hm => absurd rfl hm)
  have only2 := p2.only only1
  have only3 := p3.only only2
  have hf5 : d5.files = [] := by
    refine files_ext q5.ok.ris List.Pairwise.nil fun m => ?_
    rw [g5]; split
    · rfl
    · rename_i hm
      cases hx : fget d3.files m with
      | none => exact hx
      | some f => exact absurd (only3 m (by rw [hx]; simp)) hm
  obtain ⟨o3, hr3⟩ := R3.on.reads q3
  have c1' : d1.files.length ≤ 1 := by have := put_cnt (new [98] 1 1) (1, 5) (fresh 100); rw [e1] at this; exact this
  have c2' : d2.files.length ≤ 2 := by have := put_cnt x1 (2, 5) d1; rw [e2] at this; simp only at this; omega
  have c3' : d3.files.length ≤ 3 := by have := put_cnt x2 (1, 1) d2; rw [e3] at this; simp only at this; omega
  refine ⟨d1, x1, d2, x2, d3, x3, _, d5, _, e1, e2, e3, e4, e5, by rw [R3.on.len]; omega, rfl, by unfold Disk.used; rw [hf5]; rfl, R0.on.fit, R1.on.fit, R2.on.fit, R3.on.fit, by decide, by omega, by omega, by omega, by show d3.files.length ≤ 10; omega, by rw [hr3]; exact R3.on.sum⟩
theorem file_ne {x y : Bx} {a b : UInt8} (hx : x.name = [a]) (hy : y.name = [b]) (h : a ≠ b) (i j : Nat) : y.file j ≠ x.file i := by
  unfold file; rw [hx, hy]
  intro e
  simp only [List.cons_append, List.nil_append, List.cons.injEq] at e
  exact h e.1.symm
theorem rev_get {l : List R} {N i : Nat} (hi : i < N) (hN : N ≤ l.length) : ((l.take N).reverse).getD i (0, 0) = l.getD (N - 1 - i) (0, 0) := by
  have hl : (l.take N).length = N := by rw [List.length_take]; omega
  rw [List.getD_eq_getElem?_getD, List.getD_eq_getElem?_getD, List.getElem?_reverse (by omega), hl, List.getElem?_take, if_pos (by omega)]
/-- behind Clear it begins anew -/
theorem RunK.again {nm : Nm} {b : Nat} {how : Int} {k : Nat} {l : List R} {fs fs' : Fs} {x : Bx} {cs : List (List R)} (h : RunK nm b how k l fs x cs) (o : On fs' { x with now := [], files := [] } []) : RunK nm b how (k + l.length) [] fs' { x with now := [], files := [] } [] :=
  ⟨o, h.name, h.budget, h.hw, fun _ => rfl, by have := h.next; simpa using this, fun h => absurd rfl h⟩
/-- the keys in memory -/
def ks (x : Bx) : List Nat := x.now.map (·.1)
@[simp] theorem ks_len (x : Bx) : x.ks.length = x.now.length := by simp [ks]
def inT (l : List Nat) (k key : Nat) : Bool := (l.take k).contains key
theorem inT_zero (l : List Nat) (key : Nat) : inT l 0 key = false := by simp [inT]
theorem inT_true {l : List Nat} {k key : Nat} (h : inT l k key = true) : inT l (k + 1) key = true := by
  unfold inT at *
  rw [List.contains_iff_mem] at *
  rw [List.take_add_one]
  exact List.mem_append_left _ h
theorem inT_false {l : List Nat} {k key : Nat} (hk : k < l.length) (h : inT l k key = false) : inT l (k + 1) key = decide (((l.getD k 0 : Nat) : Int) = ((key : Nat) : Int)) := by
  unfold inT at *
  rw [Bool.eq_iff_iff, List.contains_iff_mem, decide_eq_true_eq]
  rw [← Bool.not_eq_true, List.contains_iff_mem] at h
  rw [List.take_add_one, List.getElem?_eq_getElem hk, List.getD_eq_getElem?_getD, List.getElem?_eq_getElem hk]
  simp only [Option.toList_some, List.mem_append, List.mem_singleton, Option.getD_some]
  constructor
  · rintro (h1 | h1)
    · exact absurd h1 h
    · rw [h1]
  · intro h1; exact .inr (by omega)
theorem inT_all (x : Bx) (key : Nat) : inT x.ks x.ks.length key = x.has key := by
  unfold inT
  rw [List.take_length, Bool.eq_iff_iff, List.contains_iff_mem, has_iff]; rfl
theorem Put.ksY {fs fs' : Fs} {x x' : Bx} {cs cs' : List (List R)} {r : R} (p : Put fs fs' x x' cs cs' r) (h : x.has r.1 = true) : x'.ks = x.ks ∧ cs'.length = cs.length := by
  have h1 := p.keys; have h2 := p.count
  rw [if_pos h] at h1; rw [if_neg (by rw [h]; simp)] at h2; exact ⟨h1, h2⟩
theorem Put.ksF {fs fs' : Fs} {x x' : Bx} {cs cs' : List (List R)} {r : R} (p : Put fs fs' x x' cs cs' r) (h : x.has r.1 = false) (hf : x.now.length = x.budget) : x'.ks = [r.1] ∧ cs'.length = cs.length + 1 := by
  have h1 := p.keys; have h2 := p.count
  rw [if_neg (by rw [h]; simp), if_pos hf] at h1; rw [if_pos ⟨h, hf⟩] at h2; exact ⟨h1, h2⟩
theorem Put.ksN {fs fs' : Fs} {x x' : Bx} {cs cs' : List (List R)} {r : R} (p : Put fs fs' x x' cs cs' r) (h : x.has r.1 = false) (hf : ¬ x.now.length = x.budget) : x'.ks = x.ks ++ [r.1] ∧ cs'.length = cs.length := by
  have h1 := p.keys; have h2 := p.count
  rw [if_neg (by rw [h]; simp), if_neg hf] at h1; rw [if_neg (fun hh => hf hh.2)] at h2; exact ⟨h1, h2⟩
theorem clear_cnt' {x x' : Bx} {d d' : Disk} {e : Nat} (h : x.clear d = (d', x', e)) : d'.files.length ≤ d.files.length := by
  have h1 := clears_cnt x.files d
  have h2 : (x.clear d).1 = (clears x.files d).1 := rfl
  rw [← h2, h] at h1; exact h1
theorem put_cnt' {x x' : Bx} {r : R} {d d' : Disk} {e : Nat} (h : x.put r d = (d', x', e)) : d'.files.length ≤ d.files.length + 1 := by
  have := put_cnt x r d; rwa [h] at this
end Bx
end Go.Cg.Rn
