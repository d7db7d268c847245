/- The plain model of the disk: files by their names, what of them is synced, room, crashes. No condition. -/
import Derived.IntWalk
namespace Go.Cg.Dk
set_option linter.unusedVariables false
set_option linter.unusedSimpArgs false

abbrev Nm := List UInt8
abbrev By := List UInt8

structure Fl where
  now : By
  syn : By
deriving DecidableEq

/-! ### files by their names, rising -/
abbrev Fs := List (Nm × Fl)
def fget : Fs → Nm → Option Fl
  | [], _ => none
  | p :: r, n => if n = p.1 then some p.2 else fget r n
def fdel (l : Fs) (n : Nm) : Fs := l.filter fun p => p.1 ≠ n
def fins (n : Nm) (f : Fl) : Fs → Fs
  | [] => [(n, f)]
  | p :: r => if n < p.1 then (n, f) :: p :: r else p :: fins n f r
def fput (l : Fs) (n : Nm) (f : Fl) : Fs := fins n f (fdel l n)
def rising (l : Fs) : Prop := l.Pairwise fun p q => p.1 < q.1
def sectors (n : Nat) : Nat := (n + 15) / 16
def used (l : Fs) : Nat := (l.map fun p => sectors p.2.now.length).sum

/-! ### one file behind a crash -/
def tornStep (f : Fl) (k : Nat) (s : By × List Bool) : By × List Bool :=
  let at_ := 16 * k
  let to_ := min (at_ + 16) f.now.length
  if to_ ≤ f.syn.length ∧ (f.now.drop at_).take (to_ - at_) = (f.syn.drop at_).take (to_ - at_) then s
  else match s.2 with
    | [] => s
    | false :: r => (s.1, r)
    | true :: r =>
      let o := s.1 ++ List.replicate (to_ - s.1.length) 0
      (o.take at_ ++ (f.now.drop at_).take (to_ - at_) ++ o.drop to_, r)
def tornUpto (f : Fl) (keep : List Bool) : Nat → By × List Bool
  | 0 => (f.syn, keep)
  | k + 1 => tornStep f k (tornUpto f keep k)
def torn (f : Fl) (keep : List Bool) : By × List Bool := tornUpto f keep (sectors f.now.length)
def tornAll : Fs → List Bool → Fs
  | [], _ => []
  | (n, f) :: r, k => (n, ⟨(torn f k).1, (torn f k).1⟩) :: tornAll r (torn f k).2

/-! ### the disk -/
structure Disk where
  files : Fs
  room : Nat
  ops : Int
  armed : Nat
  keep : List Bool
  down : Bool
deriving DecidableEq

def fresh (room : Int) : Disk := ⟨[], room.toNat, 0, 0, [], false⟩
def Disk.used (d : Disk) : Nat := Dk.used d.files
def Disk.arm (n : Int) (k : List Bool) (d : Disk) : Disk := { d with armed := n.toNat, keep := k }
def Disk.restart (d : Disk) : Disk := { d with down := false }
def Disk.crash (k : List Bool) (d : Disk) : Disk := if d.down then d else { d with files := tornAll d.files k, armed := 0, down := true }
def Disk.begin_ (d : Disk) : Disk :=
  let d1 := { d with ops := IntKind.i64.wrap (d.ops + 1) }
  if d.armed = 0 then d1 else if d.armed = 1 then Disk.crash d.keep { d1 with armed := 0 } else { d1 with armed := d.armed - 1 }
def may (n : Nm) : Bool := decide (n ≠ [] ∧ n.length ≤ 24)

def Disk.create (n : Nm) (d0 : Disk) : Disk × Nat :=
  let d := d0.begin_
  if d.down then (d, 7) else if may n = false then (d, 1) else if (fget d.files n).isSome then (d, 5)
  else ({ d with files := fput d.files n ⟨[], []⟩ }, 0)
def Disk.append (n : Nm) (b : By) (d0 : Disk) : Disk × Nat :=
  let d := d0.begin_
  if d.down then (d, 7) else match fget d.files n with
  | none => (d, 4)
  | some f =>
    if d.room < d.used + (sectors (f.now.length + b.length) - sectors f.now.length) then (d, 6)
    else ({ d with files := fput d.files n ⟨f.now ++ b, f.syn⟩ }, 0)
def Disk.readAt (n : Nm) (i k : Int) (d0 : Disk) : Disk × By × Nat :=
  let d := d0.begin_
  if d.down then (d, [], 7) else match fget d.files n with
  | none => (d, [], 4)
  | some f => if 0 ≤ i ∧ 0 ≤ k ∧ i + k ≤ f.now.length then (d, (f.now.drop i.toNat).take k.toNat, 0) else (d, [], 1)
def Disk.size (n : Nm) (d0 : Disk) : Disk × Nat × Nat :=
  let d := d0.begin_
  if d.down then (d, 0, 7) else match fget d.files n with
  | none => (d, 0, 4)
  | some f => (d, f.now.length, 0)
def Disk.sync (n : Nm) (d0 : Disk) : Disk × Nat :=
  let d := d0.begin_
  if d.down then (d, 7) else match fget d.files n with
  | none => (d, 4)
  | some f => ({ d with files := fput d.files n ⟨f.now, f.now⟩ }, 0)
def Disk.rename (n m : Nm) (d0 : Disk) : Disk × Nat :=
  let d := d0.begin_
  if d.down then (d, 7) else match fget d.files n with
  | none => (d, 4)
  | some f => if may m = false then (d, 1) else if n = m then (d, 0)
    else ({ d with files := fput (fdel d.files n) m f }, 0)
def Disk.remove (n : Nm) (d0 : Disk) : Disk × Nat :=
  let d := d0.begin_
  if d.down then (d, 7) else match fget d.files n with
  | none => (d, 4)
  | some _ => ({ d with files := fdel d.files n }, 0)
def Disk.list (d0 : Disk) : Disk × List Nm × Nat :=
  let d := d0.begin_
  if d.down then (d, [], 7) else (d, d.files.map (·.1), 0)

/-- what is so of every disk -/
structure Disk.Ok (d : Disk) : Prop where
  ris : rising d.files
  syn : ∀ p ∈ d.files, p.2.syn.length ≤ p.2.now.length
  fit : d.used ≤ d.room
  room : d.room ≤ 1099511627776
  armed : d.armed ≤ 9223372036854775807
  nam : ∀ p ∈ d.files, p.1.length ≤ 24

/-! ### laws of files -/
theorem lt_irrefl (n : Nm) : ¬ n < n := List.lt_irrefl n
theorem lt_trans {a b c : Nm} (h : a < b) (k : b < c) : a < c := List.lt_trans h k
theorem lt_or {a b : Nm} (h : a ≠ b) (k : ¬ a < b) : b < a := by
  rcases Decidable.em (b < a) with h' | h'
  · exact h'
  · exact absurd (List.le_antisymm (List.not_lt.1 h') (List.not_lt.1 k)) h
theorem mem_of_fget {n : Nm} {f : Fl} : ∀ {l : Fs}, fget l n = some f → (n, f) ∈ l
  | [], h => by simp [fget] at h
  | p :: r, h => by
    unfold fget at h
    split at h
    · rename_i e; simp only [Option.some.injEq] at h; subst e; subst h; exact List.mem_cons_self
    · exact List.mem_cons_of_mem _ (mem_of_fget h)
theorem fget_none {n : Nm} : ∀ {l : Fs}, fget l n = none → ∀ p ∈ l, p.1 ≠ n
  | [], _, p, hp => by cases hp
  | q :: r, h, p, hp => by
    unfold fget at h
    split at h
    · cases h
    · rename_i e
      rcases List.mem_cons.1 hp with rfl | hp
      · exact fun e' => e e'.symm
      · exact fget_none h p hp
theorem fget_of_mem {n : Nm} {f : Fl} : ∀ {l : Fs}, rising l → (n, f) ∈ l → fget l n = some f
  | p :: r, h, hm => by
    obtain ⟨h1, h2⟩ := List.pairwise_cons.1 h
    unfold fget
    rcases List.mem_cons.1 hm with e | hm
    · rw [← e]; simp
    · rw [if_neg]
      · exact fget_of_mem h2 hm
      · intro e; exact lt_irrefl n (by have := h1 _ hm; rw [← e] at this; exact this)
theorem fget_fdel (n m : Nm) : ∀ l : Fs, fget (fdel l n) m = if m = n then none else fget l m
  | [] => by simp [fdel, fget]
  | p :: r => by
    have ih := fget_fdel n m r
    unfold fdel at ih ⊢
    rw [List.filter_cons]
    split
    · rename_i h
      simp only [decide_eq_true_eq] at h
      unfold fget
      split
      · rename_i e; rw [if_neg (by rw [e]; exact h)]
      · exact ih
    · rename_i h
      simp only [decide_eq_true_eq, Decidable.not_not] at h
      rw [ih]
      split
      · rfl
      · rename_i e
        conv => rhs; unfold fget
        rw [if_neg (by rw [h]; exact e)]
theorem fget_fins (n m : Nm) (f : Fl) : ∀ l : Fs, (∀ p ∈ l, p.1 ≠ n) → fget (fins n f l) m = if m = n then some f else fget l m
  | [], _ => by simp [fins, fget]
  | p :: r, h => by
    have ih := fget_fins n m f r fun q hq => h q (List.mem_cons_of_mem _ hq)
    unfold fins
    split
    · conv => lhs; unfold fget
    · conv => lhs; unfold fget
      rw [ih]
      have hp := h p List.mem_cons_self
      by_cases e : m = p.1
      · rw [if_pos e, if_neg (by rw [e]; exact hp)]; simp [fget, e]
      · rw [if_neg e]; simp [fget, e]
theorem fdel_ne {l : Fs} {n : Nm} : ∀ p ∈ fdel l n, p.1 ≠ n := fun p hp => by
  have := (List.mem_filter.1 hp).2; simpa using this
theorem fget_fput (l : Fs) (n m : Nm) (f : Fl) : fget (fput l n f) m = if m = n then some f else fget l m := by
  unfold fput
  rw [fget_fins _ _ _ _ fdel_ne, fget_fdel]
  split <;> rfl
theorem mem_fins {n : Nm} {f : Fl} {q : Nm × Fl} : ∀ {l : Fs}, q ∈ fins n f l ↔ q = (n, f) ∨ q ∈ l
  | [] => by simp [fins]
  | p :: r => by
    unfold fins
    split
    · simp
    · simp only [List.mem_cons, mem_fins (l := r)]
      constructor
      · rintro (h | h | h)
        · exact .inr (.inl h)
        · exact .inl h
        · exact .inr (.inr h)
      · rintro (h | h | h)
        · exact .inr (.inl h)
        · exact .inl h
        · exact .inr (.inr h)
theorem mem_fput {l : Fs} {n : Nm} {f : Fl} {q : Nm × Fl} : q ∈ fput l n f ↔ q = (n, f) ∨ (q ∈ l ∧ q.1 ≠ n) := by
  unfold fput fdel
  rw [mem_fins, List.mem_filter]
  simp
theorem perm_fins (n : Nm) (f : Fl) : ∀ l : Fs, (fins n f l).Perm ((n, f) :: l)
  | [] => List.Perm.refl _
  | p :: r => by
    unfold fins
    split
    · exact List.Perm.refl _
    · exact ((perm_fins n f r).cons p).trans (List.Perm.swap _ _ _)
theorem rising_fdel {l : Fs} (h : rising l) (n : Nm) : rising (fdel l n) := List.Pairwise.filter _ h
theorem rising_fins {n : Nm} {f : Fl} : ∀ {l : Fs}, rising l → (∀ p ∈ l, p.1 ≠ n) → rising (fins n f l)
  | [], _, _ => by simp [fins, rising]
  | p :: r, h, hn => by
    obtain ⟨h1, h2⟩ := List.pairwise_cons.1 h
    unfold fins
    split
    · rename_i hlt
      refine List.pairwise_cons.2 ⟨fun q hq => ?_, h⟩
      rcases List.mem_cons.1 hq with rfl | hq
      · exact hlt
      · exact lt_trans hlt (h1 q hq)
    · rename_i hlt
      refine List.pairwise_cons.2 ⟨fun q hq => ?_, rising_fins h2 fun q hq => hn q (List.mem_cons_of_mem _ hq)⟩
      rcases mem_fins.1 hq with rfl | hq
      · exact lt_or (hn p List.mem_cons_self).symm hlt
      · exact h1 q hq
theorem rising_fput {l : Fs} (h : rising l) (n : Nm) (f : Fl) : rising (fput l n f) := rising_fins (rising_fdel h n) fdel_ne
theorem nodup_rising {l : Fs} (h : rising l) : l.Nodup := by
  unfold List.Nodup
  refine List.Pairwise.imp ?_ h
  intro a b hab e
  subst e
  exact lt_irrefl _ hab
/-- rising files that tell the same are the same -/
theorem files_ext {l l' : Fs} (h : rising l) (h' : rising l') (e : ∀ n, fget l n = fget l' n) : l = l' := by
  have hp : l.Perm l' := by
    refine (List.perm_ext_iff_of_nodup ?_ ?_).2 fun p => ?_
    · exact nodup_rising h
    · exact nodup_rising h'
    · constructor
      · intro hm; exact mem_of_fget (by rw [← e]; exact fget_of_mem h hm)
      · intro hm; exact mem_of_fget (by rw [e]; exact fget_of_mem h' hm)
  exact hp.eq_of_pairwise (fun a b _ _ hab hba => absurd (lt_trans hab hba) (lt_irrefl _)) h h'

theorem used_perm {l l' : Fs} (h : l.Perm l') : used l = used l' := (h.map _).sum_nat
theorem used_cons (p : Nm × Fl) (l : Fs) : used (p :: l) = sectors p.2.now.length + used l := by simp [used]
theorem used_fput (l : Fs) (n : Nm) (f : Fl) : used (fput l n f) = sectors f.now.length + used (fdel l n) := by
  unfold fput; rw [used_perm (perm_fins _ _ _), used_cons]
theorem fdel_none {n : Nm} : ∀ {l : Fs}, fget l n = none → fdel l n = l := fun {l} h => by
  unfold fdel
  rw [List.filter_eq_self]
  intro p hp
  have := fget_none h p hp
  simpa using this
theorem used_fdel {n : Nm} {f : Fl} : ∀ {l : Fs}, rising l → fget l n = some f → used l = sectors f.now.length + used (fdel l n)
  | p :: r, h, hf => by
    obtain ⟨h1, h2⟩ := List.pairwise_cons.1 h
    unfold fget at hf
    split at hf
    · rename_i e
      simp only [Option.some.injEq] at hf
      have hr : fdel r n = r := by
        unfold fdel; rw [List.filter_eq_self]
        intro q hq
        have := h1 q hq
        simp only [decide_eq_true_eq]
        intro e'; rw [e', e] at this; exact lt_irrefl _ this
      have : fdel (p :: r) n = r := by
        show List.filter _ _ = _
        rw [List.filter_cons, if_neg (by simp [e])]; exact hr
      rw [this, used_cons, hf]
    · rename_i e
      have : fdel (p :: r) n = p :: fdel r n := by
        show List.filter _ _ = _
        rw [List.filter_cons, if_pos (by simpa using fun e' => e e'.symm)]; rfl
      rw [this, used_cons, used_cons, used_fdel h2 hf]; omega
theorem used_le {l : Fs} {n : Nm} {f : Fl} (hr : rising l) (h : fget l n = some f) : sectors f.now.length ≤ used l := by rw [used_fdel hr h]; omega
theorem len_le {d : Disk} (h : d.Ok) {n : Nm} {f : Fl} (hf : fget d.files n = some f) : f.now.length ≤ 17592186044416 := by
  have h1 := used_le h.ris hf
  have h2 := h.fit
  have h3 := h.room
  unfold Disk.used at h2
  unfold sectors at h1
  omega

/-! ### what a crash leaves of a file -/
theorem tornStep_clean (b : By) (k : Nat) (s : By × List Bool) : tornStep ⟨b, b⟩ k s = s := by
  unfold tornStep
  simp only
  rw [if_pos]
  simp only [and_true]
  omega
theorem torn_clean (b : By) (keep : List Bool) : torn ⟨b, b⟩ keep = (b, keep) := by
  have : ∀ k, tornUpto ⟨b, b⟩ keep k = (b, keep) := by
    intro k
    induction k with
    | zero => rfl
    | succ k ih => rw [tornUpto, tornStep_clean, ih]
  exact this _
theorem tornStep_len {f : Fl} {k : Nat} {s : By × List Bool} (h1 : f.syn.length ≤ s.1.length) (h2 : s.1.length ≤ f.now.length) : f.syn.length ≤ (tornStep f k s).1.length ∧ (tornStep f k s).1.length ≤ f.now.length := by
  unfold tornStep
  simp only
  split
  · exact ⟨h1, h2⟩
  · split
    · exact ⟨h1, h2⟩
    · exact ⟨h1, h2⟩
    · simp only [List.length_append, List.length_take, List.length_drop, List.length_replicate]
      omega
theorem torn_len {f : Fl} (keep : List Bool) (h : f.syn.length ≤ f.now.length) : f.syn.length ≤ (torn f keep).1.length ∧ (torn f keep).1.length ≤ f.now.length := by
  have : ∀ k, f.syn.length ≤ (tornUpto f keep k).1.length ∧ (tornUpto f keep k).1.length ≤ f.now.length := by
    intro k
    induction k with
    | zero => exact ⟨Nat.le_refl _, h⟩
    | succ k ih => exact tornStep_len ih.1 ih.2
  exact this _
theorem tornStep_same {f : Fl} {k : Nat} {o : By} {r : List Bool} (h1 : min (16 * k + 16) f.now.length ≤ f.syn.length) (h2 : (f.now.drop (16 * k)).take (min (16 * k + 16) f.now.length - 16 * k) = (f.syn.drop (16 * k)).take (min (16 * k + 16) f.now.length - 16 * k)) : tornStep f k (o, r) = (o, r) := by
  unfold tornStep; simp only; rw [if_pos ⟨h1, h2⟩]
theorem tornStep_no {f : Fl} {k : Nat} {o : By} {r : List Bool} (h : ¬ (min (16 * k + 16) f.now.length ≤ f.syn.length ∧ (f.now.drop (16 * k)).take (min (16 * k + 16) f.now.length - 16 * k) = (f.syn.drop (16 * k)).take (min (16 * k + 16) f.now.length - 16 * k))) (hb : r.headD false = false) : tornStep f k (o, r) = (o, r.tail) := by
  unfold tornStep; simp only; rw [if_neg h]
  cases r with
  | nil => rfl
  | cons b r => simp only [List.headD_cons] at hb; subst hb; rfl
theorem tornStep_yes {f : Fl} {k : Nat} {o : By} {r : List Bool} (h : ¬ (min (16 * k + 16) f.now.length ≤ f.syn.length ∧ (f.now.drop (16 * k)).take (min (16 * k + 16) f.now.length - 16 * k) = (f.syn.drop (16 * k)).take (min (16 * k + 16) f.now.length - 16 * k))) (hb : r.headD false = true) :
    tornStep f k (o, r) = ((o ++ List.replicate (min (16 * k + 16) f.now.length - o.length) 0).take (16 * k) ++ (f.now.drop (16 * k)).take (min (16 * k + 16) f.now.length - 16 * k) ++ (o ++ List.replicate (min (16 * k + 16) f.now.length - o.length) 0).drop (min (16 * k + 16) f.now.length), r.tail) := by
  unfold tornStep; simp only; rw [if_neg h]
  cases r with
  | nil => simp at hb
  | cons b r => simp only [List.headD_cons] at hb; subst hb; rfl
theorem tornUpto_len {f : Fl} (keep : List Bool) (h : f.syn.length ≤ f.now.length) (k : Nat) : f.syn.length ≤ (tornUpto f keep k).1.length ∧ (tornUpto f keep k).1.length ≤ f.now.length := by
  induction k with
  | zero => exact ⟨Nat.le_refl _, h⟩
  | succ k ih => exact tornStep_len ih.1 ih.2
theorem tornAll_names : ∀ (l : Fs) (k : List Bool), (tornAll l k).map (·.1) = l.map (·.1)
  | [], _ => rfl
  | (n, f) :: r, k => by simp [tornAll, tornAll_names r]
theorem tornAll_mem : ∀ {l : Fs} {k : List Bool} {p : Nm × Fl}, p ∈ tornAll l k → ∃ f k', (p.1, f) ∈ l ∧ p.2 = ⟨(torn f k').1, (torn f k').1⟩
  | (n, f) :: r, k, p, h => by
    unfold tornAll at h
    rcases List.mem_cons.1 h with rfl | h
    · exact ⟨f, k, List.mem_cons_self, rfl⟩
    · obtain ⟨f', k', h1, h2⟩ := tornAll_mem h
      exact ⟨f', k', List.mem_cons_of_mem _ h1, h2⟩
theorem tornAll_get (n : Nm) : ∀ (l : Fs) (k : List Bool), (fget l n = none ∧ fget (tornAll l k) n = none) ∨ ∃ f k', fget l n = some f ∧ fget (tornAll l k) n = some ⟨(torn f k').1, (torn f k').1⟩
  | [], _ => .inl ⟨rfl, rfl⟩
  | (m, f) :: r, k => by
    unfold tornAll fget
    by_cases e : n = m
    · right; exact ⟨f, k, by simp [e], by simp [e]⟩
    · simp only [if_neg e]
      exact tornAll_get n r _
theorem rising_names {l l' : Fs} (h : l.map (·.1) = l'.map (·.1)) (hr : rising l) : rising l' := by
  have : ∀ l : Fs, rising l ↔ (l.map (·.1)).Pairwise (· < ·) := fun l => by rw [List.pairwise_map]; rfl
  rw [this] at hr ⊢
  rwa [← h]
theorem rising_torn {l : Fs} (h : rising l) (k : List Bool) : rising (tornAll l k) := rising_names (tornAll_names l k).symm h
theorem used_torn : ∀ {l : Fs} (k : List Bool), (∀ p ∈ l, p.2.syn.length ≤ p.2.now.length) → used (tornAll l k) ≤ used l
  | [], _, _ => Nat.le_refl _
  | (n, f) :: r, k, h => by
    unfold tornAll
    rw [used_cons, used_cons]
    have h1 := torn_len k (h (n, f) List.mem_cons_self)
    have h2 := used_torn (torn f k).2 fun p hp => h p (List.mem_cons_of_mem _ hp)
    have h3 : (torn f k).1.length ≤ f.now.length := h1.2
    simp only [sectors]
    have : ((torn f k).1.length + 15) / 16 ≤ (f.now.length + 15) / 16 := Nat.div_le_div_right (by omega)
    omega

/-! ### every disk stays one -/
theorem fresh_ok {r : Int} (h : r ≤ 1099511627776) : (fresh r).Ok := ⟨List.Pairwise.nil, fun p hp => (List.not_mem_nil hp).elim, Nat.zero_le _, (by show r.toNat ≤ _; omega), Nat.zero_le _, fun p hp => (List.not_mem_nil hp).elim⟩
theorem Disk.Ok.crash {d : Disk} (h : d.Ok) (k : List Bool) : (d.crash k).Ok := by
  unfold Disk.crash
  split
  · exact h
  · refine ⟨rising_torn h.ris k, fun p hp => ?_, Nat.le_trans (used_torn k h.syn) h.fit, h.room, Nat.zero_le _, fun p hp => ?_⟩
    · obtain ⟨f, k', _, e⟩ := tornAll_mem hp
      rw [e]; exact Nat.le_refl _
    · obtain ⟨f, k', h1, _⟩ := tornAll_mem hp
      exact h.nam (p.1, f) h1
theorem Disk.Ok.restart {d : Disk} (h : d.Ok) : d.restart.Ok := ⟨h.ris, h.syn, h.fit, h.room, h.armed, h.nam⟩
theorem Disk.Ok.arm {d : Disk} (h : d.Ok) {n : Int} (hn : n ≤ 9223372036854775807) (k : List Bool) : (d.arm n k).Ok := ⟨h.ris, h.syn, h.fit, h.room, by show n.toNat ≤ _; omega, h.nam⟩
theorem Disk.Ok.begin_ {d : Disk} (h : d.Ok) : d.begin_.Ok := by
  have ha := h.armed
  unfold Disk.begin_
  simp only
  split
  · exact ⟨h.ris, h.syn, h.fit, h.room, h.armed, h.nam⟩
  · split
    · have h1 : Disk.Ok { d with ops := IntKind.i64.wrap (d.ops + 1), armed := 0 } := ⟨h.ris, h.syn, h.fit, h.room, Nat.zero_le _, h.nam⟩
      exact h1.crash _
    · exact ⟨h.ris, h.syn, h.fit, h.room, by show d.armed - 1 ≤ _; omega, h.nam⟩
theorem Disk.Ok.put {d : Disk} (h : d.Ok) {n : Nm} {f : Fl} (h1 : f.syn.length ≤ f.now.length) (h2 : sectors f.now.length + Dk.used (fdel d.files n) ≤ d.room) (h3 : n.length ≤ 24) : Disk.Ok { d with files := fput d.files n f } :=
  ⟨rising_fput h.ris _ _, fun p hp => by rcases mem_fput.1 hp with rfl | hp; (exact h1); (exact h.syn p hp.1), by show Dk.used (fput d.files n f) ≤ _; rw [used_fput]; exact h2, h.room, h.armed, fun p hp => by rcases mem_fput.1 hp with rfl | hp; (exact h3); (exact h.nam p hp.1)⟩
theorem used_fdel_le {l : Fs} (hr : rising l) (n : Nm) : used (fdel l n) ≤ used l := by
  cases hf : fget l n with
  | none => rw [fdel_none hf]; exact Nat.le_refl _
  | some f => rw [used_fdel hr hf]; omega
theorem Disk.Ok.del {d : Disk} (h : d.Ok) (n : Nm) : Disk.Ok { d with files := fdel d.files n } :=
  ⟨rising_fdel h.ris _, fun p hp => h.syn p (List.mem_filter.1 hp).1, Nat.le_trans (used_fdel_le h.ris n) h.fit, h.room, h.armed, fun p hp => h.nam p (List.mem_filter.1 hp).1⟩

theorem may_len {n : Nm} (h : ¬ may n = false) : n.length ≤ 24 := by
  unfold may at h; simp only [decide_eq_false_iff_not, Decidable.not_not] at h; exact h.2
theorem Disk.Ok.create {d : Disk} (h : d.Ok) (n : Nm) : (d.create n).1.Ok := by
  unfold Disk.create
  have hb := h.begin_
  simp only
  split
  · exact hb
  · split
    · exact hb
    · rename_i hm
      split
      · exact hb
      · exact hb.put (Nat.le_refl _) (by have := used_fdel_le hb.ris n; have := hb.fit; unfold Disk.used at this; simp [sectors]; omega) (may_len hm)
theorem Disk.Ok.append {d : Disk} (h : d.Ok) (n : Nm) (b : By) : (d.append n b).1.Ok := by
  unfold Disk.append
  have hb := h.begin_
  simp only
  split
  · exact hb
  · split
    · exact hb
    · rename_i f hf
      split
      · exact hb
      · rename_i hr
        have hs := hb.syn _ (mem_of_fget hf)
        have hu := used_fdel hb.ris hf
        refine hb.put (by simp at hs ⊢; omega) ?_ (hb.nam _ (mem_of_fget hf))
        unfold Disk.used at hr
        rw [hu] at hr
        simp only [List.length_append]
        have : sectors f.now.length ≤ sectors (f.now.length + b.length) := Nat.div_le_div_right (by omega)
        omega
theorem Disk.Ok.sync {d : Disk} (h : d.Ok) (n : Nm) : (d.sync n).1.Ok := by
  unfold Disk.sync
  have hb := h.begin_
  simp only
  split
  · exact hb
  · split
    · exact hb
    · rename_i f hf
      exact hb.put (Nat.le_refl _) (by have := used_fdel hb.ris hf; have := hb.fit; unfold Disk.used at this; simp only; omega) (hb.nam _ (mem_of_fget hf))
theorem Disk.Ok.rename {d : Disk} (h : d.Ok) (n m : Nm) : (d.rename n m).1.Ok := by
  unfold Disk.rename
  have hb := h.begin_
  simp only
  split
  · exact hb
  · split
    · exact hb
    · rename_i f hf
      split
      · exact hb
      · rename_i hm
        split
        · exact hb
        · have hd := hb.del n
          have hs := hb.syn _ (mem_of_fget hf)
          refine Disk.Ok.put hd (f := f) hs ?_ (may_len hm)
          have h1 := used_fdel hb.ris hf
          have h2 := hb.fit
          have h3 := used_fdel_le hd.ris m
          unfold Disk.used at h2
          simp only at h3 ⊢
          omega

/-! ### how many files -/
theorem len_fdel (l : Fs) (n : Nm) : (fdel l n).length ≤ l.length := List.length_filter_le _ _
theorem len_fdel_lt {l : Fs} {n : Nm} {f : Fl} (h : fget l n = some f) : (fdel l n).length < l.length := by
  have h1 := List.length_filter_lt_length_iff_exists (p := fun p : Nm × Fl => decide (p.1 ≠ n)) (l := l)
  exact h1.2 ⟨_, mem_of_fget h, by simp⟩
theorem len_fput (l : Fs) (n : Nm) (f : Fl) : (fput l n f).length ≤ l.length + 1 := by
  unfold fput; rw [(perm_fins n f _).length_eq]; have := len_fdel l n; simp; omega
theorem len_fput_old {l : Fs} {n : Nm} {f g : Fl} (h : fget l n = some g) : (fput l n f).length ≤ l.length := by
  unfold fput; rw [(perm_fins n f _).length_eq]
  have := len_fdel_lt h
  simp; omega
theorem len_torn : ∀ (l : Fs) (k : List Bool), (tornAll l k).length = l.length
  | [], _ => rfl
  | (n, f) :: r, k => by simp [tornAll, len_torn r]
theorem len_begin (d : Disk) : d.begin_.files.length = d.files.length := by
  unfold Disk.begin_
  simp only
  split
  · rfl
  · split
    · unfold Disk.crash; split <;> simp [len_torn]
    · rfl
theorem len_create (d : Disk) (n : Nm) : (d.create n).1.files.length ≤ d.files.length + 1 := by
  unfold Disk.create; simp only
  have h := len_begin d
  split
  · exact Nat.le_trans (Nat.le_of_eq h) (by omega)
  · split
    · exact Nat.le_trans (Nat.le_of_eq h) (by omega)
    · split
      · exact Nat.le_trans (Nat.le_of_eq h) (by omega)
      · have := len_fput d.begin_.files n ⟨[], []⟩; simp only; omega
theorem len_append (d : Disk) (n : Nm) (b : By) : (d.append n b).1.files.length ≤ d.files.length := by
  unfold Disk.append; simp only
  have h := len_begin d
  split
  · exact Nat.le_trans (Nat.le_of_eq h) (by omega)
  · split
    · exact Nat.le_trans (Nat.le_of_eq h) (by omega)
    · rename_i hf
      split
      · exact Nat.le_trans (Nat.le_of_eq h) (by omega)
      · exact Nat.le_trans (len_fput_old hf) (by omega)
theorem len_sync (d : Disk) (n : Nm) : (d.sync n).1.files.length ≤ d.files.length := by
  unfold Disk.sync; simp only
  have h := len_begin d
  split
  · exact Nat.le_trans (Nat.le_of_eq h) (by omega)
  · split
    · exact Nat.le_trans (Nat.le_of_eq h) (by omega)
    · rename_i hf
      exact Nat.le_trans (len_fput_old hf) (by omega)
theorem len_remove (d : Disk) (n : Nm) : (d.remove n).1.files.length ≤ d.files.length := by
  unfold Disk.remove; simp only
  have h := len_begin d
  split
  · exact Nat.le_trans (Nat.le_of_eq h) (by omega)
  · split
    · exact Nat.le_trans (Nat.le_of_eq h) (by omega)
    · have := len_fdel d.begin_.files n; simp only; omega
theorem len_rename (d : Disk) (n m : Nm) : (d.rename n m).1.files.length ≤ d.files.length := by
  unfold Disk.rename; simp only
  have h := len_begin d
  split
  · exact Nat.le_trans (Nat.le_of_eq h) (by omega)
  · split
    · exact Nat.le_trans (Nat.le_of_eq h) (by omega)
    · rename_i f hf
      split
      · exact Nat.le_trans (Nat.le_of_eq h) (by omega)
      · split
        · exact Nat.le_trans (Nat.le_of_eq h) (by omega)
        · have h1 := len_fdel_lt hf
          have := len_fput (fdel d.begin_.files n) m f; simp only; omega
end Go.Cg.Dk

namespace Go.Cg.Dk
set_option linter.unusedVariables false
set_option linter.unusedSimpArgs false
/-! ### a crash, file by file -/
def tornRest : Fs → List Bool → List Bool
  | [], k => k
  | (_, f) :: r, k => tornRest r (torn f k).2
theorem tornAll_app : ∀ (l m : Fs) (k : List Bool), tornAll (l ++ m) k = tornAll l k ++ tornAll m (tornRest l k)
  | [], _, _ => rfl
  | (n, f) :: r, m, k => by simp [tornAll, tornRest, tornAll_app r]
theorem tornRest_app : ∀ (l m : Fs) (k : List Bool), tornRest (l ++ m) k = tornRest m (tornRest l k)
  | [], _, _ => rfl
  | (n, f) :: r, m, k => by simp [tornRest, tornRest_app r]
theorem used_app (l m : Fs) : used (l ++ m) = used l + used m := by simp [used]
theorem fget_swap {n m : Nm} {f g : Fl} (h : m ≠ n) : ∀ (l r : Fs), fget (l ++ (n, f) :: r) m = fget (l ++ (n, g) :: r) m
  | [], r => by simp [fget, h]
  | p :: l, r => by simp only [List.cons_append, fget]; rw [fget_swap h (g := g) l r]
theorem fput_mid {l r : Fs} {n : Nm} {f : Fl} (h : rising (l ++ (n, f) :: r)) (g : Fl) : fput (l ++ (n, f) :: r) n g = l ++ (n, g) :: r := by
  have h' : rising (l ++ (n, g) :: r) := rising_names (by simp) h
  refine files_ext (rising_fput h _ _) h' fun m => ?_
  rw [fget_fput]
  split
  · rename_i e; subst e; exact (fget_of_mem h' (by simp)).symm
  · rename_i e; exact fget_swap e l r
/-- the files when so many are done -/
def crashed (fs : Fs) (k : List Bool) (i : Nat) : Fs := tornAll (fs.take i) k ++ fs.drop i
theorem rising_crashed {fs : Fs} (h : rising fs) (k : List Bool) (i : Nat) : rising (crashed fs k i) := by
  refine rising_names ?_ h
  unfold crashed
  rw [List.map_append, tornAll_names, ← List.map_append, List.take_append_drop]
theorem crash_at {fs : Fs} (h : rising fs) (k : List Bool) {i : Nat} (hi : i < fs.length) : ∃ n f, (fs.map (·.1)).getD i [] = n ∧ (n, f) ∈ fs ∧ fget (crashed fs k i) n = some f ∧
    fput (crashed fs k i) n ⟨(torn f (tornRest (fs.take i) k)).1, (torn f (tornRest (fs.take i) k)).1⟩ = crashed fs k (i + 1) ∧ tornRest (fs.take (i + 1)) k = (torn f (tornRest (fs.take i) k)).2 ∧
    used (tornAll (fs.take (i + 1)) k) = used (tornAll (fs.take i) k) + sectors (torn f (tornRest (fs.take i) k)).1.length := by
  obtain ⟨n, f, hp⟩ : ∃ n f, fs[i] = (n, f) := ⟨_, _, rfl⟩
  have hd : fs.drop i = (n, f) :: fs.drop (i + 1) := by rw [← hp]; exact List.drop_eq_getElem_cons hi
  have ht : fs.take (i + 1) = fs.take i ++ [(n, f)] := by rw [← hp]; simp
  have hr := rising_crashed h k i
  unfold crashed at hr ⊢
  rw [hd] at hr ⊢
  refine ⟨n, f, ?_, ?_, fget_of_mem hr (by simp), ?_, ?_, ?_⟩
  · simp [List.getD_eq_getElem?_getD, List.getElem?_eq_getElem hi, hp]
  · rw [← hp]; exact List.getElem_mem hi
  · rw [fput_mid hr, ht, tornAll_app]; simp [tornAll]
  · rw [ht, tornRest_app]; rfl
  · rw [ht, tornAll_app, used_app]; simp [tornAll, used]
theorem crashed_zero (fs : Fs) (k : List Bool) : crashed fs k 0 = fs := by simp [crashed, tornAll]
theorem crashed_all (fs : Fs) (k : List Bool) : crashed fs k fs.length = tornAll fs k := by simp [crashed]
theorem tornRest_zero (fs : Fs) (k : List Bool) : tornRest (fs.take 0) k = k := by simp [tornRest]
theorem used_zero (fs : Fs) (k : List Bool) : used (tornAll (fs.take 0) k) = 0 := by simp [tornAll, used]
theorem used_take {fs : Fs} (h : ∀ p ∈ fs, p.2.syn.length ≤ p.2.now.length) (k : List Bool) (i : Nat) : used (tornAll (fs.take i) k) ≤ used fs := by
  have h1 := used_torn (l := fs.take i) k fun p hp => h p (List.mem_of_mem_take hp)
  have h2 : used fs = used (fs.take i) + used (fs.drop i) := by rw [← used_app, List.take_append_drop]
  omega
end Go.Cg.Dk

namespace Go.Cg.Dk
set_option linter.unusedVariables false
set_option linter.unusedSimpArgs false
theorem names_crash (d : Disk) (k : List Bool) : (d.crash k).files.map (·.1) = d.files.map (·.1) := by
  unfold Disk.crash; split
  · rfl
  · exact tornAll_names _ _
theorem names_begin (d : Disk) : d.begin_.files.map (·.1) = d.files.map (·.1) := by
  unfold Disk.begin_
  simp only
  split
  · rfl
  · split
    · exact names_crash _ _
    · rfl
theorem keep_crash (d : Disk) (k : List Bool) : (d.crash k).keep = d.keep := by unfold Disk.crash; split <;> rfl
theorem begin_0 {d : Disk} (h : d.armed = 0) : d.begin_ = { d with ops := IntKind.i64.wrap (d.ops + 1) } := by unfold Disk.begin_; simp [h]
theorem begin_1 {d : Disk} (h : d.armed = 1) : d.begin_ = Disk.crash d.keep { d with ops := IntKind.i64.wrap (d.ops + 1), armed := 0 } := by unfold Disk.begin_; simp [h]
theorem begin_2 {d : Disk} (h : 1 < d.armed) : d.begin_ = { d with ops := IntKind.i64.wrap (d.ops + 1), armed := d.armed - 1 } := by
  unfold Disk.begin_; simp only; rw [if_neg (by omega), if_neg (by omega)]
/-- the error that an operation begins with -/
def Disk.err (d : Disk) : Nat := if d.down then 7 else 0
end Go.Cg.Dk

namespace Go.Cg.Dk
set_option linter.unusedVariables false
set_option linter.unusedSimpArgs false
theorem fput_same {l : Fs} (h : rising l) {n : Nm} {f : Fl} (hf : fget l n = some f) : fput l n f = l := by
  refine files_ext (rising_fput h _ _) h fun m => ?_
  rw [fget_fput]; split
  · rename_i e; subst e; exact hf.symm
  · rfl
theorem fdel_comm (l : Fs) (n m : Nm) : fdel (fdel l n) m = fdel (fdel l m) n := by
  unfold fdel; rw [List.filter_filter, List.filter_filter]
  congr 1; funext p; rw [Bool.and_comm]
theorem fdel_fdel (l : Fs) (n : Nm) : fdel (fdel l n) n = fdel l n := by unfold fdel; rw [List.filter_filter]; congr 1; funext p; simp
theorem fput_fdel (l : Fs) (n : Nm) (f : Fl) : fput (fdel l n) n f = fput l n f := by unfold fput; rw [fdel_fdel]
theorem used_fput_old {l : Fs} (h : rising l) {n : Nm} {f g : Fl} (hf : fget l n = some f) : used (fput l n g) + sectors f.now.length = used l + sectors g.now.length := by
  rw [used_fput, used_fdel h hf]; omega
theorem used_fput_new {l : Fs} {n : Nm} {g : Fl} (hf : fget l n = none) : used (fput l n g) = used l + sectors g.now.length := by
  rw [used_fput, fdel_none hf]; omega
end Go.Cg.Dk

namespace Go.Cg.Dk
set_option linter.unusedVariables false
set_option linter.unusedSimpArgs false
theorem len_size (d : Disk) (n : Nm) : (d.size n).1.files.length = d.files.length := by
  unfold Disk.size; simp only
  have h := len_begin d
  split
  · exact h
  · split <;> exact h
theorem len_readAt (d : Disk) (n : Nm) (i k : Int) : (d.readAt n i k).1.files.length = d.files.length := by
  unfold Disk.readAt; simp only
  have h := len_begin d
  split
  · exact h
  · split
    · exact h
    · split <;> exact h
theorem size_le {d : Disk} (h : d.Ok) (n : Nm) : (d.size n).2.1 ≤ 17592186044416 := by
  unfold Disk.size; simp only
  split
  · simp
  · split
    · simp
    · rename_i hf; exact len_le h.begin_ hf
theorem readAt_le (d : Disk) (n : Nm) (i k : Int) (hk : k ≤ 17592186044416) : (d.readAt n i k).2.1.length ≤ 17592186044416 := by
  unfold Disk.readAt; simp only
  split
  · simp
  · split
    · simp
    · split
      · simp; omega
      · simp
end Go.Cg.Dk
