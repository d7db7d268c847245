/- What the programs over a graph do, in plain words: numbers and lists alone. No condition. -/
namespace Go.Cg.Tr
set_option linter.unusedVariables false
set_option linter.unusedSimpArgs false

structure E where
  f : Nat
  t : Nat
  w : Nat

/-- the greatest number of 64 bits -/
def top : Nat := 18446744073709551615
def sat (a b : Nat) : Nat := if a + b ≤ top then a + b else top
def summed (k : Int) : Bool := k == 4 || k == 5
def comb (s : Bool) (a b : Nat) : Nat := if s then sat a b else min a b
def msg (k : Int) (val : Nat) (out : Int) (w : Nat) : Nat :=
  if k = 1 then sat val 1 else if k = 3 then sat val w else if k = 4 then (if out < 1 then 0 else val / out.toNat) else if k = 5 then 1 else val
def nxt (k : Int) (val sum : Nat) (any : Bool) : Nat × Bool :=
  let sum := if any then sum else 0
  if k = 4 then (157284 + sum / 20 * 17, decide (157284 + sum / 20 * 17 ≠ val))
  else if k = 5 then (sum, false)
  else if any && decide (sum < val) then (sum, true) else (val, false)

def right (k : Int) (s : Nat) (n : Int) : Bool := decide (1 ≤ k ∧ k ≤ 5 ∧ 0 ≤ n ∧ n ≤ 1048576 ∧ ((k = 1 ∨ k = 3) → (s : Int) < n))
theorem nxt4 {k : Int} (h : k = 4) (x y : Nat) (b : Bool) : nxt k x y b = (157284 + (if b then y else 0) / 20 * 17, decide (157284 + (if b then y else 0) / 20 * 17 ≠ x)) := by subst h; rfl
theorem nxt5 {k : Int} (h : k = 5) (x y : Nat) (b : Bool) : nxt k x y b = (if b then y else 0, false) := by subst h; rfl
theorem nxtT {k : Int} (h4 : ¬ k = 4) (h5 : ¬ k = 5) {x y : Nat} {b : Bool} (hb : b = true) (h : y < x) : nxt k x y b = (y, true) := by subst hb; simp [nxt, h4, h5, h]
theorem nxtF {k : Int} (h4 : ¬ k = 4) (h5 : ¬ k = 5) {x y : Nat} {b : Bool} (h : b = true → ¬ y < x) : nxt k x y b = (x, false) := by cases b <;> simp_all [nxt]
/-- a graph that is right -/
def graph (n : Int) (es : List E) : Bool := decide (0 ≤ n ∧ n ≤ 1048576 ∧ es.length ≤ 1048576 ∧ ∀ e ∈ es, (e.f : Int) < n ∧ (e.t : Int) < n)
/-- a program that may run over a graph -/
def may (k : Int) (s : Nat) (n : Int) (es : List E) : Bool := graph n es && right k s n
def quiet (live : List Bool) : Bool := !live.contains true

abbrev Cfg := List Nat × List Bool

def outs (es : List E) (v : Nat) : Nat := es.countP (fun e => e.f == v)
def put (s : Bool) (m : Nat → Option Nat) (t x : Nat) : Nat → Option Nat := fun v => if v = t then some (match m t with | some y => comb s y x | none => x) else m v
def sends (k : Int) (live : List Bool) (v : Nat) : Bool := k == 4 || live.getD v false
def sendsI (k : Int) (live : List Bool) (i : Int) : Bool := if i < 0 ∨ (live.length : Int) ≤ i then false else if k = 4 then !quiet live else live.getD i.toNat false
def came (k : Int) (all : List E) (c : Cfg) : List E → (Nat → Option Nat) → (Nat → Option Nat)
  | [], m => m
  | e :: es, m => came k all c es (if sends k c.2 e.f then put (summed k) m e.t (msg k (c.1.getD e.f 0) (outs all e.f) e.w) else m)
def nexts (k : Int) (es : List E) (c : Cfg) (v : Nat) : Nat × Bool :=
  nxt k (c.1.getD v 0) ((came k es c es (fun _ => none) v).getD 0) (came k es c es (fun _ => none) v).isSome
def step (k : Int) (es : List E) (c : Cfg) : Cfg :=
  if quiet c.2 then c else ((List.range c.1.length).map fun v => (nexts k es c v).1, (List.range c.1.length).map fun v => (nexts k es c v).2)
def start (k : Int) (s n : Nat) : Cfg :=
  ((List.range n).map fun v => if k = 1 ∨ k = 3 then (if v = s then 0 else top) else if k = 2 then v else if k = 4 then 1048576 else 0,
   (List.range n).map fun v => if k = 1 ∨ k = 3 then decide (v = s) else true)
/-- what a beginning tells: nothing, where it may not be -/
def startR (k : Int) (s : Nat) (n : Int) (es : List E) : Cfg := if may k s n es then start k s n.toNat else ([], [])
def err (b : Bool) : Int := if b then 0 else 1
def sv (k : Int) (v : Nat) : Nat := if k = 1 ∨ k = 3 then top else if k = 2 then v else if k = 4 then 1048576 else 0
def sl (k : Int) : Bool := !decide (k = 1 ∨ k = 3)
theorem may_facts {k : Int} {s : Nat} {n : Int} {es : List E} (h : may k s n es = true) : 0 ≤ n ∧ n ≤ 1048576 ∧ es.length ≤ 1048576 ∧ (∀ e ∈ es, (e.f : Int) < n ∧ (e.t : Int) < n) ∧ 1 ≤ k ∧ k ≤ 5 ∧ ((k = 1 ∨ k = 3) → (s : Int) < n) := by
  simp only [may, graph, right, Bool.and_eq_true, decide_eq_true_eq] at h
  exact ⟨h.1.1, h.1.2.1, h.1.2.2.1, h.1.2.2.2, h.2.1, h.2.2.1, h.2.2.2.2.2⟩
def trace (k : Int) (es : List E) : Nat → Cfg → Cfg
  | 0, c => c
  | j + 1, c => if quiet c.2 then c else trace k es j (step k es c)

/-! ### lengths -/
theorem len_step {k : Int} {es : List E} {c : Cfg} {n : Nat} (h1 : c.1.length = n) (h2 : c.2.length = n) : (step k es c).1.length = n ∧ (step k es c).2.length = n := by
  unfold step; split <;> simp [*]
theorem len_start (k : Int) (s n : Nat) : (start k s n).1.length = n ∧ (start k s n).2.length = n := by simp [start]

/-- the j-th config, quiet or not -/
def iter (k : Int) (es : List E) : Nat → Cfg → Cfg
  | 0, c => c
  | j + 1, c => step k es (iter k es j c)
theorem step_quiet {k : Int} {es : List E} {c : Cfg} (h : quiet c.2 = true) : step k es c = c := by unfold step; rw [if_pos h]
theorem iter_quiet {k : Int} {es : List E} {c : Cfg} (h : quiet c.2 = true) : ∀ j, iter k es j c = c
  | 0 => rfl
  | j + 1 => by rw [iter, iter_quiet h j, step_quiet h]
theorem iter_step (k : Int) (es : List E) (c : Cfg) : ∀ j, iter k es j (step k es c) = iter k es (j + 1) c
  | 0 => rfl
  | j + 1 => by show step k es (iter k es j (step k es c)) = _; rw [iter_step k es c j]; rfl
theorem iter_stays {k : Int} {es : List E} {c : Cfg} {d : Nat} (h : quiet (iter k es d c).2 = true) : ∀ i, iter k es (d + i) c = iter k es d c
  | 0 => rfl
  | i + 1 => by show step k es (iter k es (d + i) c) = _; rw [iter_stays h i, step_quiet h]
/-- what Trace tells, and Step -/
def traceR (k : Int) (s : Nat) (n : Int) (es : List E) (j : Int) : Cfg := if may k s n es && decide (0 ≤ j) then iter k es j.toNat (start k s n.toNat) else ([], [])
def stepOk (k : Int) (s : Nat) (n : Int) (es : List E) (c : Cfg) : Bool := may k s n es && decide ((c.1.length : Int) = n) && decide ((c.2.length : Int) = n)
def stepR (k : Int) (s : Nat) (n : Int) (es : List E) (c : Cfg) : Cfg := if stepOk k s n es c then step k es c else ([], [])
/-- a graph cut to forty edges, that is right; or none -/
def few (n : Int) (es : List E) : Int × List E := if graph n (es.take (min es.length 40)) && decide (n ≤ 60) then (n, es.take (min es.length 40)) else (0, [])
theorem few_facts {n : Int} {es : List E} : 0 ≤ (few n es).1 ∧ (few n es).1 ≤ 60 ∧ (few n es).2.length ≤ 40 ∧ graph (few n es).1 (few n es).2 = true ∧ (∀ e ∈ (few n es).2, e ∈ es) := by
  unfold few
  split
  · rename_i h
    simp only [Bool.and_eq_true, decide_eq_true_eq] at h
    have hg := h.1
    unfold graph at hg
    rw [decide_eq_true_eq] at hg
    refine ⟨hg.1, h.2, ?_, h.1, fun e he => List.mem_of_mem_take he⟩
    simp only [List.length_take]; omega
  · refine ⟨by decide, by decide, by decide, by decide, fun e he => by cases he⟩
theorem trace_eq (k : Int) (es : List E) : ∀ (j : Nat) (c : Cfg), trace k es j c = iter k es j c
  | 0, _ => rfl
  | j + 1, c => by
    unfold trace
    split
    · rename_i h; rw [iter_quiet h]
    · rw [trace_eq k es j, iter_step]
theorem len_iter {k : Int} {es : List E} {c : Cfg} {n : Nat} (h1 : c.1.length = n) (h2 : c.2.length = n) : ∀ j, (iter k es j c).1.length = n ∧ (iter k es j c).2.length = n
  | 0 => ⟨h1, h2⟩
  | j + 1 => by obtain ⟨a, b⟩ := len_iter (k := k) (es := es) h1 h2 j; exact len_step a b

theorem quiet_iff (l : List Bool) : quiet l = true ↔ ∀ v, l.getD v false = false := by
  unfold quiet
  simp only [Bool.not_eq_true', List.contains_eq_mem, decide_eq_false_iff_not]
  constructor
  · intro h v
    rw [List.getD_eq_getElem?_getD]
    cases hv : l[v]? with
    | none => rfl
    | some x => cases x with
      | false => rfl
      | true => exact absurd (List.mem_of_getElem? hv) h
  · intro h hm
    obtain ⟨v, hv⟩ := List.getElem?_of_mem hm
    have := h v
    rw [List.getD_eq_getElem?_getD, hv] at this
    simp at this

/-! ### the three that take the least -/
def least (k : Int) : Prop := k = 1 ∨ k = 2 ∨ k = 3
theorem least.sum {k : Int} (h : least k) : summed k = false := by rcases h with rfl | rfl | rfl <;> rfl
theorem least.sends {k : Int} (h : least k) (l : List Bool) (v : Nat) : sends k l v = l.getD v false := by rcases h with rfl | rfl | rfl <;> simp [Tr.sends]
theorem least.nxt {k : Int} (h : least k) (val sum : Nat) (any : Bool) : nxt k val sum any = if any = true ∧ sum < val then (sum, true) else (val, false) := by
  rcases h with rfl | rfl | rfl <;> cases any <;> simp [Tr.nxt]

theorem put_least (m : Nat → Option Nat) (t x v : Nat) : put false m t x v = if v = t then some (match m t with | some y => min y x | none => x) else m v := rfl

/-- what comes is the least of what is sent -/
theorem came_some {k : Int} (hk : least k) (all : List E) (c : Cfg) : ∀ (es : List E) (m : Nat → Option Nat) (v x : Nat), came k all c es m v = some x →
    m v = some x ∨ ∃ e ∈ es, c.2.getD e.f false = true ∧ e.t = v ∧ msg k (c.1.getD e.f 0) (outs all e.f) e.w = x
  | [], _, _, _, h => .inl h
  | e :: es, m, v, x, h => by
    unfold came at h
    rcases came_some hk all c es _ v x h with g | ⟨e', he', h1, h2, h3⟩
    · clear h
      split at g
      · rename_i hs
        rw [hk.sends] at hs
        rw [hk.sum, put_least] at g
        split at g
        · rename_i hv
          subst hv
          cases hm : m e.t with
          | none => rw [hm] at g; simp only [Option.some.injEq] at g; exact .inr ⟨e, by simp, hs, rfl, g⟩
          | some y =>
            rw [hm] at g
            simp only [Option.some.injEq] at g
            by_cases hyx : y ≤ msg k (c.1.getD e.f 0) (outs all e.f) e.w
            · left; rw [← g, Nat.min_eq_left hyx]
            · right; exact ⟨e, by simp, hs, rfl, by rw [← g]; omega⟩
        · exact .inl g
      · exact .inl g
    · exact .inr ⟨e', by simp [he'], h1, h2, h3⟩

theorem came_le_acc {k : Int} (hk : least k) (all : List E) (c : Cfg) : ∀ (es : List E) (m : Nat → Option Nat) (v y : Nat), m v = some y → ∃ x, came k all c es m v = some x ∧ x ≤ y
  | [], _, _, y, h => ⟨y, h, Nat.le_refl _⟩
  | e :: es, m, v, y, h => by
    unfold came
    split
    · rw [hk.sum]
      by_cases hv : v = e.t
      · subst hv
        obtain ⟨x, hx, hle⟩ := came_le_acc hk all c es (put false m e.t (msg k (c.1.getD e.f 0) (outs all e.f) e.w)) e.t (min y (msg k (c.1.getD e.f 0) (outs all e.f) e.w)) (by simp [put_least, h])
        exact ⟨x, hx, Nat.le_trans hle (Nat.min_le_left _ _)⟩
      · exact came_le_acc hk all c es _ v y (by simp [put_least, hv, h])
    · exact came_le_acc hk all c es m v y h

theorem came_le {k : Int} (hk : least k) (all : List E) (c : Cfg) : ∀ (es : List E) (m : Nat → Option Nat) (e : E), e ∈ es → c.2.getD e.f false = true →
    ∃ x, came k all c es m e.t = some x ∧ x ≤ msg k (c.1.getD e.f 0) (outs all e.f) e.w
  | e' :: es, m, e, he, hs => by
    unfold came
    rcases List.mem_cons.1 he with rfl | he
    · rw [if_pos (by rw [hk.sends]; exact hs), hk.sum]
      cases hm : m e.t with
      | none => exact came_le_acc hk all c es _ e.t _ (by simp [put_least, hm])
      | some y =>
        obtain ⟨x, hx, hle⟩ := came_le_acc hk all c es (put false m e.t (msg k (c.1.getD e.f 0) (outs all e.f) e.w)) e.t (min y (msg k (c.1.getD e.f 0) (outs all e.f) e.w)) (by simp [put_least, hm])
        exact ⟨x, hx, Nat.le_trans hle (Nat.min_le_right _ _)⟩
    · exact came_le hk all c es _ e he hs

theorem getD_range_map {α : Type} (f : Nat → α) (n v : Nat) (d : α) (h : v < n) : ((List.range n).map f).getD v d = f v := by
  rw [List.getD_eq_getElem?_getD]; simp [h]
theorem getD_far {α : Type} (l : List α) (v : Nat) (d : α) (h : l.length ≤ v) : l.getD v d = d := by
  rw [List.getD_eq_getElem?_getD, List.getElem?_eq_none h]; rfl

/-- a step, vertex by vertex: it has got less, by a live one's message, and is live; or it is as it was, and no live one's message is less -/
theorem step_cases {k : Int} (hk : least k) {es : List E} {c : Cfg} {n : Nat} (h1 : c.1.length = n) (h2 : c.2.length = n) {v : Nat} (hv : v < n) :
    ((step k es c).2.getD v false = true ∧ (step k es c).1.getD v 0 < c.1.getD v 0 ∧ ∃ e ∈ es, c.2.getD e.f false = true ∧ e.t = v ∧ (step k es c).1.getD v 0 = msg k (c.1.getD e.f 0) (outs es e.f) e.w) ∨
    (((step k es c).2.getD v false = true → quiet c.2 = true) ∧ (step k es c).1.getD v 0 = c.1.getD v 0) := by
  unfold step
  split
  · rename_i hq; exact .inr ⟨fun _ => hq, rfl⟩
  · rename_i hq
    simp only
    rw [h1, getD_range_map _ _ _ _ hv, getD_range_map _ _ _ _ hv]
    unfold nexts
    rw [hk.nxt]
    cases hc : came k es c es (fun _ => none) v with
    | none => right; simp [hc]
    | some x =>
      simp only [Option.getD_some, Option.isSome_some, true_and]
      by_cases hx : x < c.1.getD v 0
      · left
        rw [if_pos hx]
        rcases came_some hk es c es _ v x hc with h | ⟨e, he, hs, ht, hm⟩
        · cases h
        · exact ⟨rfl, hx, e, he, hs, ht, hm.symm⟩
      · right; rw [if_neg hx]; simp

/-- .. and each live one's message is taken -/
theorem step_le {k : Int} (hk : least k) {es : List E} {c : Cfg} {n : Nat} (h1 : c.1.length = n) (h2 : c.2.length = n) {e : E} (he : e ∈ es) (ht : e.t < n) (hs : c.2.getD e.f false = true) :
    (step k es c).1.getD e.t 0 ≤ msg k (c.1.getD e.f 0) (outs es e.f) e.w := by
  have hq : ¬ quiet c.2 = true := fun h => by rw [quiet_iff] at h; rw [h] at hs; cases hs
  unfold step
  rw [if_neg hq]
  simp only
  rw [h1, getD_range_map _ _ _ _ ht]
  unfold nexts
  rw [hk.nxt]
  obtain ⟨x, hx, hle⟩ := came_le hk es c es (fun _ => none) e he hs
  rw [hx]
  simp only [Option.getD_some, Option.isSome_some, true_and]
  split
  · exact hle
  · omega

theorem step_down {k : Int} (hk : least k) {es : List E} {c : Cfg} {n : Nat} (h1 : c.1.length = n) (h2 : c.2.length = n) (v : Nat) : (step k es c).1.getD v 0 ≤ c.1.getD v 0 := by
  by_cases hv : v < n
  · rcases step_cases hk h1 h2 (es := es) hv with h | h
    · omega
    · omega
  · rw [getD_far _ _ _ (by rw [(len_step h1 h2).1]; omega)]; omega

theorem iter_down {k : Int} (hk : least k) {es : List E} {c : Cfg} {n : Nat} (h1 : c.1.length = n) (h2 : c.2.length = n) (v : Nat) {i : Nat} : ∀ {j : Nat}, i ≤ j → (iter k es j c).1.getD v 0 ≤ (iter k es i c).1.getD v 0
  | 0, h => by obtain rfl : i = 0 := by omega
               exact Nat.le_refl _
  | j + 1, h => by
    by_cases e : i = j + 1
    · subst e; exact Nat.le_refl _
    · obtain ⟨a, b⟩ := len_iter (k := k) (es := es) h1 h2 j
      exact Nat.le_trans (step_down hk a b v) (iter_down hk h1 h2 v (by omega))

theorem msg_ge {k : Int} (hk : least k) {val : Nat} (hv : val ≤ top) (out : Int) (w : Nat) : val ≤ msg k val out w := by
  rcases hk with rfl | rfl | rfl <;> simp only [msg, sat] <;> (repeat' split) <;> first | omega | simp_all

/-- a live vertex behind j steps has j others ahead of it, one live at each step: so there are more than j vertices -/
theorem chain {k : Int} (hk : least k) {es : List E} {c : Cfg} {n : Nat} (h1 : c.1.length = n) (h2 : c.2.length = n) (hes : ∀ e ∈ es, e.f < n ∧ e.t < n) (htop : ∀ v, c.1.getD v 0 ≤ top) :
    ∀ (j v : Nat), (iter k es j c).2.getD v false = true → ∃ l : List Nat, l.length = j + 1 ∧ l.Nodup ∧ (∀ u ∈ l, u < n) ∧ (∀ u ∈ l, ∃ i, i ≤ j ∧ (iter k es i c).1.getD u 0 ≤ (iter k es j c).1.getD v 0)
  | 0, v, h => by
    refine ⟨[v], rfl, by simp, ?_, fun u hu => ⟨0, Nat.le_refl _, by simp at hu; subst hu; exact Nat.le_refl _⟩⟩
    intro u hu
    simp at hu; subst hu
    by_cases hv : u < n
    · exact hv
    · rw [getD_far _ _ _ (by show c.2.length ≤ u; omega)] at h; cases h
  | j + 1, v, h => by
    obtain ⟨a, b⟩ := len_iter (k := k) (es := es) h1 h2 j
    have hv : v < n := by
      by_cases hv : v < n
      · exact hv
      · rw [getD_far _ _ _ (by rw [(len_iter (k := k) (es := es) h1 h2 (j + 1)).2]; omega)] at h; cases h
    rcases step_cases hk a b (es := es) hv with ⟨_, hlt, e, he, hs, ht, hm⟩ | ⟨hq, _⟩
    · obtain ⟨l, hl, hnd, hln, hle⟩ := chain hk h1 h2 hes htop j e.f hs
      have hge : (iter k es j c).1.getD e.f 0 ≤ (iter k es (j + 1) c).1.getD v 0 := by
        show _ ≤ (step k es (iter k es j c)).1.getD v 0
        rw [hm]
        exact msg_ge hk (Nat.le_trans (iter_down hk h1 h2 e.f (Nat.zero_le j)) (htop _)) _ _
      refine ⟨v :: l, by simp [hl], List.nodup_cons.2 ⟨fun hin => ?_, hnd⟩, ?_, ?_⟩
      · obtain ⟨i, hij, hi⟩ := hle v hin
        have h3 := iter_down hk h1 h2 v (es := es) hij
        have h4 : (iter k es (j + 1) c).1.getD v 0 < (iter k es j c).1.getD v 0 := hlt
        omega
      · intro u hu
        rcases List.mem_cons.1 hu with rfl | hu
        · exact hv
        · exact hln u hu
      · intro u hu
        rcases List.mem_cons.1 hu with rfl | hu
        · exact ⟨j + 1, Nat.le_refl _, Nat.le_refl _⟩
        · obtain ⟨i, hij, hi⟩ := hle u hu
          exact ⟨i, by omega, by omega⟩
    · have hq' := hq h
      rw [iter, step_quiet hq'] at h
      rw [quiet_iff] at hq'
      rw [hq'] at h; cases h

theorem nodup_le : ∀ (n : Nat) (l : List Nat), l.Nodup → (∀ x ∈ l, x < n) → l.length ≤ n
  | 0, l, _, h => by
    cases l with
    | nil => simp
    | cons x r => exact absurd (h x (by simp)) (by omega)
  | n + 1, l, hn, h => by
    have h1 := nodup_le n (l.erase n) (hn.erase n) (fun x hx => by
      have hx' := h x (List.mem_of_mem_erase hx)
      have hne : x ≠ n := fun e => by subst e; exact (List.Nodup.mem_erase_iff hn).1 hx |>.1 rfl
      omega)
    have h2 := List.length_erase (a := n) (l := l)
    split at h2 <;> omega

/-- behind as many steps as there are vertices it is quiet -/
theorem quiet_at {k : Int} (hk : least k) {es : List E} {c : Cfg} {n : Nat} (h1 : c.1.length = n) (h2 : c.2.length = n) (hes : ∀ e ∈ es, e.f < n ∧ e.t < n) (htop : ∀ v, c.1.getD v 0 ≤ top) (j : Nat) (hj : n ≤ j) :
    quiet (iter k es j c).2 = true := by
  rw [quiet_iff]
  intro v
  by_cases h : (iter k es j c).2.getD v false = true
  · obtain ⟨l, hl, hnd, hln, _⟩ := chain hk h1 h2 hes htop j v h
    have := nodup_le n l hnd hln
    omega
  · simpa using h

/-- no edge from one that is not live makes less -/
def Eased (k : Int) (es : List E) (c : Cfg) : Prop := ∀ e ∈ es, c.2.getD e.f false = false → c.1.getD e.t 0 ≤ msg k (c.1.getD e.f 0) (outs es e.f) e.w
theorem eased_step {k : Int} (hk : least k) {es : List E} {c : Cfg} {n : Nat} (h1 : c.1.length = n) (h2 : c.2.length = n) (hes : ∀ e ∈ es, e.f < n ∧ e.t < n) (h : Eased k es c) : Eased k es (step k es c) := by
  intro e he hnl
  obtain ⟨hf, ht⟩ := hes e he
  by_cases hq : quiet c.2 = true
  · rw [step_quiet hq] at hnl ⊢; exact h e he hnl
  · rcases step_cases hk h1 h2 (es := es) hf with ⟨hl, _⟩ | ⟨_, hsame⟩
    · rw [hl] at hnl; cases hnl
    · rw [hsame]
      by_cases hl : c.2.getD e.f false = true
      · exact step_le hk h1 h2 he ht hl
      · exact Nat.le_trans (step_down hk h1 h2 e.t) (h e he (by simpa using hl))
theorem eased_iter {k : Int} (hk : least k) {es : List E} {c : Cfg} {n : Nat} (h1 : c.1.length = n) (h2 : c.2.length = n) (hes : ∀ e ∈ es, e.f < n ∧ e.t < n) (h : Eased k es c) : ∀ j, Eased k es (iter k es j c)
  | 0 => h
  | j + 1 => by
    obtain ⟨a, b⟩ := len_iter (k := k) (es := es) h1 h2 j
    exact eased_step hk a b hes (eased_iter hk h1 h2 hes h j)
end Go.Cg.Tr
